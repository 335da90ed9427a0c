/- The conditions of functions, as the generator reckons them out, each with the proof that it is that. -/
import Derived.Test.YtgdhddignbkloaaCtx
namespace Go.Proofs.Ytgdhddignbkloaa
open Go Go.Vc
set_option maxRecDepth 100000
set_option linter.unusedVariables false

def tollerref05_Numbers_vc (c_Validators : Sl) (c_Epoch : Int) (c_Committee : Int) (c_Nodes : Int) (c_Orphans : Int) (c_Early : Int) (c_Quota : Int) (c_Peers : Int) (c_Bytes : Int) (c_Window : Int) (c_Ban : Int) (c_Decay : Int) (h : Heap) (R : Value → Heap → Prop) : Prop :=
 Vc.Bind
 (newTV h
 (TV.agg
 [TV.slice c_Validators, TV.int IntKind.i64 c_Epoch, TV.int IntKind.i64 c_Committee, TV.int IntKind.i64 c_Nodes, TV.int IntKind.i64 c_Orphans,
 TV.int IntKind.i64 c_Early, TV.int IntKind.i64 c_Quota, TV.int IntKind.i64 c_Peers, TV.int IntKind.i64 c_Bytes, TV.int IntKind.i64 c_Window,
 TV.int IntKind.i64 c_Ban, TV.int IntKind.i64 c_Decay])
 (24 : Nat))
 fun (h_1 : Array Obj) ↦
 ∃ (n : Int),
 at1 h_1 (Array.size h) (1 : Nat) (Value.int IntKind.i64 n) ∧
 ∃ (n_1 : Int),
 at1 h_1 (Array.size h) (2 : Nat) (Value.int IntKind.i64 n_1) ∧
 ∃ (s : Sl),
 at1 h_1 (Array.size h) (0 : Nat) (slVal s) ∧
 ∃ (n_2 : Int),
 at1 h_1 (Array.size h) (3 : Nat) (Value.int IntKind.i64 n_2) ∧
 ∃ (n_3 : Int),
 at1 h_1 (Array.size h) (4 : Nat) (Value.int IntKind.i64 n_3) ∧
 ∃ (n_4 : Int),
 at1 h_1 (Array.size h) (5 : Nat) (Value.int IntKind.i64 n_4) ∧
 ∃ (n_5 : Int),
 at1 h_1 (Array.size h) (6 : Nat) (Value.int IntKind.i64 n_5) ∧
 ∃ (n_6 : Int),
 at1 h_1 (Array.size h) (7 : Nat) (Value.int IntKind.i64 n_6) ∧
 ∃ (n_7 : Int),
 at1 h_1 (Array.size h) (8 : Nat) (Value.int IntKind.i64 n_7) ∧
 ∃ (n_8 : Int),
 at1 h_1 (Array.size h) (9 : Nat) (Value.int IntKind.i64 n_8) ∧
 ∃ (n_9 : Int),
 at1 h_1 (Array.size h) (10 : Nat) (Value.int IntKind.i64 n_9) ∧
 ∃ (n_10 : Int),
 at1 h_1 (Array.size h) (11 : Nat) (Value.int IntKind.i64 n_10) ∧
 ∃ (s_1 : Sl),
 at1 h_1 (Array.size h) (0 : Nat) (slVal s_1) ∧
 R (TV.val (TV.slice (Sl.mk (some (Loc.mk (Array.size h_1) (0 : Nat))) (24 : Nat) (24 : Nat))))
 (Array.push h_1
 (row
 (TVs.cells
 [TV.int IntKind.i64 n, TV.int IntKind.i64 (32 : Int), TV.int IntKind.i64 n_1,
 TV.int IntKind.i64 (mn (16 : Int) (↑s.len : Int)), TV.int IntKind.i64 n_2,
 TV.int IntKind.i64 (256 : Int), TV.int IntKind.i64 n_3, TV.int IntKind.i64 (64 : Int),
 TV.int IntKind.i64 n_4, TV.int IntKind.i64 (64 : Int), TV.int IntKind.i64 n_5,
 TV.int IntKind.i64 (64 : Int), TV.int IntKind.i64 n_6, TV.int IntKind.i64 (16 : Int),
 TV.int IntKind.i64 n_7, TV.int IntKind.i64 (256 : Int), TV.int IntKind.i64 n_8,
 TV.int IntKind.i64 (64 : Int), TV.int IntKind.i64 n_9, TV.int IntKind.i64 (1048576 : Int),
 TV.int IntKind.i64 n_10, TV.int IntKind.i64 (1048576 : Int),
 TV.int IntKind.i64 (↑s_1.len : Int), TV.int IntKind.i64 (64 : Int)])
 (3 : Nat)))

theorem tollerref05_Numbers_calls (c_Validators : Sl) (c_Epoch : Int) (c_Committee : Int) (c_Nodes : Int) (c_Orphans : Int) (c_Early : Int) (c_Quota : Int) (c_Peers : Int) (c_Bytes : Int) (c_Window : Int) (c_Ban : Int) (c_Decay : Int) (h : Heap) (R : Value → Heap → Prop) (H : tollerref05_Numbers_vc c_Validators c_Epoch c_Committee c_Nodes c_Orphans c_Early c_Quota c_Peers c_Bytes c_Window c_Ban c_Decay h R) : CallsH Try.prog 41 (TVs.vals [TV.agg [TV.slice c_Validators, TV.int IntKind.i64 c_Epoch, TV.int IntKind.i64 c_Committee, TV.int IntKind.i64 c_Nodes, TV.int IntKind.i64 c_Orphans, TV.int IntKind.i64 c_Early, TV.int IntKind.i64 c_Quota, TV.int IntKind.i64 c_Peers, TV.int IntKind.i64 c_Bytes, TV.int IntKind.i64 c_Window, TV.int IntKind.i64 c_Ban, TV.int IntKind.i64 c_Decay]]) h R :=
 vcFn_sound (C := ctx) ctx_ok (fn := Try.f41) Try.func41 ((by kernel_rfl : tollerref05_Numbers_vc c_Validators c_Epoch c_Committee c_Nodes c_Orphans c_Early c_Quota c_Peers c_Bytes c_Window c_Ban c_Decay h R = vcFn ctx Try.f41 [TV.agg [TV.slice c_Validators, TV.int IntKind.i64 c_Epoch, TV.int IntKind.i64 c_Committee, TV.int IntKind.i64 c_Nodes, TV.int IntKind.i64 c_Orphans, TV.int IntKind.i64 c_Early, TV.int IntKind.i64 c_Quota, TV.int IntKind.i64 c_Peers, TV.int IntKind.i64 c_Bytes, TV.int IntKind.i64 c_Window, TV.int IntKind.i64 c_Ban, TV.int IntKind.i64 c_Decay]] h R) ▸ H)


def tollerref05_Total_vc (l_ : Sl) (h : Heap) (R : Value → Heap → Prop) : Prop :=
 Go.Vc.Loop ((0 : Int), false, (0 : Int), (0 : Int)) h fun (s : Int × Bool × Int × Int) (h : Array Obj) (K : Int × Bool × Int × Int → Array Obj → Prop) ↦
 If (decide (s.snd.snd.snd < (↑l_.len : Int)))
 ((0 : Int) ≤ s.snd.snd.snd ∧
 s.snd.snd.snd < (↑l_.len : Int) ∧
 Nn l_.a fun (l : Go.Vc.Loc) ↦
 ∃ (n : Int),
 ∃ (s_1 : List UInt8),
 (at1 h l.b (l.o + Int.toNat s.snd.snd.snd * (2 : Nat)) (Value.int IntKind.i64 n) ∧
 at1 h l.b (l.o + Int.toNat s.snd.snd.snd * (2 : Nat) + (1 : Nat)) (Value.string (ByteArray.mk (List.toArray s_1)))) ∧
 Vc.Bind (newTV h (TV.agg [TV.int IntKind.i64 (0 : Int), TV.str []]) (59 : Nat)) fun (h_1 : Array Obj) ↦
 wok h_1 (Array.size h) (0 : Nat) (2 : Nat) ∧
 Vc.Bind (TV.put h_1 (Array.size h) (0 : Nat) (TV.agg [TV.int IntKind.i64 n, TV.str s_1])) fun (h_2 : Array Obj) ↦
 ∃ (n : Int),
 at1 h_2 (Array.size h) (0 : Nat) (Value.int IntKind.i64 n) ∧
 If (decide (n < (0 : Int))) (R (TV.val (TV.tup [TV.int IntKind.i64 (0 : Int), TV.bool false])) h_2)
 (∃ (s_2 : List UInt8),
 at1 h_2 (Array.size h) (1 : Nat) (Value.string (ByteArray.mk (List.toArray s_2))) ∧
 If (decide ((↑(List.length s_2) : Int) < (1 : Int))) (R (TV.val (TV.tup [TV.int IntKind.i64 (0 : Int), TV.bool false])) h_2)
 (∃ (s_3 : List UInt8),
 at1 h_2 (Array.size h) (1 : Nat) (Value.string (ByteArray.mk (List.toArray s_3))) ∧
 If (decide ((32 : Int) < (↑(List.length s_3) : Int)))
 (R (TV.val (TV.tup [TV.int IntKind.i64 (0 : Int), TV.bool false])) h_2)
 (∃ (n : Int),
 at1 h_2 (Array.size h) (0 : Nat) (Value.int IntKind.i64 n) ∧
 If (decide ((4611686018427387904 : Int) ≤ IntKind.wrap IntKind.u64 (s.snd.snd.fst + IntKind.wrap IntKind.u64 n)))
 (R (TV.val (TV.tup [TV.int IntKind.i64 (0 : Int), TV.bool false])) h_2)
 (K
 (s.fst, s.snd.fst, IntKind.wrap IntKind.u64 (s.snd.snd.fst + IntKind.wrap IntKind.u64 n),
 IntKind.wrap IntKind.i64 (s.snd.snd.snd + (1 : Int)))
 h_2)))))
 (R (TV.val (TV.tup [TV.int IntKind.i64 (IntKind.wrap IntKind.i64 s.snd.snd.fst), TV.bool true])) h)

theorem tollerref05_Total_calls (l_ : Sl) (h : Heap) (R : Value → Heap → Prop) (H : tollerref05_Total_vc l_ h R) : CallsH Try.prog 42 (TVs.vals [TV.slice l_]) h R :=
 vcFn_sound (C := ctx) ctx_ok (fn := Try.f42) Try.func42 ((by kernel_rfl : tollerref05_Total_vc l_ h R = vcFn ctx Try.f42 [TV.slice l_] h R) ▸ H)


def tollerref05_Great_vc (c_Validators : Sl) (c_Epoch : Int) (c_Committee : Int) (c_Nodes : Int) (c_Orphans : Int) (c_Early : Int) (c_Quota : Int) (c_Peers : Int) (c_Bytes : Int) (c_Window : Int) (c_Ban : Int) (c_Decay : Int) (h : Heap) (R : Value → Heap → Prop) : Prop :=
 Vc.Bind
 (newTV h
 (TV.agg
 [TV.slice c_Validators, TV.int IntKind.i64 c_Epoch, TV.int IntKind.i64 c_Committee, TV.int IntKind.i64 c_Nodes, TV.int IntKind.i64 c_Orphans,
 TV.int IntKind.i64 c_Early, TV.int IntKind.i64 c_Quota, TV.int IntKind.i64 c_Peers, TV.int IntKind.i64 c_Bytes, TV.int IntKind.i64 c_Window,
 TV.int IntKind.i64 c_Ban, TV.int IntKind.i64 c_Decay])
 (24 : Nat))
 fun (h_1 : Array Obj) ↦
 ∃ (s : Sl),
 at1 h_1 (Array.size h) (0 : Nat) (slVal s) ∧
 If (decide ((100 : Int) < (↑s.len : Int))) (R (TV.val (TV.bool true)) h_1)
 (∃ (s : Sl),
 at1 h_1 (Array.size h) (0 : Nat) (slVal s) ∧
 Go.Vc.Loop (false, (0 : Int)) h_1 fun (s_1 : Bool × Int) (h : Array Obj) (K : Bool × Int → Array Obj → Prop) ↦
 If (decide (s_1.snd < (↑s.len : Int)))
 ((0 : Int) ≤ s_1.snd ∧
 s_1.snd < (↑s.len : Int) ∧
 Nn s.a fun (l : Go.Vc.Loc) ↦
 ∃ (n : Int),
 ∃ (s : List UInt8),
 (at1 h l.b (l.o + Int.toNat s_1.snd * (2 : Nat)) (Value.int IntKind.i64 n) ∧
 at1 h l.b (l.o + Int.toNat s_1.snd * (2 : Nat) + (1 : Nat)) (Value.string (ByteArray.mk (List.toArray s)))) ∧
 Vc.Bind (newTV h (TV.agg [TV.int IntKind.i64 (0 : Int), TV.str []]) (59 : Nat)) fun (h_2 : Array Obj) ↦
 wok h_2 (Array.size h) (0 : Nat) (2 : Nat) ∧
 Vc.Bind (TV.put h_2 (Array.size h) (0 : Nat) (TV.agg [TV.int IntKind.i64 n, TV.str s])) fun (h_3 : Array Obj) ↦
 ∃ (s : List UInt8),
 at1 h_3 (Array.size h) (1 : Nat) (Value.string (ByteArray.mk (List.toArray s))) ∧
 If (decide ((200 : Int) < (↑(List.length s) : Int))) (R (TV.val (TV.bool true)) h_3)
 (K (s_1.fst, IntKind.wrap IntKind.i64 (s_1.snd + (1 : Int))) h_3))
 (R (TV.val (TV.bool false)) h))

theorem tollerref05_Great_calls (c_Validators : Sl) (c_Epoch : Int) (c_Committee : Int) (c_Nodes : Int) (c_Orphans : Int) (c_Early : Int) (c_Quota : Int) (c_Peers : Int) (c_Bytes : Int) (c_Window : Int) (c_Ban : Int) (c_Decay : Int) (h : Heap) (R : Value → Heap → Prop) (H : tollerref05_Great_vc c_Validators c_Epoch c_Committee c_Nodes c_Orphans c_Early c_Quota c_Peers c_Bytes c_Window c_Ban c_Decay h R) : CallsH Try.prog 24 (TVs.vals [TV.agg [TV.slice c_Validators, TV.int IntKind.i64 c_Epoch, TV.int IntKind.i64 c_Committee, TV.int IntKind.i64 c_Nodes, TV.int IntKind.i64 c_Orphans, TV.int IntKind.i64 c_Early, TV.int IntKind.i64 c_Quota, TV.int IntKind.i64 c_Peers, TV.int IntKind.i64 c_Bytes, TV.int IntKind.i64 c_Window, TV.int IntKind.i64 c_Ban, TV.int IntKind.i64 c_Decay]]) h R :=
 vcFn_sound (C := ctx) ctx_ok (fn := Try.f24) Try.func24 ((by kernel_rfl : tollerref05_Great_vc c_Validators c_Epoch c_Committee c_Nodes c_Orphans c_Early c_Quota c_Peers c_Bytes c_Window c_Ban c_Decay h R = vcFn ctx Try.f24 [TV.agg [TV.slice c_Validators, TV.int IntKind.i64 c_Epoch, TV.int IntKind.i64 c_Committee, TV.int IntKind.i64 c_Nodes, TV.int IntKind.i64 c_Orphans, TV.int IntKind.i64 c_Early, TV.int IntKind.i64 c_Quota, TV.int IntKind.i64 c_Peers, TV.int IntKind.i64 c_Bytes, TV.int IntKind.i64 c_Window, TV.int IntKind.i64 c_Ban, TV.int IntKind.i64 c_Decay]] h R) ▸ H)


def tollerref05_Good_vc (c_Validators : Sl) (c_Epoch : Int) (c_Committee : Int) (c_Nodes : Int) (c_Orphans : Int) (c_Early : Int) (c_Quota : Int) (c_Peers : Int) (c_Bytes : Int) (c_Window : Int) (c_Ban : Int) (c_Decay : Int) (h : Heap) (R : Value → Heap → Prop) : Prop :=
 Vc.Bind
 (newTV h
 (TV.agg
 [TV.slice c_Validators, TV.int IntKind.i64 c_Epoch, TV.int IntKind.i64 c_Committee, TV.int IntKind.i64 c_Nodes, TV.int IntKind.i64 c_Orphans,
 TV.int IntKind.i64 c_Early, TV.int IntKind.i64 c_Quota, TV.int IntKind.i64 c_Peers, TV.int IntKind.i64 c_Bytes, TV.int IntKind.i64 c_Window,
 TV.int IntKind.i64 c_Ban, TV.int IntKind.i64 c_Decay])
 (24 : Nat))
 fun (h_1 : Array Obj) ↦
 ∃ (s : Sl),
 ∃ (n : Int),
 ∃ (n_1 : Int),
 ∃ (n_2 : Int),
 ∃ (n_3 : Int),
 ∃ (n_4 : Int),
 ∃ (n_5 : Int),
 ∃ (n_6 : Int),
 ∃ (n_7 : Int),
 ∃ (n_8 : Int),
 ∃ (n_9 : Int),
 ∃ (n_10 : Int),
 (at1 h_1 (Array.size h) (0 : Nat) (slVal s) ∧
 at1 h_1 (Array.size h) (1 : Nat) (Value.int IntKind.i64 n) ∧
 at1 h_1 (Array.size h) (2 : Nat) (Value.int IntKind.i64 n_1) ∧
 at1 h_1 (Array.size h) (3 : Nat) (Value.int IntKind.i64 n_2) ∧
 at1 h_1 (Array.size h) (4 : Nat) (Value.int IntKind.i64 n_3) ∧
 at1 h_1 (Array.size h) (5 : Nat) (Value.int IntKind.i64 n_4) ∧
 at1 h_1 (Array.size h) (6 : Nat) (Value.int IntKind.i64 n_5) ∧
 at1 h_1 (Array.size h) (7 : Nat) (Value.int IntKind.i64 n_6) ∧
 at1 h_1 (Array.size h) (8 : Nat) (Value.int IntKind.i64 n_7) ∧
 at1 h_1 (Array.size h) (9 : Nat) (Value.int IntKind.i64 n_8) ∧
 at1 h_1 (Array.size h) (10 : Nat) (Value.int IntKind.i64 n_9) ∧
 at1 h_1 (Array.size h) (11 : Nat) (Value.int IntKind.i64 n_10)) ∧
 CallsH Try.prog (41 : Nat)
 (TVs.vals
 [TV.agg
 [TV.slice s, TV.int IntKind.i64 n, TV.int IntKind.i64 n_1, TV.int IntKind.i64 n_2, TV.int IntKind.i64 n_3,
 TV.int IntKind.i64 n_4, TV.int IntKind.i64 n_5, TV.int IntKind.i64 n_6, TV.int IntKind.i64 n_7, TV.int IntKind.i64 n_8,
 TV.int IntKind.i64 n_9, TV.int IntKind.i64 n_10]])
 h_1 fun (v : Value) (h_2 : Array Obj) ↦
 ∃ (s_1 : Sl),
 v = TV.val (TV.slice s_1) ∧
 Go.Vc.Loop (false, (0 : Int)) h_2 fun (s_2 : Bool × Int) (h_3 : Array Obj) (K : Bool × Int → Array Obj → Prop) ↦
 If (decide (s_2.snd < (↑s_1.len : Int)))
 ((0 : Int) ≤ s_2.snd ∧
 s_2.snd < (↑s_1.len : Int) ∧
 Nn s_1.a fun (l : Go.Vc.Loc) ↦
 ∃ (n_11 : Int),
 at1 h_3 l.b (l.o + Int.toNat s_2.snd * (1 : Nat)) (Value.int IntKind.i64 n_11) ∧
 If (decide (n_11 < (1 : Int))) (R (TV.val (TV.bool false)) h_3)
 ((0 : Int) ≤ s_2.snd ∧
 s_2.snd < (↑s_1.len : Int) ∧
 Nn s_1.a fun (l : Go.Vc.Loc) ↦
 ∃ (n_12 : Int),
 at1 h_3 l.b (l.o + Int.toNat s_2.snd * (1 : Nat)) (Value.int IntKind.i64 n_12) ∧
 (0 : Int) ≤ IntKind.wrap IntKind.i64 (s_2.snd + (1 : Int)) ∧
 IntKind.wrap IntKind.i64 (s_2.snd + (1 : Int)) < (↑s_1.len : Int) ∧
 Nn s_1.a fun (l : Go.Vc.Loc) ↦
 ∃ (n_13 : Int),
 at1 h_3 l.b (l.o + Int.toNat (IntKind.wrap IntKind.i64 (s_2.snd + (1 : Int))) * (1 : Nat))
 (Value.int IntKind.i64 n_13) ∧
 If (decide (n_13 < n_12)) (R (TV.val (TV.bool false)) h_3)
 (K (s_2.fst, IntKind.wrap IntKind.i64 (s_2.snd + (2 : Int))) h_3)))
 (∃ (s : Sl),
 at1 h_3 (Array.size h) (0 : Nat) (slVal s) ∧
 CallsH Try.prog (42 : Nat) (TVs.vals [TV.slice s]) h_3 fun (v : Value) (h : Array Obj) ↦
 ∃ (n : Int), ∃ (b : Bool), v = TV.val (TV.tup [TV.int IntKind.i64 n, TV.bool b]) ∧ R (TV.val (TV.bool b)) h)

theorem tollerref05_Good_calls (c_Validators : Sl) (c_Epoch : Int) (c_Committee : Int) (c_Nodes : Int) (c_Orphans : Int) (c_Early : Int) (c_Quota : Int) (c_Peers : Int) (c_Bytes : Int) (c_Window : Int) (c_Ban : Int) (c_Decay : Int) (h : Heap) (R : Value → Heap → Prop) (H : tollerref05_Good_vc c_Validators c_Epoch c_Committee c_Nodes c_Orphans c_Early c_Quota c_Peers c_Bytes c_Window c_Ban c_Decay h R) : CallsH Try.prog 25 (TVs.vals [TV.agg [TV.slice c_Validators, TV.int IntKind.i64 c_Epoch, TV.int IntKind.i64 c_Committee, TV.int IntKind.i64 c_Nodes, TV.int IntKind.i64 c_Orphans, TV.int IntKind.i64 c_Early, TV.int IntKind.i64 c_Quota, TV.int IntKind.i64 c_Peers, TV.int IntKind.i64 c_Bytes, TV.int IntKind.i64 c_Window, TV.int IntKind.i64 c_Ban, TV.int IntKind.i64 c_Decay]]) h R :=
 vcFn_sound (C := ctx) ctx_ok (fn := Try.f25) Try.func25 ((by kernel_rfl : tollerref05_Good_vc c_Validators c_Epoch c_Committee c_Nodes c_Orphans c_Early c_Quota c_Peers c_Bytes c_Window c_Ban c_Decay h R = vcFn ctx Try.f25 [TV.agg [TV.slice c_Validators, TV.int IntKind.i64 c_Epoch, TV.int IntKind.i64 c_Committee, TV.int IntKind.i64 c_Nodes, TV.int IntKind.i64 c_Orphans, TV.int IntKind.i64 c_Early, TV.int IntKind.i64 c_Quota, TV.int IntKind.i64 c_Peers, TV.int IntKind.i64 c_Bytes, TV.int IntKind.i64 c_Window, TV.int IntKind.i64 c_Ban, TV.int IntKind.i64 c_Decay]] h R) ▸ H)


end Go.Proofs.Ytgdhddignbkloaa
