/- The conditions of functions, as the generator reckons them out, each with the proof that it is that. -/
import Derived.Test.YtjncpcdpfgjibaaCtx
namespace Go.Proofs.Ytjncpcdpfgjibaa
open Go Go.Vc
set_option maxRecDepth 100000
set_option linter.unusedVariables false

def tollerref05_Total_vc (l_ : Sl) (h : Heap) (R : Value → Heap → Prop) : Prop :=
 Go.Vc.Loop ((0 : Int), false, (0 : Int), (0 : Int)) h fun (s : Int × Bool × Int × Int) (h : Array Obj) (K : Int × Bool × Int × Int → Array Obj → Prop) ↦
 If (decide (s.snd.snd.snd < (↑l_.len : Int)))
 ((0 : Int) ≤ s.snd.snd.snd ∧
 s.snd.snd.snd < (↑l_.len : Int) ∧
 Nn l_.a fun (l : Go.Vc.Loc) ↦
 ∃ (n : Int),
 ∃ (s_1 : List UInt8),
 (at1 h l.b (l.o + Int.toNat s.snd.snd.snd * (2 : Nat)) (Value.int IntKind.i64 n) ∧
 at1 h l.b (l.o + Int.toNat s.snd.snd.snd * (2 : Nat) + (1 : Nat)) (Value.string (ByteArray.mk (List.toArray s_1)))) ∧
 Vc.Bind (newTV h (TV.agg [TV.int IntKind.i64 (0 : Int), TV.str []]) (41 : Nat)) fun (h_1 : Array Obj) ↦
 wok h_1 (Array.size h) (0 : Nat) (2 : Nat) ∧
 Vc.Bind (TV.put h_1 (Array.size h) (0 : Nat) (TV.agg [TV.int IntKind.i64 n, TV.str s_1])) fun (h_2 : Array Obj) ↦
 ∃ (n : Int),
 at1 h_2 (Array.size h) (0 : Nat) (Value.int IntKind.i64 n) ∧
 If (decide (n < (0 : Int))) (R (TV.val (TV.tup [TV.int IntKind.i64 (0 : Int), TV.bool false])) h_2)
 (∃ (s_2 : List UInt8),
 at1 h_2 (Array.size h) (1 : Nat) (Value.string (ByteArray.mk (List.toArray s_2))) ∧
 If (decide ((↑(List.length s_2) : Int) < (1 : Int))) (R (TV.val (TV.tup [TV.int IntKind.i64 (0 : Int), TV.bool false])) h_2)
 (∃ (s_3 : List UInt8),
 at1 h_2 (Array.size h) (1 : Nat) (Value.string (ByteArray.mk (List.toArray s_3))) ∧
 If (decide ((32 : Int) < (↑(List.length s_3) : Int)))
 (R (TV.val (TV.tup [TV.int IntKind.i64 (0 : Int), TV.bool false])) h_2)
 (∃ (n : Int),
 at1 h_2 (Array.size h) (0 : Nat) (Value.int IntKind.i64 n) ∧
 If (decide ((4611686018427387904 : Int) ≤ IntKind.wrap IntKind.u64 (s.snd.snd.fst + IntKind.wrap IntKind.u64 n)))
 (R (TV.val (TV.tup [TV.int IntKind.i64 (0 : Int), TV.bool false])) h_2)
 (K
 (s.fst, s.snd.fst, IntKind.wrap IntKind.u64 (s.snd.snd.fst + IntKind.wrap IntKind.u64 n),
 IntKind.wrap IntKind.i64 (s.snd.snd.snd + (1 : Int)))
 h_2)))))
 (R (TV.val (TV.tup [TV.int IntKind.i64 (IntKind.wrap IntKind.i64 s.snd.snd.fst), TV.bool true])) h)

theorem tollerref05_Total_calls (l_ : Sl) (h : Heap) (R : Value → Heap → Prop) (H : tollerref05_Total_vc l_ h R) : CallsH Try.prog 20 (TVs.vals [TV.slice l_]) h R :=
 vcFn_sound (C := ctx) ctx_ok (fn := Try.f20) Try.func20 ((by kernel_rfl : tollerref05_Total_vc l_ h R = vcFn ctx Try.f20 [TV.slice l_] h R) ▸ H)


def tollerref05_Great_vc (c_Validators : Sl) (c_Epoch : Int) (c_Committee : Int) (c_Nodes : Int) (c_Orphans : Int) (c_Early : Int) (c_Quota : Int) (c_Peers : Int) (c_Bytes : Int) (c_Window : Int) (c_Ban : Int) (c_Decay : Int) (h : Heap) (R : Value → Heap → Prop) : Prop :=
 Vc.Bind
 (newTV h
 (TV.agg
 [TV.slice c_Validators, TV.int IntKind.i64 c_Epoch, TV.int IntKind.i64 c_Committee, TV.int IntKind.i64 c_Nodes, TV.int IntKind.i64 c_Orphans,
 TV.int IntKind.i64 c_Early, TV.int IntKind.i64 c_Quota, TV.int IntKind.i64 c_Peers, TV.int IntKind.i64 c_Bytes, TV.int IntKind.i64 c_Window,
 TV.int IntKind.i64 c_Ban, TV.int IntKind.i64 c_Decay])
 (24 : Nat))
 fun (h_1 : Array Obj) ↦
 ∃ (s : Sl),
 at1 h_1 (Array.size h) (0 : Nat) (slVal s) ∧
 If (decide ((100 : Int) < (↑s.len : Int))) (R (TV.val (TV.bool true)) h_1)
 (∃ (s : Sl),
 at1 h_1 (Array.size h) (0 : Nat) (slVal s) ∧
 Go.Vc.Loop (false, (0 : Int)) h_1 fun (s_1 : Bool × Int) (h : Array Obj) (K : Bool × Int → Array Obj → Prop) ↦
 If (decide (s_1.snd < (↑s.len : Int)))
 ((0 : Int) ≤ s_1.snd ∧
 s_1.snd < (↑s.len : Int) ∧
 Nn s.a fun (l : Go.Vc.Loc) ↦
 ∃ (n : Int),
 ∃ (s : List UInt8),
 (at1 h l.b (l.o + Int.toNat s_1.snd * (2 : Nat)) (Value.int IntKind.i64 n) ∧
 at1 h l.b (l.o + Int.toNat s_1.snd * (2 : Nat) + (1 : Nat)) (Value.string (ByteArray.mk (List.toArray s)))) ∧
 Vc.Bind (newTV h (TV.agg [TV.int IntKind.i64 (0 : Int), TV.str []]) (41 : Nat)) fun (h_2 : Array Obj) ↦
 wok h_2 (Array.size h) (0 : Nat) (2 : Nat) ∧
 Vc.Bind (TV.put h_2 (Array.size h) (0 : Nat) (TV.agg [TV.int IntKind.i64 n, TV.str s])) fun (h_3 : Array Obj) ↦
 ∃ (s : List UInt8),
 at1 h_3 (Array.size h) (1 : Nat) (Value.string (ByteArray.mk (List.toArray s))) ∧
 If (decide ((200 : Int) < (↑(List.length s) : Int))) (R (TV.val (TV.bool true)) h_3)
 (K (s_1.fst, IntKind.wrap IntKind.i64 (s_1.snd + (1 : Int))) h_3))
 (R (TV.val (TV.bool false)) h))

theorem tollerref05_Great_calls (c_Validators : Sl) (c_Epoch : Int) (c_Committee : Int) (c_Nodes : Int) (c_Orphans : Int) (c_Early : Int) (c_Quota : Int) (c_Peers : Int) (c_Bytes : Int) (c_Window : Int) (c_Ban : Int) (c_Decay : Int) (h : Heap) (R : Value → Heap → Prop) (H : tollerref05_Great_vc c_Validators c_Epoch c_Committee c_Nodes c_Orphans c_Early c_Quota c_Peers c_Bytes c_Window c_Ban c_Decay h R) : CallsH Try.prog 9 (TVs.vals [TV.agg [TV.slice c_Validators, TV.int IntKind.i64 c_Epoch, TV.int IntKind.i64 c_Committee, TV.int IntKind.i64 c_Nodes, TV.int IntKind.i64 c_Orphans, TV.int IntKind.i64 c_Early, TV.int IntKind.i64 c_Quota, TV.int IntKind.i64 c_Peers, TV.int IntKind.i64 c_Bytes, TV.int IntKind.i64 c_Window, TV.int IntKind.i64 c_Ban, TV.int IntKind.i64 c_Decay]]) h R :=
 vcFn_sound (C := ctx) ctx_ok (fn := Try.f9) Try.func9 ((by kernel_rfl : tollerref05_Great_vc c_Validators c_Epoch c_Committee c_Nodes c_Orphans c_Early c_Quota c_Peers c_Bytes c_Window c_Ban c_Decay h R = vcFn ctx Try.f9 [TV.agg [TV.slice c_Validators, TV.int IntKind.i64 c_Epoch, TV.int IntKind.i64 c_Committee, TV.int IntKind.i64 c_Nodes, TV.int IntKind.i64 c_Orphans, TV.int IntKind.i64 c_Early, TV.int IntKind.i64 c_Quota, TV.int IntKind.i64 c_Peers, TV.int IntKind.i64 c_Bytes, TV.int IntKind.i64 c_Window, TV.int IntKind.i64 c_Ban, TV.int IntKind.i64 c_Decay]] h R) ▸ H)


def tollerlaw06_alive_vc (h : Heap) (R : Value → Heap → Prop) : Prop :=
 Vc.Bind
 (newTV
 (Array.push h
 (row
 (TVs.cells
 [TV.agg [TV.int IntKind.i64 (5 : Int), TV.str (ByteArray.mk #[(107 : UInt8)]).data.toList],
 TV.agg [TV.int IntKind.i64 (5 : Int), TV.str (ByteArray.mk #[(108 : UInt8)]).data.toList]])
 (41 : Nat)))
 (TV.agg
 [TV.slice Sl.nil, TV.int IntKind.i64 (0 : Int), TV.int IntKind.i64 (0 : Int), TV.int IntKind.i64 (0 : Int), TV.int IntKind.i64 (0 : Int),
 TV.int IntKind.i64 (0 : Int), TV.int IntKind.i64 (0 : Int), TV.int IntKind.i64 (0 : Int), TV.int IntKind.i64 (0 : Int), TV.int IntKind.i64 (0 : Int),
 TV.int IntKind.i64 (0 : Int), TV.int IntKind.i64 (0 : Int)])
 (24 : Nat))
 fun (h_1 : Array Obj) ↦
 wok h_1
 (Array.size
 (Array.push h
 (row
 (TVs.cells
 [TV.agg [TV.int IntKind.i64 (5 : Int), TV.str (ByteArray.mk #[(107 : UInt8)]).data.toList],
 TV.agg [TV.int IntKind.i64 (5 : Int), TV.str (ByteArray.mk #[(108 : UInt8)]).data.toList]])
 (41 : Nat))))
 (0 : Nat) (12 : Nat) ∧
 Vc.Bind
 (TV.put h_1
 (Array.size
 (Array.push h
 (row
 (TVs.cells
 [TV.agg [TV.int IntKind.i64 (5 : Int), TV.str (ByteArray.mk #[(107 : UInt8)]).data.toList],
 TV.agg [TV.int IntKind.i64 (5 : Int), TV.str (ByteArray.mk #[(108 : UInt8)]).data.toList]])
 (41 : Nat))))
 (0 : Nat)
 (TV.agg
 [TV.slice (Sl.mk (some (Loc.mk (Array.size h) (0 : Nat))) (2 : Nat) (2 : Nat)), TV.int IntKind.i64 (4 : Int), TV.int IntKind.i64 (2 : Int),
 TV.int IntKind.i64 (1 : Int), TV.int IntKind.i64 (1 : Int), TV.int IntKind.i64 (1 : Int), TV.int IntKind.i64 (1 : Int),
 TV.int IntKind.i64 (1 : Int), TV.int IntKind.i64 (1 : Int), TV.int IntKind.i64 (1 : Int), TV.int IntKind.i64 (1 : Int),
 TV.int IntKind.i64 (1 : Int)]))
 fun (h_2 : Array Obj) ↦
 ∃ (s : Sl),
 ∃ (n : Int),
 ∃ (n_1 : Int),
 ∃ (n_2 : Int),
 ∃ (n_3 : Int),
 ∃ (n_4 : Int),
 ∃ (n_5 : Int),
 ∃ (n_6 : Int),
 ∃ (n_7 : Int),
 ∃ (n_8 : Int),
 ∃ (n_9 : Int),
 ∃ (n_10 : Int),
 (at1 h_2
 (Array.size
 (Array.push h
 (row
 (TVs.cells
 [TV.agg [TV.int IntKind.i64 (5 : Int), TV.str (ByteArray.mk #[(107 : UInt8)]).data.toList],
 TV.agg [TV.int IntKind.i64 (5 : Int), TV.str (ByteArray.mk #[(108 : UInt8)]).data.toList]])
 (41 : Nat))))
 (0 : Nat) (slVal s) ∧
 at1 h_2
 (Array.size
 (Array.push h
 (row
 (TVs.cells
 [TV.agg [TV.int IntKind.i64 (5 : Int), TV.str (ByteArray.mk #[(107 : UInt8)]).data.toList],
 TV.agg [TV.int IntKind.i64 (5 : Int), TV.str (ByteArray.mk #[(108 : UInt8)]).data.toList]])
 (41 : Nat))))
 (1 : Nat) (Value.int IntKind.i64 n) ∧
 at1 h_2
 (Array.size
 (Array.push h
 (row
 (TVs.cells
 [TV.agg [TV.int IntKind.i64 (5 : Int), TV.str (ByteArray.mk #[(107 : UInt8)]).data.toList],
 TV.agg [TV.int IntKind.i64 (5 : Int), TV.str (ByteArray.mk #[(108 : UInt8)]).data.toList]])
 (41 : Nat))))
 (2 : Nat) (Value.int IntKind.i64 n_1) ∧
 at1 h_2
 (Array.size
 (Array.push h
 (row
 (TVs.cells
 [TV.agg [TV.int IntKind.i64 (5 : Int), TV.str (ByteArray.mk #[(107 : UInt8)]).data.toList],
 TV.agg [TV.int IntKind.i64 (5 : Int), TV.str (ByteArray.mk #[(108 : UInt8)]).data.toList]])
 (41 : Nat))))
 (3 : Nat) (Value.int IntKind.i64 n_2) ∧
 at1 h_2
 (Array.size
 (Array.push h
 (row
 (TVs.cells
 [TV.agg [TV.int IntKind.i64 (5 : Int), TV.str (ByteArray.mk #[(107 : UInt8)]).data.toList],
 TV.agg [TV.int IntKind.i64 (5 : Int), TV.str (ByteArray.mk #[(108 : UInt8)]).data.toList]])
 (41 : Nat))))
 (4 : Nat) (Value.int IntKind.i64 n_3) ∧
 at1 h_2
 (Array.size
 (Array.push h
 (row
 (TVs.cells
 [TV.agg [TV.int IntKind.i64 (5 : Int), TV.str (ByteArray.mk #[(107 : UInt8)]).data.toList],
 TV.agg [TV.int IntKind.i64 (5 : Int), TV.str (ByteArray.mk #[(108 : UInt8)]).data.toList]])
 (41 : Nat))))
 (5 : Nat) (Value.int IntKind.i64 n_4) ∧
 at1 h_2
 (Array.size
 (Array.push h
 (row
 (TVs.cells
 [TV.agg [TV.int IntKind.i64 (5 : Int), TV.str (ByteArray.mk #[(107 : UInt8)]).data.toList],
 TV.agg [TV.int IntKind.i64 (5 : Int), TV.str (ByteArray.mk #[(108 : UInt8)]).data.toList]])
 (41 : Nat))))
 (6 : Nat) (Value.int IntKind.i64 n_5) ∧
 at1 h_2
 (Array.size
 (Array.push h
 (row
 (TVs.cells
 [TV.agg [TV.int IntKind.i64 (5 : Int), TV.str (ByteArray.mk #[(107 : UInt8)]).data.toList],
 TV.agg [TV.int IntKind.i64 (5 : Int), TV.str (ByteArray.mk #[(108 : UInt8)]).data.toList]])
 (41 : Nat))))
 (7 : Nat) (Value.int IntKind.i64 n_6) ∧
 at1 h_2
 (Array.size
 (Array.push h
 (row
 (TVs.cells
 [TV.agg [TV.int IntKind.i64 (5 : Int), TV.str (ByteArray.mk #[(107 : UInt8)]).data.toList],
 TV.agg [TV.int IntKind.i64 (5 : Int), TV.str (ByteArray.mk #[(108 : UInt8)]).data.toList]])
 (41 : Nat))))
 (8 : Nat) (Value.int IntKind.i64 n_7) ∧
 at1 h_2
 (Array.size
 (Array.push h
 (row
 (TVs.cells
 [TV.agg [TV.int IntKind.i64 (5 : Int), TV.str (ByteArray.mk #[(107 : UInt8)]).data.toList],
 TV.agg [TV.int IntKind.i64 (5 : Int), TV.str (ByteArray.mk #[(108 : UInt8)]).data.toList]])
 (41 : Nat))))
 (9 : Nat) (Value.int IntKind.i64 n_8) ∧
 at1 h_2
 (Array.size
 (Array.push h
 (row
 (TVs.cells
 [TV.agg [TV.int IntKind.i64 (5 : Int), TV.str (ByteArray.mk #[(107 : UInt8)]).data.toList],
 TV.agg [TV.int IntKind.i64 (5 : Int), TV.str (ByteArray.mk #[(108 : UInt8)]).data.toList]])
 (41 : Nat))))
 (10 : Nat) (Value.int IntKind.i64 n_9) ∧
 at1 h_2
 (Array.size
 (Array.push h
 (row
 (TVs.cells
 [TV.agg [TV.int IntKind.i64 (5 : Int), TV.str (ByteArray.mk #[(107 : UInt8)]).data.toList],
 TV.agg [TV.int IntKind.i64 (5 : Int), TV.str (ByteArray.mk #[(108 : UInt8)]).data.toList]])
 (41 : Nat))))
 (11 : Nat) (Value.int IntKind.i64 n_10)) ∧
 CallsH Try.prog (11 : Nat)
 (TVs.vals
 [TV.agg
 [TV.slice s, TV.int IntKind.i64 n, TV.int IntKind.i64 n_1, TV.int IntKind.i64 n_2, TV.int IntKind.i64 n_3,
 TV.int IntKind.i64 n_4, TV.int IntKind.i64 n_5, TV.int IntKind.i64 n_6, TV.int IntKind.i64 n_7,
 TV.int IntKind.i64 n_8, TV.int IntKind.i64 n_9, TV.int IntKind.i64 n_10],
 TV.int IntKind.i64 (7 : Int)])
 h_2 fun (v : Value) (h_3 : Array Obj) ↦
 ∃ (s : Sl),
 v = TV.val (TV.slice s) ∧
 If (decide ((↑s.len : Int) = (2 : Int)))
 ((0 : Int) ≤ (0 : Int) ∧
 (0 : Int) < (↑s.len : Int) ∧
 Nn s.a fun (l : Go.Vc.Loc) ↦
 ∃ (n : Int),
 at1 h_3 l.b (l.o + Int.toNat (0 : Int) * (1 : Nat)) (Value.int IntKind.i64 n) ∧
 (0 : Int) ≤ (1 : Int) ∧
 (1 : Int) < (↑s.len : Int) ∧
 Nn s.a fun (l : Go.Vc.Loc) ↦
 ∃ (n_11 : Int),
 at1 h_3 l.b (l.o + Int.toNat (1 : Int) * (1 : Nat)) (Value.int IntKind.i64 n_11) ∧
 If (decide (IntKind.wrap IntKind.i64 (n + n_11) = (1 : Int)))
 (∃ (s_1 : Sl),
 ∃ (n : Int),
 ∃ (n_12 : Int),
 ∃ (n_13 : Int),
 ∃ (n_14 : Int),
 ∃ (n_15 : Int),
 ∃ (n_16 : Int),
 ∃ (n_17 : Int),
 ∃ (n_18 : Int),
 ∃ (n_19 : Int),
 ∃ (n_20 : Int),
 ∃ (n_21 : Int),
 (at1 h_3
 (Array.size
 (Array.push h
 (row
 (TVs.cells
 [TV.agg
 [TV.int IntKind.i64 (5 : Int),
 TV.str (ByteArray.mk #[(107 : UInt8)]).data.toList],
 TV.agg
 [TV.int IntKind.i64 (5 : Int),
 TV.str (ByteArray.mk #[(108 : UInt8)]).data.toList]])
 (41 : Nat))))
 (0 : Nat) (slVal s_1) ∧
 at1 h_3
 (Array.size
 (Array.push h
 (row
 (TVs.cells
 [TV.agg
 [TV.int IntKind.i64 (5 : Int),
 TV.str (ByteArray.mk #[(107 : UInt8)]).data.toList],
 TV.agg
 [TV.int IntKind.i64 (5 : Int),
 TV.str
 (ByteArray.mk #[(108 : UInt8)]).data.toList]])
 (41 : Nat))))
 (1 : Nat) (Value.int IntKind.i64 n) ∧
 at1 h_3
 (Array.size
 (Array.push h
 (row
 (TVs.cells
 [TV.agg
 [TV.int IntKind.i64 (5 : Int),
 TV.str
 (ByteArray.mk #[(107 : UInt8)]).data.toList],
 TV.agg
 [TV.int IntKind.i64 (5 : Int),
 TV.str
 (ByteArray.mk #[(108 : UInt8)]).data.toList]])
 (41 : Nat))))
 (2 : Nat) (Value.int IntKind.i64 n_12) ∧
 at1 h_3
 (Array.size
 (Array.push h
 (row
 (TVs.cells
 [TV.agg
 [TV.int IntKind.i64 (5 : Int),
 TV.str
 (ByteArray.mk #[(107 : UInt8)]).data.toList],
 TV.agg
 [TV.int IntKind.i64 (5 : Int),
 TV.str
 (ByteArray.mk #[(108 : UInt8)]).data.toList]])
 (41 : Nat))))
 (3 : Nat) (Value.int IntKind.i64 n_13) ∧
 at1 h_3
 (Array.size
 (Array.push h
 (row
 (TVs.cells
 [TV.agg
 [TV.int IntKind.i64 (5 : Int),
 TV.str
 (ByteArray.mk
 #[(107 : UInt8)]).data.toList],
 TV.agg
 [TV.int IntKind.i64 (5 : Int),
 TV.str
 (ByteArray.mk
 #[(108 : UInt8)]).data.toList]])
 (41 : Nat))))
 (4 : Nat) (Value.int IntKind.i64 n_14) ∧
 at1 h_3
 (Array.size
 (Array.push h
 (row
 (TVs.cells
 [TV.agg
 [TV.int IntKind.i64 (5 : Int),
 TV.str
 (ByteArray.mk
 #[(107 : UInt8)]).data.toList],
 TV.agg
 [TV.int IntKind.i64 (5 : Int),
 TV.str
 (ByteArray.mk
 #[(108 : UInt8)]).data.toList]])
 (41 : Nat))))
 (5 : Nat) (Value.int IntKind.i64 n_15) ∧
 at1 h_3
 (Array.size
 (Array.push h
 (row
 (TVs.cells
 [TV.agg
 [TV.int IntKind.i64 (5 : Int),
 TV.str
 (ByteArray.mk
 #[(107 : UInt8)]).data.toList],
 TV.agg
 [TV.int IntKind.i64 (5 : Int),
 TV.str
 (ByteArray.mk
 #[(108 : UInt8)]).data.toList]])
 (41 : Nat))))
 (6 : Nat) (Value.int IntKind.i64 n_16) ∧
 at1 h_3
 (Array.size
 (Array.push h
 (row
 (TVs.cells
 [TV.agg
 [TV.int IntKind.i64 (5 : Int),
 TV.str
 (ByteArray.mk
 #[(107 : UInt8)]).data.toList],
 TV.agg
 [TV.int IntKind.i64 (5 : Int),
 TV.str
 (ByteArray.mk
 #[(108 : UInt8)]).data.toList]])
 (41 : Nat))))
 (7 : Nat) (Value.int IntKind.i64 n_17) ∧
 at1 h_3
 (Array.size
 (Array.push h
 (row
 (TVs.cells
 [TV.agg
 [TV.int IntKind.i64 (5 : Int),
 TV.str
 (ByteArray.mk
 #[(107 :
 UInt8)]).data.toList],
 TV.agg
 [TV.int IntKind.i64 (5 : Int),
 TV.str
 (ByteArray.mk
 #[(108 :
 UInt8)]).data.toList]])
 (41 : Nat))))
 (8 : Nat) (Value.int IntKind.i64 n_18) ∧
 at1 h_3
 (Array.size
 (Array.push h
 (row
 (TVs.cells
 [TV.agg
 [TV.int IntKind.i64 (5 : Int),
 TV.str
 (ByteArray.mk
 #[(107 :
 UInt8)]).data.toList],
 TV.agg
 [TV.int IntKind.i64 (5 : Int),
 TV.str
 (ByteArray.mk
 #[(108 :
 UInt8)]).data.toList]])
 (41 : Nat))))
 (9 : Nat) (Value.int IntKind.i64 n_19) ∧
 at1 h_3
 (Array.size
 (Array.push h
 (row
 (TVs.cells
 [TV.agg
 [TV.int IntKind.i64 (5 : Int),
 TV.str
 (ByteArray.mk
 #[(107 :
 UInt8)]).data.toList],
 TV.agg
 [TV.int IntKind.i64 (5 : Int),
 TV.str
 (ByteArray.mk
 #[(108 :
 UInt8)]).data.toList]])
 (41 : Nat))))
 (10 : Nat) (Value.int IntKind.i64 n_20) ∧
 at1 h_3
 (Array.size
 (Array.push h
 (row
 (TVs.cells
 [TV.agg
 [TV.int IntKind.i64 (5 : Int),
 TV.str
 (ByteArray.mk
 #[(107 :
 UInt8)]).data.toList],
 TV.agg
 [TV.int IntKind.i64 (5 : Int),
 TV.str
 (ByteArray.mk
 #[(108 :
 UInt8)]).data.toList]])
 (41 : Nat))))
 (11 : Nat) (Value.int IntKind.i64 n_21)) ∧
 (0 : Int) ≤ (0 : Int) ∧
 (0 : Int) < (↑s.len : Int) ∧
 Nn s.a fun (l : Go.Vc.Loc) ↦
 ∃ (n_22 : Int),
 at1 h_3 l.b (l.o + Int.toNat (0 : Int) * (1 : Nat))
 (Value.int IntKind.i64 n_22) ∧
 CallsH Try.prog (13 : Nat)
 (TVs.vals
 [TV.agg
 [TV.slice s_1, TV.int IntKind.i64 n,
 TV.int IntKind.i64 n_12, TV.int IntKind.i64 n_13,
 TV.int IntKind.i64 n_14, TV.int IntKind.i64 n_15,
 TV.int IntKind.i64 n_16, TV.int IntKind.i64 n_17,
 TV.int IntKind.i64 n_18, TV.int IntKind.i64 n_19,
 TV.int IntKind.i64 n_20, TV.int IntKind.i64 n_21],
 TV.int IntKind.i64 (7 : Int)])
 h_3 fun (v : Value) (h_4 : Array Obj) ↦
 ∃ (n : Int),
 v = TV.val (TV.int IntKind.i64 n) ∧
 Ext h_3 h_4 ∧
 If (decide (n = n_22))
 (∃ (s_2 : Sl),
 ∃ (n : Int),
 ∃ (n_23 : Int),
 ∃ (n_24 : Int),
 ∃ (n_25 : Int),
 ∃ (n_26 : Int),
 ∃ (n_27 : Int),
 ∃ (n_28 : Int),
 ∃ (n_29 : Int),
 ∃ (n_30 : Int),
 ∃ (n_31 : Int),
 ∃ (n_32 : Int),
 (at1 h_4
 (Array.size
 (Array.push h
 (row
 (TVs.cells
 [TV.agg
 [TV.int
 IntKind.i64
 (5 :
 Int),
 TV.str
 (ByteArray.mk
 #[(107 :
 UInt8)]).data.toList],
 TV.agg
 [TV.int
 IntKind.i64
 (5 :
 Int),
 TV.str
 (ByteArray.mk
 #[(108 :
 UInt8)]).data.toList]])
 (41 : Nat))))
 (0 : Nat)
 (slVal s_2) ∧
 at1 h_4
 (Array.size
 (Array.push h
 (row
 (TVs.cells
 [TV.agg
 [TV.int
 IntKind.i64
 (5 :
 Int),
 TV.str
 (ByteArray.mk
 #[(107 :
 UInt8)]).data.toList],
 TV.agg
 [TV.int
 IntKind.i64
 (5 :
 Int),
 TV.str
 (ByteArray.mk
 #[(108 :
 UInt8)]).data.toList]])
 (41 : Nat))))
 (1 : Nat)
 (Value.int
 IntKind.i64 n) ∧
 at1 h_4
 (Array.size
 (Array.push h
 (row
 (TVs.cells
 [TV.agg
 [TV.int
 IntKind.i64
 (5 :
 Int),
 TV.str
 (ByteArray.mk
 #[(107 :
 UInt8)]).data.toList],
 TV.agg
 [TV.int
 IntKind.i64
 (5 :
 Int),
 TV.str
 (ByteArray.mk
 #[(108 :
 UInt8)]).data.toList]])
 (41 :
 Nat))))
 (2 : Nat)
 (Value.int
 IntKind.i64
 n_23) ∧
 at1 h_4
 (Array.size
 (Array.push h
 (row
 (TVs.cells
 [TV.agg
 [TV.int
 IntKind.i64
 (5 :
 Int),
 TV.str
 (ByteArray.mk
 #[(107 :
 UInt8)]).data.toList],
 TV.agg
 [TV.int
 IntKind.i64
 (5 :
 Int),
 TV.str
 (ByteArray.mk
 #[(108 :
 UInt8)]).data.toList]])
 (41 :
 Nat))))
 (3 : Nat)
 (Value.int
 IntKind.i64
 n_24) ∧
 at1 h_4
 (Array.size
 (Array.push
 h
 (row
 (TVs.cells
 [TV.agg
 [TV.int
 IntKind.i64
 (5 :
 Int),
 TV.str
 (ByteArray.mk
 #[(107 :
 UInt8)]).data.toList],
 TV.agg
 [TV.int
 IntKind.i64
 (5 :
 Int),
 TV.str
 (ByteArray.mk
 #[(108 :
 UInt8)]).data.toList]])
 (41 :
 Nat))))
 (4 : Nat)
 (Value.int
 IntKind.i64
 n_25) ∧
 at1 h_4
 (Array.size
 (Array.push
 h
 (row
 (TVs.cells
 [TV.agg
 [TV.int
 IntKind.i64
 (5 :
 Int),
 TV.str
 (ByteArray.mk
 #[(107 :
 UInt8)]).data.toList],
 TV.agg
 [TV.int
 IntKind.i64
 (5 :
 Int),
 TV.str
 (ByteArray.mk
 #[(108 :
 UInt8)]).data.toList]])
 (41 :
 Nat))))
 (5 : Nat)
 (Value.int
 IntKind.i64
 n_26) ∧
 at1 h_4
 (Array.size
 (Array.push
 h
 (row
 (TVs.cells
 [TV.agg
 [TV.int
 IntKind.i64
 (5 :
 Int),
 TV.str
 (ByteArray.mk
 #[(107 :
 UInt8)]).data.toList],
 TV.agg
 [TV.int
 IntKind.i64
 (5 :
 Int),
 TV.str
 (ByteArray.mk
 #[(108 :
 UInt8)]).data.toList]])
 (41 :
 Nat))))
 (6 : Nat)
 (Value.int
 IntKind.i64
 n_27) ∧
 at1 h_4
 (Array.size
 (Array.push
 h
 (row
 (TVs.cells
 [TV.agg
 [TV.int
 IntKind.i64
 (5 :
 Int),
 TV.str
 (ByteArray.mk
 #[(107 :
 UInt8)]).data.toList],
 TV.agg
 [TV.int
 IntKind.i64
 (5 :
 Int),
 TV.str
 (ByteArray.mk
 #[(108 :
 UInt8)]).data.toList]])
 (41 :
 Nat))))
 (7 :
 Nat)
 (Value.int
 IntKind.i64
 n_28) ∧
 at1 h_4
 (Array.size
 (Array.push
 h
 (row
 (TVs.cells
 [TV.agg
 [TV.int
 IntKind.i64
 (5 :
 Int),
 TV.str
 (ByteArray.mk
 #[(107 :
 UInt8)]).data.toList],
 TV.agg
 [TV.int
 IntKind.i64
 (5 :
 Int),
 TV.str
 (ByteArray.mk
 #[(108 :
 UInt8)]).data.toList]])
 (41 :
 Nat))))
 (8 :
 Nat)
 (Value.int
 IntKind.i64
 n_29) ∧
 at1 h_4
 (Array.size
 (Array.push
 h
 (row
 (TVs.cells
 [TV.agg
 [TV.int
 IntKind.i64
 (5 :
 Int),
 TV.str
 (ByteArray.mk
 #[(107 :
 UInt8)]).data.toList],
 TV.agg
 [TV.int
 IntKind.i64
 (5 :
 Int),
 TV.str
 (ByteArray.mk
 #[(108 :
 UInt8)]).data.toList]])
 (41 :
 Nat))))
 (9 :
 Nat)
 (Value.int
 IntKind.i64
 n_30) ∧
 at1
 h_4
 (Array.size
 (Array.push
 h
 (row
 (TVs.cells
 [TV.agg
 [TV.int
 IntKind.i64
 (5 :
 Int),
 TV.str
 (ByteArray.mk
 #[(107 :
 UInt8)]).data.toList],
 TV.agg
 [TV.int
 IntKind.i64
 (5 :
 Int),
 TV.str
 (ByteArray.mk
 #[(108 :
 UInt8)]).data.toList]])
 (41 :
 Nat))))
 (10 :
 Nat)
 (Value.int
 IntKind.i64
 n_31) ∧
 at1
 h_4
 (Array.size
 (Array.push
 h
 (row
 (TVs.cells
 [TV.agg
 [TV.int
 IntKind.i64
 (5 :
 Int),
 TV.str
 (ByteArray.mk
 #[(107 :
 UInt8)]).data.toList],
 TV.agg
 [TV.int
 IntKind.i64
 (5 :
 Int),
 TV.str
 (ByteArray.mk
 #[(108 :
 UInt8)]).data.toList]])
 (41 :
 Nat))))
 (11 :
 Nat)
 (Value.int
 IntKind.i64
 n_32)) ∧
 (0 : Int) ≤ (1 : Int) ∧
 (1 : Int) <
 (↑s.len : Int) ∧
 Nn s.a
 fun (l : Go.Vc.Loc) ↦
 ∃ (n_33 : Int),
 at1 h_4 l.b
 (l.o +
 Int.toNat
 (1 :
 Int) *
 (1 : Nat))
 (Value.int
 IntKind.i64
 n_33) ∧
 CallsH Try.prog
 (14 : Nat)
 (TVs.vals
 [TV.agg
 [TV.slice
 s_2,
 TV.int
 IntKind.i64
 n,
 TV.int
 IntKind.i64
 n_23,
 TV.int
 IntKind.i64
 n_24,
 TV.int
 IntKind.i64
 n_25,
 TV.int
 IntKind.i64
 n_26,
 TV.int
 IntKind.i64
 n_27,
 TV.int
 IntKind.i64
 n_28,
 TV.int
 IntKind.i64
 n_29,
 TV.int
 IntKind.i64
 n_30,
 TV.int
 IntKind.i64
 n_31,
 TV.int
 IntKind.i64
 n_32],
 TV.int
 IntKind.i64
 (7 :
 Int),
 TV.int
 IntKind.i64
 n_33])
 h_4
 fun
 (v : Value)
 (h_5 :
 Array
 Obj) ↦
 ∃ (n : Int),
 v =
 TV.val
 (TV.int
 IntKind.i64
 n) ∧
 If
 (decide
 (n =
 (1 :
 Int)))
 (∃ (s :
 Sl),
 ∃ (n :
 Int),
 ∃
 (n_34
 :
 Int),
 ∃
 (n_35
 :
 Int),
 ∃
 (n_36
 :
 Int),
 ∃
 (n_37
 :
 Int),
 ∃
 (n_38
 :
 Int),
 ∃
 (n_39
 :
 Int),
 ∃
 (n_40
 :
 Int),
 ∃
 (n_41
 :
 Int),
 ∃
 (n_42
 :
 Int),
 ∃
 (n_43
 :
 Int),
 (at1
 h_5
 (Array.size
 (Array.push
 h
 (row
 (TVs.cells
 [TV.agg
 [TV.int
 IntKind.i64
 (5 :
 Int),
 TV.str
 (ByteArray.mk
 #[(107 :
 UInt8)]).data.toList],
 TV.agg
 [TV.int
 IntKind.i64
 (5 :
 Int),
 TV.str
 (ByteArray.mk
 #[(108 :
 UInt8)]).data.toList]])
 (41 :
 Nat))))
 (0 :
 Nat)
 (slVal
 s) ∧
 at1
 h_5
 (Array.size
 (Array.push
 h
 (row
 (TVs.cells
 [TV.agg
 [TV.int
 IntKind.i64
 (5 :
 Int),
 TV.str
 (ByteArray.mk
 #[(107 :
 UInt8)]).data.toList],
 TV.agg
 [TV.int
 IntKind.i64
 (5 :
 Int),
 TV.str
 (ByteArray.mk
 #[(108 :
 UInt8)]).data.toList]])
 (41 :
 Nat))))
 (1 :
 Nat)
 (Value.int
 IntKind.i64
 n) ∧
 at1
 h_5
 (Array.size
 (Array.push
 h
 (row
 (TVs.cells
 [TV.agg
 [TV.int
 IntKind.i64
 (5 :
 Int),
 TV.str
 (ByteArray.mk
 #[(107 :
 UInt8)]).data.toList],
 TV.agg
 [TV.int
 IntKind.i64
 (5 :
 Int),
 TV.str
 (ByteArray.mk
 #[(108 :
 UInt8)]).data.toList]])
 (41 :
 Nat))))
 (2 :
 Nat)
 (Value.int
 IntKind.i64
 n_34) ∧
 at1
 h_5
 (Array.size
 (Array.push
 h
 (row
 (TVs.cells
 [TV.agg
 [TV.int
 IntKind.i64
 (5 :
 Int),
 TV.str
 (ByteArray.mk
 #[(107 :
 UInt8)]).data.toList],
 TV.agg
 [TV.int
 IntKind.i64
 (5 :
 Int),
 TV.str
 (ByteArray.mk
 #[(108 :
 UInt8)]).data.toList]])
 (41 :
 Nat))))
 (3 :
 Nat)
 (Value.int
 IntKind.i64
 n_35) ∧
 at1
 h_5
 (Array.size
 (Array.push
 h
 (row
 (TVs.cells
 [TV.agg
 [TV.int
 IntKind.i64
 (5 :
 Int),
 TV.str
 (ByteArray.mk
 #[(107 :
 UInt8)]).data.toList],
 TV.agg
 [TV.int
 IntKind.i64
 (5 :
 Int),
 TV.str
 (ByteArray.mk
 #[(108 :
 UInt8)]).data.toList]])
 (41 :
 Nat))))
 (4 :
 Nat)
 (Value.int
 IntKind.i64
 n_36) ∧
 at1
 h_5
 (Array.size
 (Array.push
 h
 (row
 (TVs.cells
 [TV.agg
 [TV.int
 IntKind.i64
 (5 :
 Int),
 TV.str
 (ByteArray.mk
 #[(107 :
 UInt8)]).data.toList],
 TV.agg
 [TV.int
 IntKind.i64
 (5 :
 Int),
 TV.str
 (ByteArray.mk
 #[(108 :
 UInt8)]).data.toList]])
 (41 :
 Nat))))
 (5 :
 Nat)
 (Value.int
 IntKind.i64
 n_37) ∧
 at1
 h_5
 (Array.size
 (Array.push
 h
 (row
 (TVs.cells
 [TV.agg
 [TV.int
 IntKind.i64
 (5 :
 Int),
 TV.str
 (ByteArray.mk
 #[(107 :
 UInt8)]).data.toList],
 TV.agg
 [TV.int
 IntKind.i64
 (5 :
 Int),
 TV.str
 (ByteArray.mk
 #[(108 :
 UInt8)]).data.toList]])
 (41 :
 Nat))))
 (6 :
 Nat)
 (Value.int
 IntKind.i64
 n_38) ∧
 at1
 h_5
 (Array.size
 (Array.push
 h
 (row
 (TVs.cells
 [TV.agg
 [TV.int
 IntKind.i64
 (5 :
 Int),
 TV.str
 (ByteArray.mk
 #[(107 :
 UInt8)]).data.toList],
 TV.agg
 [TV.int
 IntKind.i64
 (5 :
 Int),
 TV.str
 (ByteArray.mk
 #[(108 :
 UInt8)]).data.toList]])
 (41 :
 Nat))))
 (7 :
 Nat)
 (Value.int
 IntKind.i64
 n_39) ∧
 at1
 h_5
 (Array.size
 (Array.push
 h
 (row
 (TVs.cells
 [TV.agg
 [TV.int
 IntKind.i64
 (5 :
 Int),
 TV.str
 (ByteArray.mk
 #[(107 :
 UInt8)]).data.toList],
 TV.agg
 [TV.int
 IntKind.i64
 (5 :
 Int),
 TV.str
 (ByteArray.mk
 #[(108 :
 UInt8)]).data.toList]])
 (41 :
 Nat))))
 (8 :
 Nat)
 (Value.int
 IntKind.i64
 n_40) ∧
 at1
 h_5
 (Array.size
 (Array.push
 h
 (row
 (TVs.cells
 [TV.agg
 [TV.int
 IntKind.i64
 (5 :
 Int),
 TV.str
 (ByteArray.mk
 #[(107 :
 UInt8)]).data.toList],
 TV.agg
 [TV.int
 IntKind.i64
 (5 :
 Int),
 TV.str
 (ByteArray.mk
 #[(108 :
 UInt8)]).data.toList]])
 (41 :
 Nat))))
 (9 :
 Nat)
 (Value.int
 IntKind.i64
 n_41) ∧
 at1
 h_5
 (Array.size
 (Array.push
 h
 (row
 (TVs.cells
 [TV.agg
 [TV.int
 IntKind.i64
 (5 :
 Int),
 TV.str
 (ByteArray.mk
 #[(107 :
 UInt8)]).data.toList],
 TV.agg
 [TV.int
 IntKind.i64
 (5 :
 Int),
 TV.str
 (ByteArray.mk
 #[(108 :
 UInt8)]).data.toList]])
 (41 :
 Nat))))
 (10 :
 Nat)
 (Value.int
 IntKind.i64
 n_42) ∧
 at1
 h_5
 (Array.size
 (Array.push
 h
 (row
 (TVs.cells
 [TV.agg
 [TV.int
 IntKind.i64
 (5 :
 Int),
 TV.str
 (ByteArray.mk
 #[(107 :
 UInt8)]).data.toList],
 TV.agg
 [TV.int
 IntKind.i64
 (5 :
 Int),
 TV.str
 (ByteArray.mk
 #[(108 :
 UInt8)]).data.toList]])
 (41 :
 Nat))))
 (11 :
 Nat)
 (Value.int
 IntKind.i64
 n_43)) ∧
 CallsH
 Try.prog
 (14 :
 Nat)
 (TVs.vals
 [TV.agg
 [TV.slice
 s,
 TV.int
 IntKind.i64
 n,
 TV.int
 IntKind.i64
 n_34,
 TV.int
 IntKind.i64
 n_35,
 TV.int
 IntKind.i64
 n_36,
 TV.int
 IntKind.i64
 n_37,
 TV.int
 IntKind.i64
 n_38,
 TV.int
 IntKind.i64
 n_39,
 TV.int
 IntKind.i64
 n_40,
 TV.int
 IntKind.i64
 n_41,
 TV.int
 IntKind.i64
 n_42,
 TV.int
 IntKind.i64
 n_43],
 TV.int
 IntKind.i64
 (7 :
 Int),
 TV.int
 IntKind.i64
 (2 :
 Int)])
 h_5
 fun
 (v :
 Value)
 (h :
 Array
 Obj) ↦
 ∃
 (n
 :
 Int),
 v =
 TV.val
 (TV.int
 IntKind.i64
 n) ∧
 R
 (TV.val
 (TV.bool
 (decide
 (n =
 (-1 :
 Int)))))
 h)
 (R
 (TV.val
 (TV.bool
 false))
 h_5))
 (R (TV.val (TV.bool false)) h_4))
 (R (TV.val (TV.bool false)) h_3))
 (R (TV.val (TV.bool false)) h_3)

theorem tollerlaw06_alive_calls (h : Heap) (R : Value → Heap → Prop) (H : tollerlaw06_alive_vc h R) : CallsH Try.prog 8 (TVs.vals []) h R :=
 vcFn_sound (C := ctx) ctx_ok (fn := Try.f8) Try.func8 ((by kernel_rfl : tollerlaw06_alive_vc h R = vcFn ctx Try.f8 [] h R) ▸ H)


def tollerref05_Good_vc (c_Validators : Sl) (c_Epoch : Int) (c_Committee : Int) (c_Nodes : Int) (c_Orphans : Int) (c_Early : Int) (c_Quota : Int) (c_Peers : Int) (c_Bytes : Int) (c_Window : Int) (c_Ban : Int) (c_Decay : Int) (h : Heap) (R : Value → Heap → Prop) : Prop :=
 Vc.Bind
 (newTV h
 (TV.agg
 [TV.slice c_Validators, TV.int IntKind.i64 c_Epoch, TV.int IntKind.i64 c_Committee, TV.int IntKind.i64 c_Nodes, TV.int IntKind.i64 c_Orphans,
 TV.int IntKind.i64 c_Early, TV.int IntKind.i64 c_Quota, TV.int IntKind.i64 c_Peers, TV.int IntKind.i64 c_Bytes, TV.int IntKind.i64 c_Window,
 TV.int IntKind.i64 c_Ban, TV.int IntKind.i64 c_Decay])
 (24 : Nat))
 fun (h_1 : Array Obj) ↦
 ∃ (s : Sl),
 ∃ (n : Int),
 ∃ (n_1 : Int),
 ∃ (n_2 : Int),
 ∃ (n_3 : Int),
 ∃ (n_4 : Int),
 ∃ (n_5 : Int),
 ∃ (n_6 : Int),
 ∃ (n_7 : Int),
 ∃ (n_8 : Int),
 ∃ (n_9 : Int),
 ∃ (n_10 : Int),
 (at1 h_1 (Array.size h) (0 : Nat) (slVal s) ∧
 at1 h_1 (Array.size h) (1 : Nat) (Value.int IntKind.i64 n) ∧
 at1 h_1 (Array.size h) (2 : Nat) (Value.int IntKind.i64 n_1) ∧
 at1 h_1 (Array.size h) (3 : Nat) (Value.int IntKind.i64 n_2) ∧
 at1 h_1 (Array.size h) (4 : Nat) (Value.int IntKind.i64 n_3) ∧
 at1 h_1 (Array.size h) (5 : Nat) (Value.int IntKind.i64 n_4) ∧
 at1 h_1 (Array.size h) (6 : Nat) (Value.int IntKind.i64 n_5) ∧
 at1 h_1 (Array.size h) (7 : Nat) (Value.int IntKind.i64 n_6) ∧
 at1 h_1 (Array.size h) (8 : Nat) (Value.int IntKind.i64 n_7) ∧
 at1 h_1 (Array.size h) (9 : Nat) (Value.int IntKind.i64 n_8) ∧
 at1 h_1 (Array.size h) (10 : Nat) (Value.int IntKind.i64 n_9) ∧
 at1 h_1 (Array.size h) (11 : Nat) (Value.int IntKind.i64 n_10)) ∧
 CallsH Try.prog (19 : Nat)
 (TVs.vals
 [TV.agg
 [TV.slice s, TV.int IntKind.i64 n, TV.int IntKind.i64 n_1, TV.int IntKind.i64 n_2, TV.int IntKind.i64 n_3,
 TV.int IntKind.i64 n_4, TV.int IntKind.i64 n_5, TV.int IntKind.i64 n_6, TV.int IntKind.i64 n_7, TV.int IntKind.i64 n_8,
 TV.int IntKind.i64 n_9, TV.int IntKind.i64 n_10]])
 h_1 fun (v : Value) (h_2 : Array Obj) ↦
 ∃ (s_1 : Sl),
 v = TV.val (TV.slice s_1) ∧
 Go.Vc.Loop (false, (0 : Int)) h_2 fun (s_2 : Bool × Int) (h_3 : Array Obj) (K : Bool × Int → Array Obj → Prop) ↦
 If (decide (s_2.snd < (↑s_1.len : Int)))
 ((0 : Int) ≤ s_2.snd ∧
 s_2.snd < (↑s_1.len : Int) ∧
 Nn s_1.a fun (l : Go.Vc.Loc) ↦
 ∃ (n_11 : Int),
 at1 h_3 l.b (l.o + Int.toNat s_2.snd * (1 : Nat)) (Value.int IntKind.i64 n_11) ∧
 If (decide (n_11 < (1 : Int))) (R (TV.val (TV.bool false)) h_3)
 ((0 : Int) ≤ s_2.snd ∧
 s_2.snd < (↑s_1.len : Int) ∧
 Nn s_1.a fun (l : Go.Vc.Loc) ↦
 ∃ (n_12 : Int),
 at1 h_3 l.b (l.o + Int.toNat s_2.snd * (1 : Nat)) (Value.int IntKind.i64 n_12) ∧
 (0 : Int) ≤ IntKind.wrap IntKind.i64 (s_2.snd + (1 : Int)) ∧
 IntKind.wrap IntKind.i64 (s_2.snd + (1 : Int)) < (↑s_1.len : Int) ∧
 Nn s_1.a fun (l : Go.Vc.Loc) ↦
 ∃ (n_13 : Int),
 at1 h_3 l.b (l.o + Int.toNat (IntKind.wrap IntKind.i64 (s_2.snd + (1 : Int))) * (1 : Nat))
 (Value.int IntKind.i64 n_13) ∧
 If (decide (n_13 < n_12)) (R (TV.val (TV.bool false)) h_3)
 (K (s_2.fst, IntKind.wrap IntKind.i64 (s_2.snd + (2 : Int))) h_3)))
 (∃ (s : Sl),
 at1 h_3 (Array.size h) (0 : Nat) (slVal s) ∧
 CallsH Try.prog (20 : Nat) (TVs.vals [TV.slice s]) h_3 fun (v : Value) (h : Array Obj) ↦
 ∃ (n : Int), ∃ (b : Bool), v = TV.val (TV.tup [TV.int IntKind.i64 n, TV.bool b]) ∧ R (TV.val (TV.bool b)) h)

theorem tollerref05_Good_calls (c_Validators : Sl) (c_Epoch : Int) (c_Committee : Int) (c_Nodes : Int) (c_Orphans : Int) (c_Early : Int) (c_Quota : Int) (c_Peers : Int) (c_Bytes : Int) (c_Window : Int) (c_Ban : Int) (c_Decay : Int) (h : Heap) (R : Value → Heap → Prop) (H : tollerref05_Good_vc c_Validators c_Epoch c_Committee c_Nodes c_Orphans c_Early c_Quota c_Peers c_Bytes c_Window c_Ban c_Decay h R) : CallsH Try.prog 10 (TVs.vals [TV.agg [TV.slice c_Validators, TV.int IntKind.i64 c_Epoch, TV.int IntKind.i64 c_Committee, TV.int IntKind.i64 c_Nodes, TV.int IntKind.i64 c_Orphans, TV.int IntKind.i64 c_Early, TV.int IntKind.i64 c_Quota, TV.int IntKind.i64 c_Peers, TV.int IntKind.i64 c_Bytes, TV.int IntKind.i64 c_Window, TV.int IntKind.i64 c_Ban, TV.int IntKind.i64 c_Decay]]) h R :=
 vcFn_sound (C := ctx) ctx_ok (fn := Try.f10) Try.func10 ((by kernel_rfl : tollerref05_Good_vc c_Validators c_Epoch c_Committee c_Nodes c_Orphans c_Early c_Quota c_Peers c_Bytes c_Window c_Ban c_Decay h R = vcFn ctx Try.f10 [TV.agg [TV.slice c_Validators, TV.int IntKind.i64 c_Epoch, TV.int IntKind.i64 c_Committee, TV.int IntKind.i64 c_Nodes, TV.int IntKind.i64 c_Orphans, TV.int IntKind.i64 c_Early, TV.int IntKind.i64 c_Quota, TV.int IntKind.i64 c_Peers, TV.int IntKind.i64 c_Bytes, TV.int IntKind.i64 c_Window, TV.int IntKind.i64 c_Ban, TV.int IntKind.i64 c_Decay]] h R) ▸ H)


def tollerlaw06_BoardMore_vc (c_Validators : Sl) (c_Epoch : Int) (c_Committee : Int) (c_Nodes : Int) (c_Orphans : Int) (c_Early : Int) (c_Quota : Int) (c_Peers : Int) (c_Bytes : Int) (c_Window : Int) (c_Ban : Int) (c_Decay : Int) (slot : Int) (less : Int) (h : Heap) (R : Value → Heap → Prop) : Prop :=
 Vc.Bind
 (newTV h
 (TV.agg
 [TV.slice c_Validators, TV.int IntKind.i64 c_Epoch, TV.int IntKind.i64 c_Committee, TV.int IntKind.i64 c_Nodes, TV.int IntKind.i64 c_Orphans,
 TV.int IntKind.i64 c_Early, TV.int IntKind.i64 c_Quota, TV.int IntKind.i64 c_Peers, TV.int IntKind.i64 c_Bytes, TV.int IntKind.i64 c_Window,
 TV.int IntKind.i64 c_Ban, TV.int IntKind.i64 c_Decay])
 (24 : Nat))
 fun (h_1 : Array Obj) ↦
 CallsH Try.prog (8 : Nat) (TVs.vals []) h_1 fun (v : Value) (h_2 : Array Obj) ↦
 ∃ (b : Bool),
 v = TV.val (TV.bool b) ∧
 If (!b) (R (TV.val (TV.bool false)) h_2)
 (Join
 (fun (s : Bool × Bool) (h_3 : Array Obj) ↦
 ∃ (s : Sl),
 ∃ (n : Int),
 ∃ (n_1 : Int),
 ∃ (n_2 : Int),
 ∃ (n_3 : Int),
 ∃ (n_4 : Int),
 ∃ (n_5 : Int),
 ∃ (n_6 : Int),
 ∃ (n_7 : Int),
 ∃ (n_8 : Int),
 ∃ (n_9 : Int),
 ∃ (n_10 : Int),
 (at1 h_3 (Array.size h) (0 : Nat) (slVal s) ∧
 at1 h_3 (Array.size h) (1 : Nat) (Value.int IntKind.i64 n) ∧
 at1 h_3 (Array.size h) (2 : Nat) (Value.int IntKind.i64 n_1) ∧
 at1 h_3 (Array.size h) (3 : Nat) (Value.int IntKind.i64 n_2) ∧
 at1 h_3 (Array.size h) (4 : Nat) (Value.int IntKind.i64 n_3) ∧
 at1 h_3 (Array.size h) (5 : Nat) (Value.int IntKind.i64 n_4) ∧
 at1 h_3 (Array.size h) (6 : Nat) (Value.int IntKind.i64 n_5) ∧
 at1 h_3 (Array.size h) (7 : Nat) (Value.int IntKind.i64 n_6) ∧
 at1 h_3 (Array.size h) (8 : Nat) (Value.int IntKind.i64 n_7) ∧
 at1 h_3 (Array.size h) (9 : Nat) (Value.int IntKind.i64 n_8) ∧
 at1 h_3 (Array.size h) (10 : Nat) (Value.int IntKind.i64 n_9) ∧
 at1 h_3 (Array.size h) (11 : Nat) (Value.int IntKind.i64 n_10)) ∧
 Vc.Bind
 (newTV h_3
 (TV.agg
 [TV.slice Sl.nil, TV.int IntKind.i64 (0 : Int), TV.int IntKind.i64 (0 : Int), TV.int IntKind.i64 (0 : Int),
 TV.int IntKind.i64 (0 : Int), TV.int IntKind.i64 (0 : Int), TV.int IntKind.i64 (0 : Int),
 TV.int IntKind.i64 (0 : Int), TV.int IntKind.i64 (0 : Int), TV.int IntKind.i64 (0 : Int),
 TV.int IntKind.i64 (0 : Int), TV.int IntKind.i64 (0 : Int)])
 (24 : Nat))
 fun (h_4 : Array Obj) ↦
 wok h_4 (Array.size h_3) (0 : Nat) (12 : Nat) ∧
 Vc.Bind
 (TV.put h_4 (Array.size h_3) (0 : Nat)
 (TV.agg
 [TV.slice s, TV.int IntKind.i64 n, TV.int IntKind.i64 n_1, TV.int IntKind.i64 n_2, TV.int IntKind.i64 n_3,
 TV.int IntKind.i64 n_4, TV.int IntKind.i64 n_5, TV.int IntKind.i64 n_6, TV.int IntKind.i64 n_7,
 TV.int IntKind.i64 n_8, TV.int IntKind.i64 n_9, TV.int IntKind.i64 n_10]))
 fun (h_5 : Array Obj) ↦
 ∃ (n : Int),
 at1 h_5 (Array.size h) (2 : Nat) (Value.int IntKind.i64 n) ∧
 wok h_5 (Array.size h_3) (2 : Nat) (1 : Nat) ∧
 Vc.Bind (TV.put h_5 (Array.size h_3) (2 : Nat) (TV.int IntKind.i64 (IntKind.wrap IntKind.i64 (n - less))))
 fun (h_6 : Array Obj) ↦
 ∃ (s : Sl),
 ∃ (n : Int),
 ∃ (n_11 : Int),
 ∃ (n_12 : Int),
 ∃ (n_13 : Int),
 ∃ (n_14 : Int),
 ∃ (n_15 : Int),
 ∃ (n_16 : Int),
 ∃ (n_17 : Int),
 ∃ (n_18 : Int),
 ∃ (n_19 : Int),
 ∃ (n_20 : Int),
 (at1 h_6 (Array.size h) (0 : Nat) (slVal s) ∧
 at1 h_6 (Array.size h) (1 : Nat) (Value.int IntKind.i64 n) ∧
 at1 h_6 (Array.size h) (2 : Nat) (Value.int IntKind.i64 n_11) ∧
 at1 h_6 (Array.size h) (3 : Nat) (Value.int IntKind.i64 n_12) ∧
 at1 h_6 (Array.size h) (4 : Nat) (Value.int IntKind.i64 n_13) ∧
 at1 h_6 (Array.size h) (5 : Nat) (Value.int IntKind.i64 n_14) ∧
 at1 h_6 (Array.size h) (6 : Nat) (Value.int IntKind.i64 n_15) ∧
 at1 h_6 (Array.size h) (7 : Nat) (Value.int IntKind.i64 n_16) ∧
 at1 h_6 (Array.size h) (8 : Nat) (Value.int IntKind.i64 n_17) ∧
 at1 h_6 (Array.size h) (9 : Nat)
 (Value.int IntKind.i64 n_18) ∧
 at1 h_6 (Array.size h) (10 : Nat)
 (Value.int IntKind.i64 n_19) ∧
 at1 h_6 (Array.size h) (11 : Nat)
 (Value.int IntKind.i64 n_20)) ∧
 ∃ (s_1 : Sl),
 ∃ (n_21 : Int),
 ∃ (n_22 : Int),
 ∃ (n_23 : Int),
 ∃ (n_24 : Int),
 ∃ (n_25 : Int),
 ∃ (n_26 : Int),
 ∃ (n_27 : Int),
 ∃ (n_28 : Int),
 ∃ (n_29 : Int),
 ∃ (n_30 : Int),
 ∃ (n_31 : Int),
 (at1 h_6 (Array.size h_3) (0 : Nat) (slVal s_1) ∧
 at1 h_6 (Array.size h_3) (1 : Nat)
 (Value.int IntKind.i64 n_21) ∧
 at1 h_6 (Array.size h_3) (2 : Nat)
 (Value.int IntKind.i64 n_22) ∧
 at1 h_6 (Array.size h_3) (3 : Nat)
 (Value.int IntKind.i64 n_23) ∧
 at1 h_6 (Array.size h_3) (4 : Nat)
 (Value.int IntKind.i64 n_24) ∧
 at1 h_6 (Array.size h_3) (5 : Nat)
 (Value.int IntKind.i64 n_25) ∧
 at1 h_6 (Array.size h_3) (6 : Nat)
 (Value.int IntKind.i64 n_26) ∧
 at1 h_6 (Array.size h_3) (7 : Nat)
 (Value.int IntKind.i64 n_27) ∧
 at1 h_6 (Array.size h_3) (8 : Nat)
 (Value.int IntKind.i64 n_28) ∧
 at1 h_6 (Array.size h_3) (9 : Nat)
 (Value.int IntKind.i64 n_29) ∧
 at1 h_6 (Array.size h_3)
 (10 : Nat)
 (Value.int IntKind.i64 n_30) ∧
 at1 h_6 (Array.size h_3)
 (11 : Nat)
 (Value.int IntKind.i64
 n_31)) ∧
 CallsH Try.prog (11 : Nat)
 (TVs.vals
 [TV.agg
 [TV.slice s, TV.int IntKind.i64 n,
 TV.int IntKind.i64 n_11,
 TV.int IntKind.i64 n_12,
 TV.int IntKind.i64 n_13,
 TV.int IntKind.i64 n_14,
 TV.int IntKind.i64 n_15,
 TV.int IntKind.i64 n_16,
 TV.int IntKind.i64 n_17,
 TV.int IntKind.i64 n_18,
 TV.int IntKind.i64 n_19,
 TV.int IntKind.i64 n_20],
 TV.int IntKind.i64 slot])
 h_6 fun (v : Value) (h_7 : Array Obj) ↦
 ∃ (s : Sl),
 v = TV.val (TV.slice s) ∧
 Ext h_6 h_7 ∧
 CallsH Try.prog (11 : Nat)
 (TVs.vals
 [TV.agg
 [TV.slice s_1,
 TV.int IntKind.i64 n_21,
 TV.int IntKind.i64 n_22,
 TV.int IntKind.i64 n_23,
 TV.int IntKind.i64 n_24,
 TV.int IntKind.i64 n_25,
 TV.int IntKind.i64 n_26,
 TV.int IntKind.i64 n_27,
 TV.int IntKind.i64 n_28,
 TV.int IntKind.i64 n_29,
 TV.int IntKind.i64 n_30,
 TV.int IntKind.i64 n_31],
 TV.int IntKind.i64 slot])
 h_7 fun (v : Value) (h_8 : Array Obj) ↦
 ∃ (s_2 : Sl),
 v = TV.val (TV.slice s_2) ∧
 If
 (decide
 ((↑s_2.len : Int) ≤ (↑s.len : Int)))
 ((0 : Int) ≤ (↑s_2.len : Int) ∧
 (↑s_2.len : Int) ≤ (↑s.cap : Int) ∧
 CallsH Try.prog (12 : Nat)
 (TVs.vals
 [TV.slice
 (cutSl s (0 : Nat)
 (Int.toNat
 (↑s_2.len : Int))
 (1 : Nat)),
 TV.slice s_2])
 h_8
 fun (v : Value)
 (h_9 : Array Obj) ↦
 ∃ (b : Bool),
 v = TV.val (TV.bool b) ∧
 If b
 (∃ (s : Sl),
 ∃ (n : Int),
 ∃ (n_32 : Int),
 ∃ (n_33 : Int),
 ∃ (n_34 : Int),
 ∃ (n_35 : Int),
 ∃ (n_36 :
 Int),
 ∃ (n_37 :
 Int),
 ∃ (n_38 :
 Int),
 ∃ (n_39
 :
 Int),
 ∃
 (n_40
 :
 Int),
 ∃
 (n_41
 :
 Int),
 (at1
 h_9
 (Array.size
 h)
 (0 :
 Nat)
 (slVal
 s) ∧
 at1
 h_9
 (Array.size
 h)
 (1 :
 Nat)
 (Value.int
 IntKind.i64
 n) ∧
 at1
 h_9
 (Array.size
 h)
 (2 :
 Nat)
 (Value.int
 IntKind.i64
 n_32) ∧
 at1
 h_9
 (Array.size
 h)
 (3 :
 Nat)
 (Value.int
 IntKind.i64
 n_33) ∧
 at1
 h_9
 (Array.size
 h)
 (4 :
 Nat)
 (Value.int
 IntKind.i64
 n_34) ∧
 at1
 h_9
 (Array.size
 h)
 (5 :
 Nat)
 (Value.int
 IntKind.i64
 n_35) ∧
 at1
 h_9
 (Array.size
 h)
 (6 :
 Nat)
 (Value.int
 IntKind.i64
 n_36) ∧
 at1
 h_9
 (Array.size
 h)
 (7 :
 Nat)
 (Value.int
 IntKind.i64
 n_37) ∧
 at1
 h_9
 (Array.size
 h)
 (8 :
 Nat)
 (Value.int
 IntKind.i64
 n_38) ∧
 at1
 h_9
 (Array.size
 h)
 (9 :
 Nat)
 (Value.int
 IntKind.i64
 n_39) ∧
 at1
 h_9
 (Array.size
 h)
 (10 :
 Nat)
 (Value.int
 IntKind.i64
 n_40) ∧
 at1
 h_9
 (Array.size
 h)
 (11 :
 Nat)
 (Value.int
 IntKind.i64
 n_41)) ∧
 ∃
 (s_3
 :
 Sl),
 ∃
 (n_42
 :
 Int),
 ∃
 (n_43
 :
 Int),
 ∃
 (n_44
 :
 Int),
 ∃
 (n_45
 :
 Int),
 ∃
 (n_46
 :
 Int),
 ∃
 (n_47
 :
 Int),
 ∃
 (n_48
 :
 Int),
 ∃
 (n_49
 :
 Int),
 ∃
 (n_50
 :
 Int),
 ∃
 (n_51
 :
 Int),
 ∃
 (n_52
 :
 Int),
 (at1
 h_9
 (Array.size
 h_3)
 (0 :
 Nat)
 (slVal
 s_3) ∧
 at1
 h_9
 (Array.size
 h_3)
 (1 :
 Nat)
 (Value.int
 IntKind.i64
 n_42) ∧
 at1
 h_9
 (Array.size
 h_3)
 (2 :
 Nat)
 (Value.int
 IntKind.i64
 n_43) ∧
 at1
 h_9
 (Array.size
 h_3)
 (3 :
 Nat)
 (Value.int
 IntKind.i64
 n_44) ∧
 at1
 h_9
 (Array.size
 h_3)
 (4 :
 Nat)
 (Value.int
 IntKind.i64
 n_45) ∧
 at1
 h_9
 (Array.size
 h_3)
 (5 :
 Nat)
 (Value.int
 IntKind.i64
 n_46) ∧
 at1
 h_9
 (Array.size
 h_3)
 (6 :
 Nat)
 (Value.int
 IntKind.i64
 n_47) ∧
 at1
 h_9
 (Array.size
 h_3)
 (7 :
 Nat)
 (Value.int
 IntKind.i64
 n_48) ∧
 at1
 h_9
 (Array.size
 h_3)
 (8 :
 Nat)
 (Value.int
 IntKind.i64
 n_49) ∧
 at1
 h_9
 (Array.size
 h_3)
 (9 :
 Nat)
 (Value.int
 IntKind.i64
 n_50) ∧
 at1
 h_9
 (Array.size
 h_3)
 (10 :
 Nat)
 (Value.int
 IntKind.i64
 n_51) ∧
 at1
 h_9
 (Array.size
 h_3)
 (11 :
 Nat)
 (Value.int
 IntKind.i64
 n_52)) ∧
 CallsH
 Try.prog
 (13 :
 Nat)
 (TVs.vals
 [TV.agg
 [TV.slice
 s,
 TV.int
 IntKind.i64
 n,
 TV.int
 IntKind.i64
 n_32,
 TV.int
 IntKind.i64
 n_33,
 TV.int
 IntKind.i64
 n_34,
 TV.int
 IntKind.i64
 n_35,
 TV.int
 IntKind.i64
 n_36,
 TV.int
 IntKind.i64
 n_37,
 TV.int
 IntKind.i64
 n_38,
 TV.int
 IntKind.i64
 n_39,
 TV.int
 IntKind.i64
 n_40,
 TV.int
 IntKind.i64
 n_41],
 TV.int
 IntKind.i64
 slot])
 h_9
 fun
 (v :
 Value)
 (h :
 Array
 Obj) ↦
 ∃
 (n
 :
 Int),
 v =
 TV.val
 (TV.int
 IntKind.i64
 n) ∧
 Ext
 h_9
 h ∧
 CallsH
 Try.prog
 (13 :
 Nat)
 (TVs.vals
 [TV.agg
 [TV.slice
 s_3,
 TV.int
 IntKind.i64
 n_42,
 TV.int
 IntKind.i64
 n_43,
 TV.int
 IntKind.i64
 n_44,
 TV.int
 IntKind.i64
 n_45,
 TV.int
 IntKind.i64
 n_46,
 TV.int
 IntKind.i64
 n_47,
 TV.int
 IntKind.i64
 n_48,
 TV.int
 IntKind.i64
 n_49,
 TV.int
 IntKind.i64
 n_50,
 TV.int
 IntKind.i64
 n_51,
 TV.int
 IntKind.i64
 n_52],
 TV.int
 IntKind.i64
 slot])
 h
 fun
 (v :
 Value)
 (h :
 Array
 Obj) ↦
 ∃
 (n_53
 :
 Int),
 v =
 TV.val
 (TV.int
 IntKind.i64
 n_53) ∧
 R
 (TV.val
 (TV.bool
 (decide
 (n =
 n_53))))
 h)
 (R
 (TV.val (TV.bool false))
 h_9))
 (R (TV.val (TV.bool false)) h_8))
 fun (J : Bool × Bool → Array Obj → Prop) ↦
 ∃ (s : Sl),
 ∃ (n : Int),
 ∃ (n_1 : Int),
 ∃ (n_2 : Int),
 ∃ (n_3 : Int),
 ∃ (n_4 : Int),
 ∃ (n_5 : Int),
 ∃ (n_6 : Int),
 ∃ (n_7 : Int),
 ∃ (n_8 : Int),
 ∃ (n_9 : Int),
 ∃ (n_10 : Int),
 (at1 h_2 (Array.size h) (0 : Nat) (slVal s) ∧
 at1 h_2 (Array.size h) (1 : Nat) (Value.int IntKind.i64 n) ∧
 at1 h_2 (Array.size h) (2 : Nat) (Value.int IntKind.i64 n_1) ∧
 at1 h_2 (Array.size h) (3 : Nat) (Value.int IntKind.i64 n_2) ∧
 at1 h_2 (Array.size h) (4 : Nat) (Value.int IntKind.i64 n_3) ∧
 at1 h_2 (Array.size h) (5 : Nat) (Value.int IntKind.i64 n_4) ∧
 at1 h_2 (Array.size h) (6 : Nat) (Value.int IntKind.i64 n_5) ∧
 at1 h_2 (Array.size h) (7 : Nat) (Value.int IntKind.i64 n_6) ∧
 at1 h_2 (Array.size h) (8 : Nat) (Value.int IntKind.i64 n_7) ∧
 at1 h_2 (Array.size h) (9 : Nat) (Value.int IntKind.i64 n_8) ∧
 at1 h_2 (Array.size h) (10 : Nat) (Value.int IntKind.i64 n_9) ∧
 at1 h_2 (Array.size h) (11 : Nat) (Value.int IntKind.i64 n_10)) ∧
 CallsH Try.prog (9 : Nat)
 (TVs.vals
 [TV.agg
 [TV.slice s, TV.int IntKind.i64 n, TV.int IntKind.i64 n_1, TV.int IntKind.i64 n_2, TV.int IntKind.i64 n_3,
 TV.int IntKind.i64 n_4, TV.int IntKind.i64 n_5, TV.int IntKind.i64 n_6, TV.int IntKind.i64 n_7,
 TV.int IntKind.i64 n_8, TV.int IntKind.i64 n_9, TV.int IntKind.i64 n_10]])
 h_2 fun (v : Value) (h_3 : Array Obj) ↦
 ∃ (b : Bool),
 v = TV.val (TV.bool b) ∧
 If b (R (TV.val (TV.bool true)) h_3)
 (∃ (s : Sl),
 ∃ (n : Int),
 ∃ (n_11 : Int),
 ∃ (n_12 : Int),
 ∃ (n_13 : Int),
 ∃ (n_14 : Int),
 ∃ (n_15 : Int),
 ∃ (n_16 : Int),
 ∃ (n_17 : Int),
 ∃ (n_18 : Int),
 ∃ (n_19 : Int),
 ∃ (n_20 : Int),
 (at1 h_3 (Array.size h) (0 : Nat) (slVal s) ∧
 at1 h_3 (Array.size h) (1 : Nat) (Value.int IntKind.i64 n) ∧
 at1 h_3 (Array.size h) (2 : Nat) (Value.int IntKind.i64 n_11) ∧
 at1 h_3 (Array.size h) (3 : Nat) (Value.int IntKind.i64 n_12) ∧
 at1 h_3 (Array.size h) (4 : Nat) (Value.int IntKind.i64 n_13) ∧
 at1 h_3 (Array.size h) (5 : Nat) (Value.int IntKind.i64 n_14) ∧
 at1 h_3 (Array.size h) (6 : Nat) (Value.int IntKind.i64 n_15) ∧
 at1 h_3 (Array.size h) (7 : Nat) (Value.int IntKind.i64 n_16) ∧
 at1 h_3 (Array.size h) (8 : Nat) (Value.int IntKind.i64 n_17) ∧
 at1 h_3 (Array.size h) (9 : Nat) (Value.int IntKind.i64 n_18) ∧
 at1 h_3 (Array.size h) (10 : Nat) (Value.int IntKind.i64 n_19) ∧
 at1 h_3 (Array.size h) (11 : Nat) (Value.int IntKind.i64 n_20)) ∧
 CallsH Try.prog (10 : Nat)
 (TVs.vals
 [TV.agg
 [TV.slice s, TV.int IntKind.i64 n, TV.int IntKind.i64 n_11,
 TV.int IntKind.i64 n_12, TV.int IntKind.i64 n_13, TV.int IntKind.i64 n_14,
 TV.int IntKind.i64 n_15, TV.int IntKind.i64 n_16, TV.int IntKind.i64 n_17,
 TV.int IntKind.i64 n_18, TV.int IntKind.i64 n_19, TV.int IntKind.i64 n_20]])
 h_3 fun (v : Value) (h_4 : Array Obj) ↦
 ∃ (b_1 : Bool),
 v = TV.val (TV.bool b_1) ∧
 If (!b_1) (R (TV.val (TV.bool true)) h_4)
 (If (decide (less < (0 : Int))) (R (TV.val (TV.bool true)) h_4)
 (∃ (n : Int),
 at1 h_4 (Array.size h) (2 : Nat) (Value.int IntKind.i64 n) ∧
 If (decide (n ≤ less)) (R (TV.val (TV.bool true)) h_4)
 (J (false, b) h_4)))))

theorem tollerlaw06_BoardMore_calls (c_Validators : Sl) (c_Epoch : Int) (c_Committee : Int) (c_Nodes : Int) (c_Orphans : Int) (c_Early : Int) (c_Quota : Int) (c_Peers : Int) (c_Bytes : Int) (c_Window : Int) (c_Ban : Int) (c_Decay : Int) (slot : Int) (less : Int) (h : Heap) (R : Value → Heap → Prop) (H : tollerlaw06_BoardMore_vc c_Validators c_Epoch c_Committee c_Nodes c_Orphans c_Early c_Quota c_Peers c_Bytes c_Window c_Ban c_Decay slot less h R) : CallsH Try.prog 3 (TVs.vals [TV.agg [TV.slice c_Validators, TV.int IntKind.i64 c_Epoch, TV.int IntKind.i64 c_Committee, TV.int IntKind.i64 c_Nodes, TV.int IntKind.i64 c_Orphans, TV.int IntKind.i64 c_Early, TV.int IntKind.i64 c_Quota, TV.int IntKind.i64 c_Peers, TV.int IntKind.i64 c_Bytes, TV.int IntKind.i64 c_Window, TV.int IntKind.i64 c_Ban, TV.int IntKind.i64 c_Decay], TV.int IntKind.i64 slot, TV.int IntKind.i64 less]) h R :=
 vcFn_sound (C := ctx) ctx_ok (fn := Try.f3) Try.func3 ((by kernel_rfl : tollerlaw06_BoardMore_vc c_Validators c_Epoch c_Committee c_Nodes c_Orphans c_Early c_Quota c_Peers c_Bytes c_Window c_Ban c_Decay slot less h R = vcFn ctx Try.f3 [TV.agg [TV.slice c_Validators, TV.int IntKind.i64 c_Epoch, TV.int IntKind.i64 c_Committee, TV.int IntKind.i64 c_Nodes, TV.int IntKind.i64 c_Orphans, TV.int IntKind.i64 c_Early, TV.int IntKind.i64 c_Quota, TV.int IntKind.i64 c_Peers, TV.int IntKind.i64 c_Bytes, TV.int IntKind.i64 c_Window, TV.int IntKind.i64 c_Ban, TV.int IntKind.i64 c_Decay], TV.int IntKind.i64 slot, TV.int IntKind.i64 less] h R) ▸ H)


def tollerlaw06_BoardStakes_vc (a_Validators : Sl) (a_Epoch : Int) (a_Committee : Int) (a_Nodes : Int) (a_Orphans : Int) (a_Early : Int) (a_Quota : Int) (a_Peers : Int) (a_Bytes : Int) (a_Window : Int) (a_Ban : Int) (a_Decay : Int) (b_Validators : Sl) (b_Epoch : Int) (b_Committee : Int) (b_Nodes : Int) (b_Orphans : Int) (b_Early : Int) (b_Quota : Int) (b_Peers : Int) (b_Bytes : Int) (b_Window : Int) (b_Ban : Int) (b_Decay : Int) (slot : Int) (h : Heap) (R : Value → Heap → Prop) : Prop :=
 Vc.Bind
 (newTV h
 (TV.agg
 [TV.slice a_Validators, TV.int IntKind.i64 a_Epoch, TV.int IntKind.i64 a_Committee, TV.int IntKind.i64 a_Nodes, TV.int IntKind.i64 a_Orphans,
 TV.int IntKind.i64 a_Early, TV.int IntKind.i64 a_Quota, TV.int IntKind.i64 a_Peers, TV.int IntKind.i64 a_Bytes, TV.int IntKind.i64 a_Window,
 TV.int IntKind.i64 a_Ban, TV.int IntKind.i64 a_Decay])
 (24 : Nat))
 fun (h_1 : Array Obj) ↦
 Vc.Bind
 (newTV h_1
 (TV.agg
 [TV.slice b_Validators, TV.int IntKind.i64 b_Epoch, TV.int IntKind.i64 b_Committee, TV.int IntKind.i64 b_Nodes, TV.int IntKind.i64 b_Orphans,
 TV.int IntKind.i64 b_Early, TV.int IntKind.i64 b_Quota, TV.int IntKind.i64 b_Peers, TV.int IntKind.i64 b_Bytes, TV.int IntKind.i64 b_Window,
 TV.int IntKind.i64 b_Ban, TV.int IntKind.i64 b_Decay])
 (24 : Nat))
 fun (h_2 : Array Obj) ↦
 CallsH Try.prog (8 : Nat) (TVs.vals []) h_2 fun (v : Value) (h_3 : Array Obj) ↦
 ∃ (b : Bool),
 v = TV.val (TV.bool b) ∧
 If (!b) (R (TV.val (TV.bool false)) h_3)
 (∃ (s : Sl),
 ∃ (n : Int),
 ∃ (n_1 : Int),
 ∃ (n_2 : Int),
 ∃ (n_3 : Int),
 ∃ (n_4 : Int),
 ∃ (n_5 : Int),
 ∃ (n_6 : Int),
 ∃ (n_7 : Int),
 ∃ (n_8 : Int),
 ∃ (n_9 : Int),
 ∃ (n_10 : Int),
 (at1 h_3 (Array.size h) (0 : Nat) (slVal s) ∧
 at1 h_3 (Array.size h) (1 : Nat) (Value.int IntKind.i64 n) ∧
 at1 h_3 (Array.size h) (2 : Nat) (Value.int IntKind.i64 n_1) ∧
 at1 h_3 (Array.size h) (3 : Nat) (Value.int IntKind.i64 n_2) ∧
 at1 h_3 (Array.size h) (4 : Nat) (Value.int IntKind.i64 n_3) ∧
 at1 h_3 (Array.size h) (5 : Nat) (Value.int IntKind.i64 n_4) ∧
 at1 h_3 (Array.size h) (6 : Nat) (Value.int IntKind.i64 n_5) ∧
 at1 h_3 (Array.size h) (7 : Nat) (Value.int IntKind.i64 n_6) ∧
 at1 h_3 (Array.size h) (8 : Nat) (Value.int IntKind.i64 n_7) ∧
 at1 h_3 (Array.size h) (9 : Nat) (Value.int IntKind.i64 n_8) ∧
 at1 h_3 (Array.size h) (10 : Nat) (Value.int IntKind.i64 n_9) ∧
 at1 h_3 (Array.size h) (11 : Nat) (Value.int IntKind.i64 n_10)) ∧
 CallsH Try.prog (9 : Nat)
 (TVs.vals
 [TV.agg
 [TV.slice s, TV.int IntKind.i64 n, TV.int IntKind.i64 n_1, TV.int IntKind.i64 n_2, TV.int IntKind.i64 n_3,
 TV.int IntKind.i64 n_4, TV.int IntKind.i64 n_5, TV.int IntKind.i64 n_6, TV.int IntKind.i64 n_7,
 TV.int IntKind.i64 n_8, TV.int IntKind.i64 n_9, TV.int IntKind.i64 n_10]])
 h_3 fun (v : Value) (h_4 : Array Obj) ↦
 ∃ (b : Bool),
 v = TV.val (TV.bool b) ∧
 If b (R (TV.val (TV.bool true)) h_4)
 (∃ (s : Sl),
 ∃ (n : Int),
 ∃ (n_11 : Int),
 ∃ (n_12 : Int),
 ∃ (n_13 : Int),
 ∃ (n_14 : Int),
 ∃ (n_15 : Int),
 ∃ (n_16 : Int),
 ∃ (n_17 : Int),
 ∃ (n_18 : Int),
 ∃ (n_19 : Int),
 ∃ (n_20 : Int),
 (at1 h_4 (Array.size h) (0 : Nat) (slVal s) ∧
 at1 h_4 (Array.size h) (1 : Nat) (Value.int IntKind.i64 n) ∧
 at1 h_4 (Array.size h) (2 : Nat) (Value.int IntKind.i64 n_11) ∧
 at1 h_4 (Array.size h) (3 : Nat) (Value.int IntKind.i64 n_12) ∧
 at1 h_4 (Array.size h) (4 : Nat) (Value.int IntKind.i64 n_13) ∧
 at1 h_4 (Array.size h) (5 : Nat) (Value.int IntKind.i64 n_14) ∧
 at1 h_4 (Array.size h) (6 : Nat) (Value.int IntKind.i64 n_15) ∧
 at1 h_4 (Array.size h) (7 : Nat) (Value.int IntKind.i64 n_16) ∧
 at1 h_4 (Array.size h) (8 : Nat) (Value.int IntKind.i64 n_17) ∧
 at1 h_4 (Array.size h) (9 : Nat) (Value.int IntKind.i64 n_18) ∧
 at1 h_4 (Array.size h) (10 : Nat) (Value.int IntKind.i64 n_19) ∧
 at1 h_4 (Array.size h) (11 : Nat) (Value.int IntKind.i64 n_20)) ∧
 CallsH Try.prog (10 : Nat)
 (TVs.vals
 [TV.agg
 [TV.slice s, TV.int IntKind.i64 n, TV.int IntKind.i64 n_11,
 TV.int IntKind.i64 n_12, TV.int IntKind.i64 n_13, TV.int IntKind.i64 n_14,
 TV.int IntKind.i64 n_15, TV.int IntKind.i64 n_16, TV.int IntKind.i64 n_17,
 TV.int IntKind.i64 n_18, TV.int IntKind.i64 n_19, TV.int IntKind.i64 n_20]])
 h_4 fun (v : Value) (h_5 : Array Obj) ↦
 ∃ (b : Bool),
 v = TV.val (TV.bool b) ∧
 If (!b) (R (TV.val (TV.bool true)) h_5)
 (∃ (s : Sl),
 ∃ (n : Int),
 ∃ (n_21 : Int),
 ∃ (n_22 : Int),
 ∃ (n_23 : Int),
 ∃ (n_24 : Int),
 ∃ (n_25 : Int),
 ∃ (n_26 : Int),
 ∃ (n_27 : Int),
 ∃ (n_28 : Int),
 ∃ (n_29 : Int),
 ∃ (n_30 : Int),
 (at1 h_5 (Array.size h_1) (0 : Nat) (slVal s) ∧
 at1 h_5 (Array.size h_1) (1 : Nat)
 (Value.int IntKind.i64 n) ∧
 at1 h_5 (Array.size h_1) (2 : Nat)
 (Value.int IntKind.i64 n_21) ∧
 at1 h_5 (Array.size h_1) (3 : Nat)
 (Value.int IntKind.i64 n_22) ∧
 at1 h_5 (Array.size h_1) (4 : Nat)
 (Value.int IntKind.i64 n_23) ∧
 at1 h_5 (Array.size h_1) (5 : Nat)
 (Value.int IntKind.i64 n_24) ∧
 at1 h_5 (Array.size h_1) (6 : Nat)
 (Value.int IntKind.i64 n_25) ∧
 at1 h_5 (Array.size h_1) (7 : Nat)
 (Value.int IntKind.i64 n_26) ∧
 at1 h_5 (Array.size h_1) (8 : Nat)
 (Value.int IntKind.i64 n_27) ∧
 at1 h_5 (Array.size h_1) (9 : Nat)
 (Value.int IntKind.i64 n_28) ∧
 at1 h_5 (Array.size h_1)
 (10 : Nat)
 (Value.int IntKind.i64 n_29) ∧
 at1 h_5 (Array.size h_1)
 (11 : Nat)
 (Value.int IntKind.i64
 n_30)) ∧
 CallsH Try.prog (9 : Nat)
 (TVs.vals
 [TV.agg
 [TV.slice s, TV.int IntKind.i64 n,
 TV.int IntKind.i64 n_21,
 TV.int IntKind.i64 n_22,
 TV.int IntKind.i64 n_23,
 TV.int IntKind.i64 n_24,
 TV.int IntKind.i64 n_25,
 TV.int IntKind.i64 n_26,
 TV.int IntKind.i64 n_27,
 TV.int IntKind.i64 n_28,
 TV.int IntKind.i64 n_29,
 TV.int IntKind.i64 n_30]])
 h_5 fun (v : Value) (h_6 : Array Obj) ↦
 ∃ (b : Bool),
 v = TV.val (TV.bool b) ∧
 If b (R (TV.val (TV.bool true)) h_6)
 (∃ (s : Sl),
 ∃ (n : Int),
 ∃ (n_31 : Int),
 ∃ (n_32 : Int),
 ∃ (n_33 : Int),
 ∃ (n_34 : Int),
 ∃ (n_35 : Int),
 ∃ (n_36 : Int),
 ∃ (n_37 : Int),
 ∃ (n_38 : Int),
 ∃ (n_39 : Int),
 ∃ (n_40 : Int),
 (at1 h_6
 (Array.size h_1)
 (0 : Nat)
 (slVal s) ∧
 at1 h_6
 (Array.size
 h_1)
 (1 : Nat)
 (Value.int
 IntKind.i64
 n) ∧
 at1 h_6
 (Array.size
 h_1)
 (2 : Nat)
 (Value.int
 IntKind.i64
 n_31) ∧
 at1 h_6
 (Array.size
 h_1)
 (3 : Nat)
 (Value.int
 IntKind.i64
 n_32) ∧
 at1 h_6
 (Array.size
 h_1)
 (4 :
 Nat)
 (Value.int
 IntKind.i64
 n_33) ∧
 at1 h_6
 (Array.size
 h_1)
 (5 :
 Nat)
 (Value.int
 IntKind.i64
 n_34) ∧
 at1 h_6
 (Array.size
 h_1)
 (6 :
 Nat)
 (Value.int
 IntKind.i64
 n_35) ∧
 at1
 h_6
 (Array.size
 h_1)
 (7 :
 Nat)
 (Value.int
 IntKind.i64
 n_36) ∧
 at1
 h_6
 (Array.size
 h_1)
 (8 :
 Nat)
 (Value.int
 IntKind.i64
 n_37) ∧
 at1
 h_6
 (Array.size
 h_1)
 (9 :
 Nat)
 (Value.int
 IntKind.i64
 n_38) ∧
 at1
 h_6
 (Array.size
 h_1)
 (10 :
 Nat)
 (Value.int
 IntKind.i64
 n_39) ∧
 at1
 h_6
 (Array.size
 h_1)
 (11 :
 Nat)
 (Value.int
 IntKind.i64
 n_40)) ∧
 CallsH Try.prog
 (10 : Nat)
 (TVs.vals
 [TV.agg
 [TV.slice s,
 TV.int
 IntKind.i64
 n,
 TV.int
 IntKind.i64
 n_31,
 TV.int
 IntKind.i64
 n_32,
 TV.int
 IntKind.i64
 n_33,
 TV.int
 IntKind.i64
 n_34,
 TV.int
 IntKind.i64
 n_35,
 TV.int
 IntKind.i64
 n_36,
 TV.int
 IntKind.i64
 n_37,
 TV.int
 IntKind.i64
 n_38,
 TV.int
 IntKind.i64
 n_39,
 TV.int
 IntKind.i64
 n_40]])
 h_6
 fun (v : Value)
 (h_7 :
 Array Obj) ↦
 ∃ (b : Bool),
 v =
 TV.val
 (TV.bool
 b) ∧
 If (!b)
 (R
 (TV.val
 (TV.bool
 true))
 h_7)
 (∃ (s : Sl),
 at1 h_7
 (Array.size
 h)
 (0 :
 Nat)
 (slVal
 s) ∧
 ∃ (s_1 :
 Sl),
 at1
 h_7
 (Array.size
 h_1)
 (0 :
 Nat)
 (slVal
 s_1) ∧
 If
 (!decide
 ((↑s.len :
 Int) =
 (↑s_1.len :
 Int)))
 (R
 (TV.val
 (TV.bool
 true))
 h_7)
 (∃
 (n
 :
 Int),
 at1
 h_7
 (Array.size
 h)
 (2 :
 Nat)
 (Value.int
 IntKind.i64
 n) ∧
 ∃
 (n_41
 :
 Int),
 at1
 h_7
 (Array.size
 h_1)
 (2 :
 Nat)
 (Value.int
 IntKind.i64
 n_41) ∧
 If
 (!decide
 (n =
 n_41))
 (R
 (TV.val
 (TV.bool
 true))
 h_7)
 (∃
 (s
 :
 Sl),
 ∃
 (n
 :
 Int),
 ∃
 (n_42
 :
 Int),
 ∃
 (n_43
 :
 Int),
 ∃
 (n_44
 :
 Int),
 ∃
 (n_45
 :
 Int),
 ∃
 (n_46
 :
 Int),
 ∃
 (n_47
 :
 Int),
 ∃
 (n_48
 :
 Int),
 ∃
 (n_49
 :
 Int),
 ∃
 (n_50
 :
 Int),
 ∃
 (n_51
 :
 Int),
 (at1
 h_7
 (Array.size
 h)
 (0 :
 Nat)
 (slVal
 s) ∧
 at1
 h_7
 (Array.size
 h)
 (1 :
 Nat)
 (Value.int
 IntKind.i64
 n) ∧
 at1
 h_7
 (Array.size
 h)
 (2 :
 Nat)
 (Value.int
 IntKind.i64
 n_42) ∧
 at1
 h_7
 (Array.size
 h)
 (3 :
 Nat)
 (Value.int
 IntKind.i64
 n_43) ∧
 at1
 h_7
 (Array.size
 h)
 (4 :
 Nat)
 (Value.int
 IntKind.i64
 n_44) ∧
 at1
 h_7
 (Array.size
 h)
 (5 :
 Nat)
 (Value.int
 IntKind.i64
 n_45) ∧
 at1
 h_7
 (Array.size
 h)
 (6 :
 Nat)
 (Value.int
 IntKind.i64
 n_46) ∧
 at1
 h_7
 (Array.size
 h)
 (7 :
 Nat)
 (Value.int
 IntKind.i64
 n_47) ∧
 at1
 h_7
 (Array.size
 h)
 (8 :
 Nat)
 (Value.int
 IntKind.i64
 n_48) ∧
 at1
 h_7
 (Array.size
 h)
 (9 :
 Nat)
 (Value.int
 IntKind.i64
 n_49) ∧
 at1
 h_7
 (Array.size
 h)
 (10 :
 Nat)
 (Value.int
 IntKind.i64
 n_50) ∧
 at1
 h_7
 (Array.size
 h)
 (11 :
 Nat)
 (Value.int
 IntKind.i64
 n_51)) ∧
 ∃
 (s_2
 :
 Sl),
 ∃
 (n_52
 :
 Int),
 ∃
 (n_53
 :
 Int),
 ∃
 (n_54
 :
 Int),
 ∃
 (n_55
 :
 Int),
 ∃
 (n_56
 :
 Int),
 ∃
 (n_57
 :
 Int),
 ∃
 (n_58
 :
 Int),
 ∃
 (n_59
 :
 Int),
 ∃
 (n_60
 :
 Int),
 ∃
 (n_61
 :
 Int),
 ∃
 (n_62
 :
 Int),
 (at1
 h_7
 (Array.size
 h_1)
 (0 :
 Nat)
 (slVal
 s_2) ∧
 at1
 h_7
 (Array.size
 h_1)
 (1 :
 Nat)
 (Value.int
 IntKind.i64
 n_52) ∧
 at1
 h_7
 (Array.size
 h_1)
 (2 :
 Nat)
 (Value.int
 IntKind.i64
 n_53) ∧
 at1
 h_7
 (Array.size
 h_1)
 (3 :
 Nat)
 (Value.int
 IntKind.i64
 n_54) ∧
 at1
 h_7
 (Array.size
 h_1)
 (4 :
 Nat)
 (Value.int
 IntKind.i64
 n_55) ∧
 at1
 h_7
 (Array.size
 h_1)
 (5 :
 Nat)
 (Value.int
 IntKind.i64
 n_56) ∧
 at1
 h_7
 (Array.size
 h_1)
 (6 :
 Nat)
 (Value.int
 IntKind.i64
 n_57) ∧
 at1
 h_7
 (Array.size
 h_1)
 (7 :
 Nat)
 (Value.int
 IntKind.i64
 n_58) ∧
 at1
 h_7
 (Array.size
 h_1)
 (8 :
 Nat)
 (Value.int
 IntKind.i64
 n_59) ∧
 at1
 h_7
 (Array.size
 h_1)
 (9 :
 Nat)
 (Value.int
 IntKind.i64
 n_60) ∧
 at1
 h_7
 (Array.size
 h_1)
 (10 :
 Nat)
 (Value.int
 IntKind.i64
 n_61) ∧
 at1
 h_7
 (Array.size
 h_1)
 (11 :
 Nat)
 (Value.int
 IntKind.i64
 n_62)) ∧
 CallsH
 Try.prog
 (11 :
 Nat)
 (TVs.vals
 [TV.agg
 [TV.slice
 s,
 TV.int
 IntKind.i64
 n,
 TV.int
 IntKind.i64
 n_42,
 TV.int
 IntKind.i64
 n_43,
 TV.int
 IntKind.i64
 n_44,
 TV.int
 IntKind.i64
 n_45,
 TV.int
 IntKind.i64
 n_46,
 TV.int
 IntKind.i64
 n_47,
 TV.int
 IntKind.i64
 n_48,
 TV.int
 IntKind.i64
 n_49,
 TV.int
 IntKind.i64
 n_50,
 TV.int
 IntKind.i64
 n_51],
 TV.int
 IntKind.i64
 slot])
 h_7
 fun
 (v :
 Value)
 (h :
 Array
 Obj) ↦
 ∃
 (s
 :
 Sl),
 v =
 TV.val
 (TV.slice
 s) ∧
 Ext
 h_7
 h ∧
 CallsH
 Try.prog
 (11 :
 Nat)
 (TVs.vals
 [TV.agg
 [TV.slice
 s_2,
 TV.int
 IntKind.i64
 n_52,
 TV.int
 IntKind.i64
 n_53,
 TV.int
 IntKind.i64
 n_54,
 TV.int
 IntKind.i64
 n_55,
 TV.int
 IntKind.i64
 n_56,
 TV.int
 IntKind.i64
 n_57,
 TV.int
 IntKind.i64
 n_58,
 TV.int
 IntKind.i64
 n_59,
 TV.int
 IntKind.i64
 n_60,
 TV.int
 IntKind.i64
 n_61,
 TV.int
 IntKind.i64
 n_62],
 TV.int
 IntKind.i64
 slot])
 h
 fun
 (v :
 Value)
 (h :
 Array
 Obj) ↦
 ∃
 (s_3
 :
 Sl),
 v =
 TV.val
 (TV.slice
 s_3) ∧
 CallsH
 Try.prog
 (12 :
 Nat)
 (TVs.vals
 [TV.slice
 s,
 TV.slice
 s_3])
 h
 fun
 (v :
 Value)
 (h :
 Array
 Obj) ↦
 ∃
 (b
 :
 Bool),
 v =
 TV.val
 (TV.bool
 b) ∧
 R
 (TV.val
 (TV.bool
 b))
 h)))))))

theorem tollerlaw06_BoardStakes_calls (a_Validators : Sl) (a_Epoch : Int) (a_Committee : Int) (a_Nodes : Int) (a_Orphans : Int) (a_Early : Int) (a_Quota : Int) (a_Peers : Int) (a_Bytes : Int) (a_Window : Int) (a_Ban : Int) (a_Decay : Int) (b_Validators : Sl) (b_Epoch : Int) (b_Committee : Int) (b_Nodes : Int) (b_Orphans : Int) (b_Early : Int) (b_Quota : Int) (b_Peers : Int) (b_Bytes : Int) (b_Window : Int) (b_Ban : Int) (b_Decay : Int) (slot : Int) (h : Heap) (R : Value → Heap → Prop) (H : tollerlaw06_BoardStakes_vc a_Validators a_Epoch a_Committee a_Nodes a_Orphans a_Early a_Quota a_Peers a_Bytes a_Window a_Ban a_Decay b_Validators b_Epoch b_Committee b_Nodes b_Orphans b_Early b_Quota b_Peers b_Bytes b_Window b_Ban b_Decay slot h R) : CallsH Try.prog 4 (TVs.vals [TV.agg [TV.slice a_Validators, TV.int IntKind.i64 a_Epoch, TV.int IntKind.i64 a_Committee, TV.int IntKind.i64 a_Nodes, TV.int IntKind.i64 a_Orphans, TV.int IntKind.i64 a_Early, TV.int IntKind.i64 a_Quota, TV.int IntKind.i64 a_Peers, TV.int IntKind.i64 a_Bytes, TV.int IntKind.i64 a_Window, TV.int IntKind.i64 a_Ban, TV.int IntKind.i64 a_Decay], TV.agg [TV.slice b_Validators, TV.int IntKind.i64 b_Epoch, TV.int IntKind.i64 b_Committee, TV.int IntKind.i64 b_Nodes, TV.int IntKind.i64 b_Orphans, TV.int IntKind.i64 b_Early, TV.int IntKind.i64 b_Quota, TV.int IntKind.i64 b_Peers, TV.int IntKind.i64 b_Bytes, TV.int IntKind.i64 b_Window, TV.int IntKind.i64 b_Ban, TV.int IntKind.i64 b_Decay], TV.int IntKind.i64 slot]) h R :=
 vcFn_sound (C := ctx) ctx_ok (fn := Try.f4) Try.func4 ((by kernel_rfl : tollerlaw06_BoardStakes_vc a_Validators a_Epoch a_Committee a_Nodes a_Orphans a_Early a_Quota a_Peers a_Bytes a_Window a_Ban a_Decay b_Validators b_Epoch b_Committee b_Nodes b_Orphans b_Early b_Quota b_Peers b_Bytes b_Window b_Ban b_Decay slot h R = vcFn ctx Try.f4 [TV.agg [TV.slice a_Validators, TV.int IntKind.i64 a_Epoch, TV.int IntKind.i64 a_Committee, TV.int IntKind.i64 a_Nodes, TV.int IntKind.i64 a_Orphans, TV.int IntKind.i64 a_Early, TV.int IntKind.i64 a_Quota, TV.int IntKind.i64 a_Peers, TV.int IntKind.i64 a_Bytes, TV.int IntKind.i64 a_Window, TV.int IntKind.i64 a_Ban, TV.int IntKind.i64 a_Decay], TV.agg [TV.slice b_Validators, TV.int IntKind.i64 b_Epoch, TV.int IntKind.i64 b_Committee, TV.int IntKind.i64 b_Nodes, TV.int IntKind.i64 b_Orphans, TV.int IntKind.i64 b_Early, TV.int IntKind.i64 b_Quota, TV.int IntKind.i64 b_Peers, TV.int IntKind.i64 b_Bytes, TV.int IntKind.i64 b_Window, TV.int IntKind.i64 b_Ban, TV.int IntKind.i64 b_Decay], TV.int IntKind.i64 slot] h R) ▸ H)


def tollerlaw06_BoardOnce_vc (c_Validators : Sl) (c_Epoch : Int) (c_Committee : Int) (c_Nodes : Int) (c_Orphans : Int) (c_Early : Int) (c_Quota : Int) (c_Peers : Int) (c_Bytes : Int) (c_Window : Int) (c_Ban : Int) (c_Decay : Int) (slot : Int) (h : Heap) (R : Value → Heap → Prop) : Prop :=
 Vc.Bind
 (newTV h
 (TV.agg
 [TV.slice c_Validators, TV.int IntKind.i64 c_Epoch, TV.int IntKind.i64 c_Committee, TV.int IntKind.i64 c_Nodes, TV.int IntKind.i64 c_Orphans,
 TV.int IntKind.i64 c_Early, TV.int IntKind.i64 c_Quota, TV.int IntKind.i64 c_Peers, TV.int IntKind.i64 c_Bytes, TV.int IntKind.i64 c_Window,
 TV.int IntKind.i64 c_Ban, TV.int IntKind.i64 c_Decay])
 (24 : Nat))
 fun (h_1 : Array Obj) ↦
 CallsH Try.prog (8 : Nat) (TVs.vals []) h_1 fun (v : Value) (h_2 : Array Obj) ↦
 ∃ (b : Bool),
 v = TV.val (TV.bool b) ∧
 If (!b) (R (TV.val (TV.bool false)) h_2)
 (Join
 (fun (s : Bool) (h_3 : Array Obj) ↦
 ∃ (s_1 : Sl),
 ∃ (n : Int),
 ∃ (n_1 : Int),
 ∃ (n_2 : Int),
 ∃ (n_3 : Int),
 ∃ (n_4 : Int),
 ∃ (n_5 : Int),
 ∃ (n_6 : Int),
 ∃ (n_7 : Int),
 ∃ (n_8 : Int),
 ∃ (n_9 : Int),
 ∃ (n_10 : Int),
 (at1 h_3 (Array.size h) (0 : Nat) (slVal s_1) ∧
 at1 h_3 (Array.size h) (1 : Nat) (Value.int IntKind.i64 n) ∧
 at1 h_3 (Array.size h) (2 : Nat) (Value.int IntKind.i64 n_1) ∧
 at1 h_3 (Array.size h) (3 : Nat) (Value.int IntKind.i64 n_2) ∧
 at1 h_3 (Array.size h) (4 : Nat) (Value.int IntKind.i64 n_3) ∧
 at1 h_3 (Array.size h) (5 : Nat) (Value.int IntKind.i64 n_4) ∧
 at1 h_3 (Array.size h) (6 : Nat) (Value.int IntKind.i64 n_5) ∧
 at1 h_3 (Array.size h) (7 : Nat) (Value.int IntKind.i64 n_6) ∧
 at1 h_3 (Array.size h) (8 : Nat) (Value.int IntKind.i64 n_7) ∧
 at1 h_3 (Array.size h) (9 : Nat) (Value.int IntKind.i64 n_8) ∧
 at1 h_3 (Array.size h) (10 : Nat) (Value.int IntKind.i64 n_9) ∧
 at1 h_3 (Array.size h) (11 : Nat) (Value.int IntKind.i64 n_10)) ∧
 CallsH Try.prog (11 : Nat)
 (TVs.vals
 [TV.agg
 [TV.slice s_1, TV.int IntKind.i64 n, TV.int IntKind.i64 n_1, TV.int IntKind.i64 n_2, TV.int IntKind.i64 n_3,
 TV.int IntKind.i64 n_4, TV.int IntKind.i64 n_5, TV.int IntKind.i64 n_6, TV.int IntKind.i64 n_7,
 TV.int IntKind.i64 n_8, TV.int IntKind.i64 n_9, TV.int IntKind.i64 n_10],
 TV.int IntKind.i64 slot])
 h_3 fun (v : Value) (h_4 : Array Obj) ↦
 ∃ (s_2 : Sl),
 v = TV.val (TV.slice s_2) ∧
 ∃ (n : Int),
 at1 h_4 (Array.size h) (2 : Nat) (Value.int IntKind.i64 n) ∧
 If (!decide ((↑s_2.len : Int) = n)) (R (TV.val (TV.bool false)) h_4)
 (Go.Vc.Loop (s, (0 : Int)) h_4 fun (s_3 : Bool × Int) (h_5 : Array Obj) (K : Bool × Int → Array Obj → Prop) ↦
 If (decide (s_3.snd < (↑s_2.len : Int)))
 ((0 : Int) ≤ s_3.snd ∧
 s_3.snd < (↑s_2.len : Int) ∧
 Nn s_2.a fun (l : Go.Vc.Loc) ↦
 ∃ (n : Int),
 at1 h_5 l.b (l.o + Int.toNat s_3.snd * (1 : Nat)) (Value.int IntKind.i64 n) ∧
 If (decide (n < (0 : Int))) (R (TV.val (TV.bool false)) h_5)
 (∃ (s_4 : Sl),
 at1 h_5 (Array.size h) (0 : Nat) (slVal s_4) ∧
 If (decide ((↑s_4.len : Int) ≤ n)) (R (TV.val (TV.bool false)) h_5)
 (∃ (s_5 : Sl),
 ∃ (n_11 : Int),
 ∃ (n_12 : Int),
 ∃ (n_13 : Int),
 ∃ (n_14 : Int),
 ∃ (n_15 : Int),
 ∃ (n_16 : Int),
 ∃ (n_17 : Int),
 ∃ (n_18 : Int),
 ∃ (n_19 : Int),
 ∃ (n_20 : Int),
 ∃ (n_21 : Int),
 (at1 h_5 (Array.size h) (0 : Nat) (slVal s_5) ∧
 at1 h_5 (Array.size h) (1 : Nat)
 (Value.int IntKind.i64 n_11) ∧
 at1 h_5 (Array.size h) (2 : Nat)
 (Value.int IntKind.i64 n_12) ∧
 at1 h_5 (Array.size h) (3 : Nat)
 (Value.int IntKind.i64 n_13) ∧
 at1 h_5 (Array.size h) (4 : Nat)
 (Value.int IntKind.i64 n_14) ∧
 at1 h_5 (Array.size h) (5 : Nat)
 (Value.int IntKind.i64 n_15) ∧
 at1 h_5 (Array.size h) (6 : Nat)
 (Value.int IntKind.i64 n_16) ∧
 at1 h_5 (Array.size h) (7 : Nat)
 (Value.int IntKind.i64 n_17) ∧
 at1 h_5 (Array.size h) (8 : Nat)
 (Value.int IntKind.i64 n_18) ∧
 at1 h_5 (Array.size h) (9 : Nat)
 (Value.int IntKind.i64 n_19) ∧
 at1 h_5 (Array.size h) (10 : Nat)
 (Value.int IntKind.i64 n_20) ∧
 at1 h_5 (Array.size h) (11 : Nat)
 (Value.int IntKind.i64 n_21)) ∧
 CallsH Try.prog (14 : Nat)
 (TVs.vals
 [TV.agg
 [TV.slice s_5, TV.int IntKind.i64 n_11,
 TV.int IntKind.i64 n_12, TV.int IntKind.i64 n_13,
 TV.int IntKind.i64 n_14, TV.int IntKind.i64 n_15,
 TV.int IntKind.i64 n_16, TV.int IntKind.i64 n_17,
 TV.int IntKind.i64 n_18, TV.int IntKind.i64 n_19,
 TV.int IntKind.i64 n_20, TV.int IntKind.i64 n_21],
 TV.int IntKind.i64 slot, TV.int IntKind.i64 n])
 h_5 fun (v : Value) (h : Array Obj) ↦
 ∃ (n : Int),
 v = TV.val (TV.int IntKind.i64 n) ∧
 If (!decide (n = s_3.snd))
 (R (TV.val (TV.bool false)) h)
 (K
 (s_3.fst,
 IntKind.wrap IntKind.i64 (s_3.snd + (1 : Int)))
 h))))
 ((0 : Int) ≤ (↑s_2.len : Int) ∧
 (↑s_2.len : Int) ≤ (↑s_2.len : Int) ∧
 (↑(1 : Nat) : Int) * (↑s_2.len : Int) ≤ (281474976710656 : Int) ∧
 (↑s_2.len : Int) < (9223372036854775808 : Int) ∧
 Go.Vc.Loop (0 : Int)
 (Array.push h_5 (row (zeros (TV.bool false) (Int.toNat (↑s_2.len : Int))) (4 : Nat)))
 fun (s : Int) (h_6 : Array Obj) (K : Int → Array Obj → Prop) ↦
 If (decide (s < (↑(Int.toNat (↑s_2.len : Int)) : Int)))
 ((0 : Int) ≤ s ∧
 s < (↑(Int.toNat (↑s_2.len : Int)) : Int) ∧
 wok h_6 (Array.size h_5) ((0 : Nat) + Int.toNat s * (1 : Nat)) (1 : Nat) ∧
 Vc.Bind
 (TV.put h_6 (Array.size h_5) ((0 : Nat) + Int.toNat s * (1 : Nat)) (TV.bool true))
 fun (h : Array Obj) ↦ K (IntKind.wrap IntKind.i64 (s + (1 : Int))) h)
 (∃ (s : Sl),
 ∃ (n : Int),
 ∃ (n_11 : Int),
 ∃ (n_12 : Int),
 ∃ (n_13 : Int),
 ∃ (n_14 : Int),
 ∃ (n_15 : Int),
 ∃ (n_16 : Int),
 ∃ (n_17 : Int),
 ∃ (n_18 : Int),
 ∃ (n_19 : Int),
 ∃ (n_20 : Int),
 (at1 h_6 (Array.size h) (0 : Nat) (slVal s) ∧
 at1 h_6 (Array.size h) (1 : Nat) (Value.int IntKind.i64 n) ∧
 at1 h_6 (Array.size h) (2 : Nat)
 (Value.int IntKind.i64 n_11) ∧
 at1 h_6 (Array.size h) (3 : Nat)
 (Value.int IntKind.i64 n_12) ∧
 at1 h_6 (Array.size h) (4 : Nat)
 (Value.int IntKind.i64 n_13) ∧
 at1 h_6 (Array.size h) (5 : Nat)
 (Value.int IntKind.i64 n_14) ∧
 at1 h_6 (Array.size h) (6 : Nat)
 (Value.int IntKind.i64 n_15) ∧
 at1 h_6 (Array.size h) (7 : Nat)
 (Value.int IntKind.i64 n_16) ∧
 at1 h_6 (Array.size h) (8 : Nat)
 (Value.int IntKind.i64 n_17) ∧
 at1 h_6 (Array.size h) (9 : Nat)
 (Value.int IntKind.i64 n_18) ∧
 at1 h_6 (Array.size h) (10 : Nat)
 (Value.int IntKind.i64 n_19) ∧
 at1 h_6 (Array.size h) (11 : Nat)
 (Value.int IntKind.i64 n_20)) ∧
 CallsH Try.prog (15 : Nat)
 (TVs.vals
 [TV.agg
 [TV.slice s, TV.int IntKind.i64 n,
 TV.int IntKind.i64 n_11, TV.int IntKind.i64 n_12,
 TV.int IntKind.i64 n_13, TV.int IntKind.i64 n_14,
 TV.int IntKind.i64 n_15, TV.int IntKind.i64 n_16,
 TV.int IntKind.i64 n_17, TV.int IntKind.i64 n_18,
 TV.int IntKind.i64 n_19, TV.int IntKind.i64 n_20],
 TV.int IntKind.i64 slot,
 TV.slice
 (Sl.mk (some (Loc.mk (Array.size h_5) (0 : Nat)))
 (Int.toNat (↑s_2.len : Int))
 (Int.toNat (↑s_2.len : Int)))])
 h_6 fun (v : Value) (h : Array Obj) ↦
 ∃ (s : Sl),
 ∃ (b : Bool),
 v = TV.val (TV.tup [TV.slice s, TV.bool b]) ∧
 If b
 (CallsH Try.prog (12 : Nat)
 (TVs.vals [TV.slice s, TV.slice s_2]) h
 fun (v : Value) (h : Array Obj) ↦
 ∃ (b : Bool),
 v = TV.val (TV.bool b) ∧ R (TV.val (TV.bool b)) h)
 (R (TV.val (TV.bool false)) h)))))
 fun (J : Bool → Array Obj → Prop) ↦
 ∃ (s : Sl),
 ∃ (n : Int),
 ∃ (n_1 : Int),
 ∃ (n_2 : Int),
 ∃ (n_3 : Int),
 ∃ (n_4 : Int),
 ∃ (n_5 : Int),
 ∃ (n_6 : Int),
 ∃ (n_7 : Int),
 ∃ (n_8 : Int),
 ∃ (n_9 : Int),
 ∃ (n_10 : Int),
 (at1 h_2 (Array.size h) (0 : Nat) (slVal s) ∧
 at1 h_2 (Array.size h) (1 : Nat) (Value.int IntKind.i64 n) ∧
 at1 h_2 (Array.size h) (2 : Nat) (Value.int IntKind.i64 n_1) ∧
 at1 h_2 (Array.size h) (3 : Nat) (Value.int IntKind.i64 n_2) ∧
 at1 h_2 (Array.size h) (4 : Nat) (Value.int IntKind.i64 n_3) ∧
 at1 h_2 (Array.size h) (5 : Nat) (Value.int IntKind.i64 n_4) ∧
 at1 h_2 (Array.size h) (6 : Nat) (Value.int IntKind.i64 n_5) ∧
 at1 h_2 (Array.size h) (7 : Nat) (Value.int IntKind.i64 n_6) ∧
 at1 h_2 (Array.size h) (8 : Nat) (Value.int IntKind.i64 n_7) ∧
 at1 h_2 (Array.size h) (9 : Nat) (Value.int IntKind.i64 n_8) ∧
 at1 h_2 (Array.size h) (10 : Nat) (Value.int IntKind.i64 n_9) ∧
 at1 h_2 (Array.size h) (11 : Nat) (Value.int IntKind.i64 n_10)) ∧
 CallsH Try.prog (9 : Nat)
 (TVs.vals
 [TV.agg
 [TV.slice s, TV.int IntKind.i64 n, TV.int IntKind.i64 n_1, TV.int IntKind.i64 n_2, TV.int IntKind.i64 n_3,
 TV.int IntKind.i64 n_4, TV.int IntKind.i64 n_5, TV.int IntKind.i64 n_6, TV.int IntKind.i64 n_7,
 TV.int IntKind.i64 n_8, TV.int IntKind.i64 n_9, TV.int IntKind.i64 n_10]])
 h_2 fun (v : Value) (h_3 : Array Obj) ↦
 ∃ (b : Bool),
 v = TV.val (TV.bool b) ∧
 If b (R (TV.val (TV.bool true)) h_3)
 (∃ (s : Sl),
 ∃ (n : Int),
 ∃ (n_11 : Int),
 ∃ (n_12 : Int),
 ∃ (n_13 : Int),
 ∃ (n_14 : Int),
 ∃ (n_15 : Int),
 ∃ (n_16 : Int),
 ∃ (n_17 : Int),
 ∃ (n_18 : Int),
 ∃ (n_19 : Int),
 ∃ (n_20 : Int),
 (at1 h_3 (Array.size h) (0 : Nat) (slVal s) ∧
 at1 h_3 (Array.size h) (1 : Nat) (Value.int IntKind.i64 n) ∧
 at1 h_3 (Array.size h) (2 : Nat) (Value.int IntKind.i64 n_11) ∧
 at1 h_3 (Array.size h) (3 : Nat) (Value.int IntKind.i64 n_12) ∧
 at1 h_3 (Array.size h) (4 : Nat) (Value.int IntKind.i64 n_13) ∧
 at1 h_3 (Array.size h) (5 : Nat) (Value.int IntKind.i64 n_14) ∧
 at1 h_3 (Array.size h) (6 : Nat) (Value.int IntKind.i64 n_15) ∧
 at1 h_3 (Array.size h) (7 : Nat) (Value.int IntKind.i64 n_16) ∧
 at1 h_3 (Array.size h) (8 : Nat) (Value.int IntKind.i64 n_17) ∧
 at1 h_3 (Array.size h) (9 : Nat) (Value.int IntKind.i64 n_18) ∧
 at1 h_3 (Array.size h) (10 : Nat) (Value.int IntKind.i64 n_19) ∧
 at1 h_3 (Array.size h) (11 : Nat) (Value.int IntKind.i64 n_20)) ∧
 CallsH Try.prog (10 : Nat)
 (TVs.vals
 [TV.agg
 [TV.slice s, TV.int IntKind.i64 n, TV.int IntKind.i64 n_11,
 TV.int IntKind.i64 n_12, TV.int IntKind.i64 n_13, TV.int IntKind.i64 n_14,
 TV.int IntKind.i64 n_15, TV.int IntKind.i64 n_16, TV.int IntKind.i64 n_17,
 TV.int IntKind.i64 n_18, TV.int IntKind.i64 n_19, TV.int IntKind.i64 n_20]])
 h_3 fun (v : Value) (h : Array Obj) ↦
 ∃ (b : Bool),
 v = TV.val (TV.bool b) ∧
 If (!b) (R (TV.val (TV.bool true)) h)
 (If (decide (slot < (0 : Int))) (R (TV.val (TV.bool true)) h)
 (If (decide ((1073741824 : Int) < slot)) (R (TV.val (TV.bool true)) h)
 (J false h)))))

theorem tollerlaw06_BoardOnce_calls (c_Validators : Sl) (c_Epoch : Int) (c_Committee : Int) (c_Nodes : Int) (c_Orphans : Int) (c_Early : Int) (c_Quota : Int) (c_Peers : Int) (c_Bytes : Int) (c_Window : Int) (c_Ban : Int) (c_Decay : Int) (slot : Int) (h : Heap) (R : Value → Heap → Prop) (H : tollerlaw06_BoardOnce_vc c_Validators c_Epoch c_Committee c_Nodes c_Orphans c_Early c_Quota c_Peers c_Bytes c_Window c_Ban c_Decay slot h R) : CallsH Try.prog 5 (TVs.vals [TV.agg [TV.slice c_Validators, TV.int IntKind.i64 c_Epoch, TV.int IntKind.i64 c_Committee, TV.int IntKind.i64 c_Nodes, TV.int IntKind.i64 c_Orphans, TV.int IntKind.i64 c_Early, TV.int IntKind.i64 c_Quota, TV.int IntKind.i64 c_Peers, TV.int IntKind.i64 c_Bytes, TV.int IntKind.i64 c_Window, TV.int IntKind.i64 c_Ban, TV.int IntKind.i64 c_Decay], TV.int IntKind.i64 slot]) h R :=
 vcFn_sound (C := ctx) ctx_ok (fn := Try.f5) Try.func5 ((by kernel_rfl : tollerlaw06_BoardOnce_vc c_Validators c_Epoch c_Committee c_Nodes c_Orphans c_Early c_Quota c_Peers c_Bytes c_Window c_Ban c_Decay slot h R = vcFn ctx Try.f5 [TV.agg [TV.slice c_Validators, TV.int IntKind.i64 c_Epoch, TV.int IntKind.i64 c_Committee, TV.int IntKind.i64 c_Nodes, TV.int IntKind.i64 c_Orphans, TV.int IntKind.i64 c_Early, TV.int IntKind.i64 c_Quota, TV.int IntKind.i64 c_Peers, TV.int IntKind.i64 c_Bytes, TV.int IntKind.i64 c_Window, TV.int IntKind.i64 c_Ban, TV.int IntKind.i64 c_Decay], TV.int IntKind.i64 slot] h R) ▸ H)


def tollerlaw06_BoardPicks_vc (c_Validators : Sl) (c_Epoch : Int) (c_Committee : Int) (c_Nodes : Int) (c_Orphans : Int) (c_Early : Int) (c_Quota : Int) (c_Peers : Int) (c_Bytes : Int) (c_Window : Int) (c_Ban : Int) (c_Decay : Int) (slot : Int) (row : Sl) (h : Heap) (R : Value → Heap → Prop) : Prop :=
 Vc.Bind
 (newTV h
 (TV.agg
 [TV.slice c_Validators, TV.int IntKind.i64 c_Epoch, TV.int IntKind.i64 c_Committee, TV.int IntKind.i64 c_Nodes, TV.int IntKind.i64 c_Orphans,
 TV.int IntKind.i64 c_Early, TV.int IntKind.i64 c_Quota, TV.int IntKind.i64 c_Peers, TV.int IntKind.i64 c_Bytes, TV.int IntKind.i64 c_Window,
 TV.int IntKind.i64 c_Ban, TV.int IntKind.i64 c_Decay])
 (24 : Nat))
 fun (h_1 : Array Obj) ↦
 CallsH Try.prog (8 : Nat) (TVs.vals []) h_1 fun (v : Value) (h_2 : Array Obj) ↦
 ∃ (b : Bool),
 v = TV.val (TV.bool b) ∧
 If (!b) (R (TV.val (TV.bool false)) h_2)
 (Join
 (fun (s : Bool) (h_3 : Array Obj) ↦
 (0 : Int) ≤ (↑row.len : Int) ∧
 (↑row.len : Int) ≤ (↑row.len : Int) ∧
 (↑(1 : Nat) : Int) * (↑row.len : Int) ≤ (281474976710656 : Int) ∧
 (↑row.len : Int) < (9223372036854775808 : Int) ∧
 Go.Vc.Loop (0 : Int) (Array.push h_3 (Vc.row (zeros (TV.bool false) (Int.toNat (↑row.len : Int))) (4 : Nat)))
 fun (s_1 : Int) (h_4 : Array Obj) (K : Int → Array Obj → Prop) ↦
 If (decide (s_1 < (↑row.len : Int)))
 ((0 : Int) ≤ s_1 ∧
 s_1 < (↑row.len : Int) ∧
 Nn row.a fun (l : Go.Vc.Loc) ↦
 ∃ (b : Bool),
 at1 h_4 l.b (l.o + Int.toNat s_1 * (1 : Nat)) (Value.bool b) ∧
 (0 : Int) ≤ s_1 ∧
 s_1 < (↑(Int.toNat (↑row.len : Int)) : Int) ∧
 wok h_4 (Array.size h_3) ((0 : Nat) + Int.toNat s_1 * (1 : Nat)) (1 : Nat) ∧
 Vc.Bind (TV.put h_4 (Array.size h_3) ((0 : Nat) + Int.toNat s_1 * (1 : Nat)) (TV.bool !b)) fun (h : Array Obj) ↦
 K (IntKind.wrap IntKind.i64 (s_1 + (1 : Int))) h)
 (∃ (s_2 : Sl),
 ∃ (n : Int),
 ∃ (n_1 : Int),
 ∃ (n_2 : Int),
 ∃ (n_3 : Int),
 ∃ (n_4 : Int),
 ∃ (n_5 : Int),
 ∃ (n_6 : Int),
 ∃ (n_7 : Int),
 ∃ (n_8 : Int),
 ∃ (n_9 : Int),
 ∃ (n_10 : Int),
 (at1 h_4 (Array.size h) (0 : Nat) (slVal s_2) ∧
 at1 h_4 (Array.size h) (1 : Nat) (Value.int IntKind.i64 n) ∧
 at1 h_4 (Array.size h) (2 : Nat) (Value.int IntKind.i64 n_1) ∧
 at1 h_4 (Array.size h) (3 : Nat) (Value.int IntKind.i64 n_2) ∧
 at1 h_4 (Array.size h) (4 : Nat) (Value.int IntKind.i64 n_3) ∧
 at1 h_4 (Array.size h) (5 : Nat) (Value.int IntKind.i64 n_4) ∧
 at1 h_4 (Array.size h) (6 : Nat) (Value.int IntKind.i64 n_5) ∧
 at1 h_4 (Array.size h) (7 : Nat) (Value.int IntKind.i64 n_6) ∧
 at1 h_4 (Array.size h) (8 : Nat) (Value.int IntKind.i64 n_7) ∧
 at1 h_4 (Array.size h) (9 : Nat) (Value.int IntKind.i64 n_8) ∧
 at1 h_4 (Array.size h) (10 : Nat) (Value.int IntKind.i64 n_9) ∧
 at1 h_4 (Array.size h) (11 : Nat) (Value.int IntKind.i64 n_10)) ∧
 CallsH Try.prog (15 : Nat)
 (TVs.vals
 [TV.agg
 [TV.slice s_2, TV.int IntKind.i64 n, TV.int IntKind.i64 n_1, TV.int IntKind.i64 n_2,
 TV.int IntKind.i64 n_3, TV.int IntKind.i64 n_4, TV.int IntKind.i64 n_5, TV.int IntKind.i64 n_6,
 TV.int IntKind.i64 n_7, TV.int IntKind.i64 n_8, TV.int IntKind.i64 n_9, TV.int IntKind.i64 n_10],
 TV.int IntKind.i64 slot, TV.slice row])
 h_4 fun (v : Value) (h_5 : Array Obj) ↦
 ∃ (s_3 : Sl),
 ∃ (b : Bool),
 v = TV.val (TV.tup [TV.slice s_3, TV.bool b]) ∧
 ∃ (s_4 : Sl),
 ∃ (n : Int),
 ∃ (n_11 : Int),
 ∃ (n_12 : Int),
 ∃ (n_13 : Int),
 ∃ (n_14 : Int),
 ∃ (n_15 : Int),
 ∃ (n_16 : Int),
 ∃ (n_17 : Int),
 ∃ (n_18 : Int),
 ∃ (n_19 : Int),
 ∃ (n_20 : Int),
 (at1 h_5 (Array.size h) (0 : Nat) (slVal s_4) ∧
 at1 h_5 (Array.size h) (1 : Nat) (Value.int IntKind.i64 n) ∧
 at1 h_5 (Array.size h) (2 : Nat) (Value.int IntKind.i64 n_11) ∧
 at1 h_5 (Array.size h) (3 : Nat) (Value.int IntKind.i64 n_12) ∧
 at1 h_5 (Array.size h) (4 : Nat) (Value.int IntKind.i64 n_13) ∧
 at1 h_5 (Array.size h) (5 : Nat) (Value.int IntKind.i64 n_14) ∧
 at1 h_5 (Array.size h) (6 : Nat)
 (Value.int IntKind.i64 n_15) ∧
 at1 h_5 (Array.size h) (7 : Nat)
 (Value.int IntKind.i64 n_16) ∧
 at1 h_5 (Array.size h) (8 : Nat)
 (Value.int IntKind.i64 n_17) ∧
 at1 h_5 (Array.size h) (9 : Nat)
 (Value.int IntKind.i64 n_18) ∧
 at1 h_5 (Array.size h) (10 : Nat)
 (Value.int IntKind.i64 n_19) ∧
 at1 h_5 (Array.size h) (11 : Nat)
 (Value.int IntKind.i64 n_20)) ∧
 CallsH Try.prog (15 : Nat)
 (TVs.vals
 [TV.agg
 [TV.slice s_4, TV.int IntKind.i64 n, TV.int IntKind.i64 n_11,
 TV.int IntKind.i64 n_12, TV.int IntKind.i64 n_13,
 TV.int IntKind.i64 n_14, TV.int IntKind.i64 n_15,
 TV.int IntKind.i64 n_16, TV.int IntKind.i64 n_17,
 TV.int IntKind.i64 n_18, TV.int IntKind.i64 n_19,
 TV.int IntKind.i64 n_20],
 TV.int IntKind.i64 slot,
 TV.slice
 (Sl.mk (some (Loc.mk (Array.size h_3) (0 : Nat)))
 (Int.toNat (↑row.len : Int)) (Int.toNat (↑row.len : Int)))])
 h_5 fun (v : Value) (h_6 : Array Obj) ↦
 ∃ (s_5 : Sl),
 ∃ (b_1 : Bool),
 v = TV.val (TV.tup [TV.slice s_5, TV.bool b_1]) ∧
 ∃ (s_6 : Sl),
 ∃ (n : Int),
 ∃ (n_21 : Int),
 ∃ (n_22 : Int),
 ∃ (n_23 : Int),
 ∃ (n_24 : Int),
 ∃ (n_25 : Int),
 ∃ (n_26 : Int),
 ∃ (n_27 : Int),
 ∃ (n_28 : Int),
 ∃ (n_29 : Int),
 ∃ (n_30 : Int),
 (at1 h_6 (Array.size h) (0 : Nat)
 (slVal s_6) ∧
 at1 h_6 (Array.size h) (1 : Nat)
 (Value.int IntKind.i64 n) ∧
 at1 h_6 (Array.size h) (2 : Nat)
 (Value.int IntKind.i64 n_21) ∧
 at1 h_6 (Array.size h) (3 : Nat)
 (Value.int IntKind.i64 n_22) ∧
 at1 h_6 (Array.size h) (4 : Nat)
 (Value.int IntKind.i64
 n_23) ∧
 at1 h_6 (Array.size h)
 (5 : Nat)
 (Value.int IntKind.i64
 n_24) ∧
 at1 h_6 (Array.size h)
 (6 : Nat)
 (Value.int IntKind.i64
 n_25) ∧
 at1 h_6 (Array.size h)
 (7 : Nat)
 (Value.int IntKind.i64
 n_26) ∧
 at1 h_6 (Array.size h)
 (8 : Nat)
 (Value.int
 IntKind.i64
 n_27) ∧
 at1 h_6 (Array.size h)
 (9 : Nat)
 (Value.int
 IntKind.i64
 n_28) ∧
 at1 h_6
 (Array.size h)
 (10 : Nat)
 (Value.int
 IntKind.i64
 n_29) ∧
 at1 h_6
 (Array.size h)
 (11 : Nat)
 (Value.int
 IntKind.i64
 n_30)) ∧
 (0 : Int) ≤ (↑row.len : Int) ∧
 (↑row.len : Int) ≤ (↑row.len : Int) ∧
 (↑(1 : Nat) : Int) *
 (↑row.len : Int) ≤
 (281474976710656 : Int) ∧
 (↑row.len : Int) <
 (9223372036854775808 : Int) ∧
 Ext h_6
 (Array.push h_6
 (Vc.row
 (zeros (TV.bool false)
 (Int.toNat
 (↑row.len : Int)))
 (4 : Nat))) ∧
 CallsH Try.prog (15 : Nat)
 (TVs.vals
 [TV.agg
 [TV.slice s_6,
 TV.int IntKind.i64
 n,
 TV.int IntKind.i64
 n_21,
 TV.int IntKind.i64
 n_22,
 TV.int IntKind.i64
 n_23,
 TV.int IntKind.i64
 n_24,
 TV.int IntKind.i64
 n_25,
 TV.int IntKind.i64
 n_26,
 TV.int IntKind.i64
 n_27,
 TV.int IntKind.i64
 n_28,
 TV.int IntKind.i64
 n_29,
 TV.int IntKind.i64
 n_30],
 TV.int IntKind.i64 slot,
 TV.slice
 (Sl.mk
 (some
 (Loc.mk
 (Array.size h_6)
 (0 : Nat)))
 (Int.toNat
 (↑row.len : Int))
 (Int.toNat
 (↑row.len :
 Int)))])
 (Array.push h_6
 (Vc.row
 (zeros (TV.bool false)
 (Int.toNat
 (↑row.len : Int)))
 (4 : Nat)))
 fun (v : Value)
 (h_7 : Array Obj) ↦
 ∃ (s_7 : Sl),
 ∃ (b_2 : Bool),
 v =
 TV.val
 (TV.tup
 [TV.slice s_7,
 TV.bool
 b_2]) ∧
 Join
 (fun (s : Bool)
 (h_8 :
 Array Obj) ↦
 If (!b)
 (If
 (decide
 ((↑s_3.len :
 Int) =
 (0 :
 Int)))
 (If
 (decide
 ((↑s_5.len :
 Int) =
 (0 :
 Int)))
 (R
 (TV.val
 (TV.bool
 true))
 h_8)
 (If b
 (∃ (n :
 Int),
 at1 h_8
 (Array.size
 h)
 (2 :
 Nat)
 (Value.int
 IntKind.i64
 n) ∧
 R
 (TV.val
 (TV.bool
 (decide
 (IntKind.wrap
 IntKind.i64
 ((↑s_3.len :
 Int) +
 (↑s_5.len :
 Int)) =
 n))))
 h_8)
 (R
 (TV.val
 (TV.bool
 false))
 h_8)))
 (If b
 (∃ (n :
 Int),
 at1 h_8
 (Array.size
 h)
 (2 :
 Nat)
 (Value.int
 IntKind.i64
 n) ∧
 R
 (TV.val
 (TV.bool
 (decide
 (IntKind.wrap
 IntKind.i64
 ((↑s_3.len :
 Int) +
 (↑s_5.len :
 Int)) =
 n))))
 h_8)
 (R
 (TV.val
 (TV.bool
 false))
 h_8)))
 (If b
 (∃ (n : Int),
 at1 h_8
 (Array.size
 h)
 (2 :
 Nat)
 (Value.int
 IntKind.i64
 n) ∧
 R
 (TV.val
 (TV.bool
 (decide
 (IntKind.wrap
 IntKind.i64
 ((↑s_3.len :
 Int) +
 (↑s_5.len :
 Int)) =
 n))))
 h_8)
 (R
 (TV.val
 (TV.bool
 false))
 h_8)))
 fun
 (J :
 Bool →
 Array Obj →
 Prop) ↦
 ∃ (n : Int),
 at1 h_7
 (Array.size h)
 (2 : Nat)
 (Value.int
 IntKind.i64
 n) ∧
 If
 (!b ==
 decide
 ((↑row.len :
 Int) =
 n))
 (R
 (TV.val
 (TV.bool
 false))
 h_7)
 (If
 (!b_1 == b)
 (R
 (TV.val
 (TV.bool
 false))
 h_7)
 (If
 (!b_2 ==
 b)
 (R
 (TV.val
 (TV.bool
 false))
 h_7)
 (If
 (!decide
 ((↑s_7.len :
 Int) =
 (0 :
 Int)))
 (R
 (TV.val
 (TV.bool
 false))
 h_7)
 (J s
 h_7))))))
 fun (J : Bool → Array Obj → Prop) ↦
 ∃ (s : Sl),
 ∃ (n : Int),
 ∃ (n_1 : Int),
 ∃ (n_2 : Int),
 ∃ (n_3 : Int),
 ∃ (n_4 : Int),
 ∃ (n_5 : Int),
 ∃ (n_6 : Int),
 ∃ (n_7 : Int),
 ∃ (n_8 : Int),
 ∃ (n_9 : Int),
 ∃ (n_10 : Int),
 (at1 h_2 (Array.size h) (0 : Nat) (slVal s) ∧
 at1 h_2 (Array.size h) (1 : Nat) (Value.int IntKind.i64 n) ∧
 at1 h_2 (Array.size h) (2 : Nat) (Value.int IntKind.i64 n_1) ∧
 at1 h_2 (Array.size h) (3 : Nat) (Value.int IntKind.i64 n_2) ∧
 at1 h_2 (Array.size h) (4 : Nat) (Value.int IntKind.i64 n_3) ∧
 at1 h_2 (Array.size h) (5 : Nat) (Value.int IntKind.i64 n_4) ∧
 at1 h_2 (Array.size h) (6 : Nat) (Value.int IntKind.i64 n_5) ∧
 at1 h_2 (Array.size h) (7 : Nat) (Value.int IntKind.i64 n_6) ∧
 at1 h_2 (Array.size h) (8 : Nat) (Value.int IntKind.i64 n_7) ∧
 at1 h_2 (Array.size h) (9 : Nat) (Value.int IntKind.i64 n_8) ∧
 at1 h_2 (Array.size h) (10 : Nat) (Value.int IntKind.i64 n_9) ∧
 at1 h_2 (Array.size h) (11 : Nat) (Value.int IntKind.i64 n_10)) ∧
 CallsH Try.prog (9 : Nat)
 (TVs.vals
 [TV.agg
 [TV.slice s, TV.int IntKind.i64 n, TV.int IntKind.i64 n_1, TV.int IntKind.i64 n_2, TV.int IntKind.i64 n_3,
 TV.int IntKind.i64 n_4, TV.int IntKind.i64 n_5, TV.int IntKind.i64 n_6, TV.int IntKind.i64 n_7,
 TV.int IntKind.i64 n_8, TV.int IntKind.i64 n_9, TV.int IntKind.i64 n_10]])
 h_2 fun (v : Value) (h_3 : Array Obj) ↦
 ∃ (b : Bool),
 v = TV.val (TV.bool b) ∧
 If b (R (TV.val (TV.bool true)) h_3)
 (∃ (s : Sl),
 ∃ (n : Int),
 ∃ (n_11 : Int),
 ∃ (n_12 : Int),
 ∃ (n_13 : Int),
 ∃ (n_14 : Int),
 ∃ (n_15 : Int),
 ∃ (n_16 : Int),
 ∃ (n_17 : Int),
 ∃ (n_18 : Int),
 ∃ (n_19 : Int),
 ∃ (n_20 : Int),
 (at1 h_3 (Array.size h) (0 : Nat) (slVal s) ∧
 at1 h_3 (Array.size h) (1 : Nat) (Value.int IntKind.i64 n) ∧
 at1 h_3 (Array.size h) (2 : Nat) (Value.int IntKind.i64 n_11) ∧
 at1 h_3 (Array.size h) (3 : Nat) (Value.int IntKind.i64 n_12) ∧
 at1 h_3 (Array.size h) (4 : Nat) (Value.int IntKind.i64 n_13) ∧
 at1 h_3 (Array.size h) (5 : Nat) (Value.int IntKind.i64 n_14) ∧
 at1 h_3 (Array.size h) (6 : Nat) (Value.int IntKind.i64 n_15) ∧
 at1 h_3 (Array.size h) (7 : Nat) (Value.int IntKind.i64 n_16) ∧
 at1 h_3 (Array.size h) (8 : Nat) (Value.int IntKind.i64 n_17) ∧
 at1 h_3 (Array.size h) (9 : Nat) (Value.int IntKind.i64 n_18) ∧
 at1 h_3 (Array.size h) (10 : Nat) (Value.int IntKind.i64 n_19) ∧
 at1 h_3 (Array.size h) (11 : Nat) (Value.int IntKind.i64 n_20)) ∧
 CallsH Try.prog (10 : Nat)
 (TVs.vals
 [TV.agg
 [TV.slice s, TV.int IntKind.i64 n, TV.int IntKind.i64 n_11,
 TV.int IntKind.i64 n_12, TV.int IntKind.i64 n_13, TV.int IntKind.i64 n_14,
 TV.int IntKind.i64 n_15, TV.int IntKind.i64 n_16, TV.int IntKind.i64 n_17,
 TV.int IntKind.i64 n_18, TV.int IntKind.i64 n_19, TV.int IntKind.i64 n_20]])
 h_3 fun (v : Value) (h : Array Obj) ↦
 ∃ (b : Bool),
 v = TV.val (TV.bool b) ∧
 If (!b) (R (TV.val (TV.bool true)) h)
 (If (decide (slot < (0 : Int))) (R (TV.val (TV.bool true)) h)
 (If (decide ((1073741824 : Int) < slot)) (R (TV.val (TV.bool true)) h)
 (If (decide ((100 : Int) < (↑row.len : Int))) (R (TV.val (TV.bool true)) h)
 (J false h))))))

theorem tollerlaw06_BoardPicks_calls (c_Validators : Sl) (c_Epoch : Int) (c_Committee : Int) (c_Nodes : Int) (c_Orphans : Int) (c_Early : Int) (c_Quota : Int) (c_Peers : Int) (c_Bytes : Int) (c_Window : Int) (c_Ban : Int) (c_Decay : Int) (slot : Int) (row : Sl) (h : Heap) (R : Value → Heap → Prop) (H : tollerlaw06_BoardPicks_vc c_Validators c_Epoch c_Committee c_Nodes c_Orphans c_Early c_Quota c_Peers c_Bytes c_Window c_Ban c_Decay slot row h R) : CallsH Try.prog 6 (TVs.vals [TV.agg [TV.slice c_Validators, TV.int IntKind.i64 c_Epoch, TV.int IntKind.i64 c_Committee, TV.int IntKind.i64 c_Nodes, TV.int IntKind.i64 c_Orphans, TV.int IntKind.i64 c_Early, TV.int IntKind.i64 c_Quota, TV.int IntKind.i64 c_Peers, TV.int IntKind.i64 c_Bytes, TV.int IntKind.i64 c_Window, TV.int IntKind.i64 c_Ban, TV.int IntKind.i64 c_Decay], TV.int IntKind.i64 slot, TV.slice row]) h R :=
 vcFn_sound (C := ctx) ctx_ok (fn := Try.f6) Try.func6 ((by kernel_rfl : tollerlaw06_BoardPicks_vc c_Validators c_Epoch c_Committee c_Nodes c_Orphans c_Early c_Quota c_Peers c_Bytes c_Window c_Ban c_Decay slot row h R = vcFn ctx Try.f6 [TV.agg [TV.slice c_Validators, TV.int IntKind.i64 c_Epoch, TV.int IntKind.i64 c_Committee, TV.int IntKind.i64 c_Nodes, TV.int IntKind.i64 c_Orphans, TV.int IntKind.i64 c_Early, TV.int IntKind.i64 c_Quota, TV.int IntKind.i64 c_Peers, TV.int IntKind.i64 c_Bytes, TV.int IntKind.i64 c_Window, TV.int IntKind.i64 c_Ban, TV.int IntKind.i64 c_Decay], TV.int IntKind.i64 slot, TV.slice row] h R) ▸ H)


end Go.Proofs.Ytjncpcdpfgjibaa
