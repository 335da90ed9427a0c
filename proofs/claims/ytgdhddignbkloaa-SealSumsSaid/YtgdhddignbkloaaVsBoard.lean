/- The conditions of functions, as the generator reckons them out, each with the proof that it is that. -/
import Derived.Test.YtgdhddignbkloaaCtx
namespace Go.Proofs.Ytgdhddignbkloaa
open Go Go.Vc
set_option maxRecDepth 100000
set_option linter.unusedVariables false

def board_before_vc (a_lot : Bs (32 : Nat)) (a_who : Int) (b_lot : Bs (32 : Nat)) (b_who : Int) (h : Heap) (R : Value → Heap → Prop) : Prop :=
 Vc.Bind (newTV h (TV.agg [TV.bytes (32 : Nat) a_lot, TV.int IntKind.i64 a_who]) (107 : Nat)) fun (h_1 : Array Obj) ↦
 Vc.Bind (newTV h_1 (TV.agg [TV.bytes (32 : Nat) b_lot, TV.int IntKind.i64 b_who]) (107 : Nat)) fun (h_2 : Array Obj) ↦
 ∃ (b : Bs (32 : Nat)),
 atBytes h_2 (Array.size h) (0 : Nat) (32 : Nat) b ∧
 ∃ (b_1 : Bs (32 : Nat)),
 atBytes h_2 (Array.size h_1) (0 : Nat) (32 : Nat) b_1 ∧
 CallsH Try.prog (71 : Nat) (TVs.vals [TV.bytes (32 : Nat) b, TV.bytes (32 : Nat) b_1]) h_2 fun (v : Value) (h_3 : Array Obj) ↦
 ∃ (b : Bool),
 v = TV.val (TV.bool b) ∧
 If b (R (TV.val (TV.int IntKind.i64 (-1 : Int))) h_3)
 (∃ (b : Bs (32 : Nat)),
 atBytes h_3 (Array.size h_1) (0 : Nat) (32 : Nat) b ∧
 ∃ (b_2 : Bs (32 : Nat)),
 atBytes h_3 (Array.size h) (0 : Nat) (32 : Nat) b_2 ∧
 CallsH Try.prog (71 : Nat) (TVs.vals [TV.bytes (32 : Nat) b, TV.bytes (32 : Nat) b_2]) h_3 fun (v : Value) (h_4 : Array Obj) ↦
 ∃ (b : Bool),
 v = TV.val (TV.bool b) ∧
 If b (R (TV.val (TV.int IntKind.i64 (1 : Int))) h_4)
 (∃ (n : Int),
 at1 h_4 (Array.size h) (32 : Nat) (Value.int IntKind.i64 n) ∧
 ∃ (n_1 : Int),
 at1 h_4 (Array.size h_1) (32 : Nat) (Value.int IntKind.i64 n_1) ∧
 CallsH Try.prog (72 : Nat) (TVs.vals [TV.int IntKind.i64 n, TV.int IntKind.i64 n_1]) h_4
 fun (v : Value) (h : Array Obj) ↦
 ∃ (n : Int), v = TV.val (TV.int IntKind.i64 n) ∧ R (TV.val (TV.int IntKind.i64 n)) h))

theorem board_before_calls (a_lot : Bs (32 : Nat)) (a_who : Int) (b_lot : Bs (32 : Nat)) (b_who : Int) (h : Heap) (R : Value → Heap → Prop) (H : board_before_vc a_lot a_who b_lot b_who h R) : CallsH Try.prog 65 (TVs.vals [TV.agg [TV.bytes (32 : Nat) a_lot, TV.int IntKind.i64 a_who], TV.agg [TV.bytes (32 : Nat) b_lot, TV.int IntKind.i64 b_who]]) h R :=
 vcFn_sound (C := ctx) ctx_ok (fn := Try.f65) Try.func65 ((by kernel_rfl : board_before_vc a_lot a_who b_lot b_who h R = vcFn ctx Try.f65 [TV.agg [TV.bytes (32 : Nat) a_lot, TV.int IntKind.i64 a_who], TV.agg [TV.bytes (32 : Nat) b_lot, TV.int IntKind.i64 b_who]] h R) ▸ H)


def cmp_Compare_int__vc (x : Int) (y : Int) (h : Heap) (R : Value → Heap → Prop) : Prop :=
 CallsH Try.prog (88 : Nat) (TVs.vals [TV.int IntKind.i64 x]) h fun (v : Value) (h : Heap) ↦
 ∃ (b : Bool),
 v = TV.val (TV.bool b) ∧
 CallsH Try.prog (88 : Nat) (TVs.vals [TV.int IntKind.i64 y]) h fun (v : Value) (h : Heap) ↦
 ∃ (b_1 : Bool),
 v = TV.val (TV.bool b_1) ∧
 If b (If b_1 (R (TV.val (TV.int IntKind.i64 (0 : Int))) h) (R (TV.val (TV.int IntKind.i64 (-1 : Int))) h))
 (If b_1 (R (TV.val (TV.int IntKind.i64 (1 : Int))) h)
 (If (decide (x < y)) (R (TV.val (TV.int IntKind.i64 (-1 : Int))) h)
 (If (decide (y < x)) (R (TV.val (TV.int IntKind.i64 (1 : Int))) h) (R (TV.val (TV.int IntKind.i64 (0 : Int))) h))))

theorem cmp_Compare_int__calls (x : Int) (y : Int) (h : Heap) (R : Value → Heap → Prop) (H : cmp_Compare_int__vc x y h R) : CallsH Try.prog 72 (TVs.vals [TV.int IntKind.i64 x, TV.int IntKind.i64 y]) h R :=
 vcFn_sound (C := ctx) ctx_ok (fn := Try.f72) Try.func72 ((by kernel_rfl : cmp_Compare_int__vc x y h R = vcFn ctx Try.f72 [TV.int IntKind.i64 x, TV.int IntKind.i64 y] h R) ▸ H)


def cmp_isNaN_int__vc (x : Int) (h : Heap) (R : Value → Heap → Prop) : Prop :=
 R (TV.val (TV.bool !decide (x = x))) h

theorem cmp_isNaN_int__calls (x : Int) (h : Heap) (R : Value → Heap → Prop) (H : cmp_isNaN_int__vc x h R) : CallsH Try.prog 88 (TVs.vals [TV.int IntKind.i64 x]) h R :=
 vcFn_sound (C := ctx) ctx_ok (fn := Try.f88) Try.func88 ((by kernel_rfl : cmp_isNaN_int__vc x h R = vcFn ctx Try.f88 [TV.int IntKind.i64 x] h R) ▸ H)


def board_Members_vc (c_Validators : Sl) (c_Epoch : Int) (c_Committee : Int) (c_Nodes : Int) (c_Orphans : Int) (c_Early : Int) (c_Quota : Int) (c_Peers : Int) (c_Bytes : Int) (c_Window : Int) (c_Ban : Int) (c_Decay : Int) (slot : Int) (h : Heap) (R : Value → Heap → Prop) : Prop :=
 Vc.Bind
 (newTV h
 (TV.agg
 [TV.slice c_Validators, TV.int IntKind.i64 c_Epoch, TV.int IntKind.i64 c_Committee, TV.int IntKind.i64 c_Nodes, TV.int IntKind.i64 c_Orphans,
 TV.int IntKind.i64 c_Early, TV.int IntKind.i64 c_Quota, TV.int IntKind.i64 c_Peers, TV.int IntKind.i64 c_Bytes, TV.int IntKind.i64 c_Window,
 TV.int IntKind.i64 c_Ban, TV.int IntKind.i64 c_Decay])
 (24 : Nat))
 fun (h_1 : Array Obj) ↦
 Join
 (fun (s : Sl) (h_2 : Array Obj) ↦
 ∃ (s : Sl),
 at1 h_2 (Array.size h) (0 : Nat) (slVal s) ∧
 Go.Vc.Loop (Sl.mk none (0 : Nat) (0 : Nat), (0 : Int)) h_2 fun (s_1 : Sl × Int) (h_3 : Array Obj) (K : Sl × Int → Array Obj → Prop) ↦
 If (decide (s_1.snd < (↑s.len : Int)))
 (CallsH Try.prog (63 : Nat) (TVs.vals [TV.int IntKind.i64 slot, TV.int IntKind.i64 s_1.snd]) h_3 fun (v : Value) (h : Array Obj) ↦
 ∃ (b : Bs (32 : Nat)),
 v = TV.val (TV.bytes (32 : Nat) b) ∧
 ∃ (new : List Value),
 slAt (Array.push h (row (TVs.cells [TV.agg [TV.bytes (32 : Nat) b, TV.int IntKind.i64 s_1.snd]]) (107 : Nat)))
 (Sl.mk (some (Loc.mk (Array.size h) (0 : Nat))) (1 : Nat) (1 : Nat)) (33 : Nat) new ∧
 (∀ (v : Value), v ∈ new → isOne v = true) ∧
 vcAppend Ytgdhddignbkloaa.ctx (107 : Nat) s_1.fst (1 : Nat) new
 (Array.push h (row (TVs.cells [TV.agg [TV.bytes (32 : Nat) b, TV.int IntKind.i64 s_1.snd]]) (107 : Nat)))
 fun (s : Sl) (h : Array Obj) ↦ K (s, IntKind.wrap IntKind.i64 (s_1.snd + (1 : Int))) h)
 (CallsH Try.prog (64 : Nat) (TVs.vals [TV.slice s_1.fst, TV.fn (Fn.func (65 : Nat)) [] []]) h_3 fun (v : Value) (h_4 : Array Obj) ↦
 v = TV.val (TV.tup []) ∧
 ∃ (n : Int),
 at1 h_4 (Array.size h) (2 : Nat) (Value.int IntKind.i64 n) ∧
 (0 : Int) ≤ mn (mx n (0 : Int)) (↑s_1.fst.len : Int) ∧
 mn (mx n (0 : Int)) (↑s_1.fst.len : Int) ≤ (↑s_1.fst.cap : Int) ∧
 Go.Vc.Loop (Sl.mk none (0 : Nat) (0 : Nat), (0 : Int)) h_4 fun (s : Sl × Int) (h : Array Obj) (K : Sl × Int → Array Obj → Prop) ↦
 If (decide (s.snd < (↑(cutSl s_1.fst (0 : Nat) (Int.toNat (mn (mx n (0 : Int)) (↑s_1.fst.len : Int))) (33 : Nat)).len : Int)))
 ((0 : Int) ≤ s.snd ∧
 s.snd < (↑(cutSl s_1.fst (0 : Nat) (Int.toNat (mn (mx n (0 : Int)) (↑s_1.fst.len : Int))) (33 : Nat)).len : Int) ∧
 Nn (cutSl s_1.fst (0 : Nat) (Int.toNat (mn (mx n (0 : Int)) (↑s_1.fst.len : Int))) (33 : Nat)).a fun (l : Go.Vc.Loc) ↦
 ∃ (b : Bs (32 : Nat)),
 ∃ (n : Int),
 (atBytes h l.b (l.o + Int.toNat s.snd * (33 : Nat)) (32 : Nat) b ∧
 at1 h l.b (l.o + Int.toNat s.snd * (33 : Nat) + (32 : Nat)) (Value.int IntKind.i64 n)) ∧
 Vc.Bind (newTV h (TV.agg [TV.bytes (32 : Nat) (Bs.zero (32 : Nat)), TV.int IntKind.i64 (0 : Int)]) (107 : Nat))
 fun (h_5 : Array Obj) ↦
 wok h_5 (Array.size h) (0 : Nat) (33 : Nat) ∧
 Vc.Bind (TV.put h_5 (Array.size h) (0 : Nat) (TV.agg [TV.bytes (32 : Nat) b, TV.int IntKind.i64 n]))
 fun (h_6 : Array Obj) ↦
 ∃ (n : Int),
 at1 h_6 (Array.size h) (32 : Nat) (Value.int IntKind.i64 n) ∧
 ∃ (new : List Value),
 slAt (Array.push h_6 (row (TVs.cells [TV.int IntKind.i64 n]) (3 : Nat)))
 (Sl.mk (some (Loc.mk (Array.size h_6) (0 : Nat))) (1 : Nat) (1 : Nat)) (1 : Nat) new ∧
 (∀ (v : Value), v ∈ new → isOne v = true) ∧
 vcAppend Ytgdhddignbkloaa.ctx (3 : Nat) s.fst (1 : Nat) new
 (Array.push h_6 (row (TVs.cells [TV.int IntKind.i64 n]) (3 : Nat))) fun (s_2 : Sl) (h : Array Obj) ↦
 K (s_2, IntKind.wrap IntKind.i64 (s.snd + (1 : Int))) h)
 (R (TV.val (TV.slice s.fst)) h)))
 fun (J : Sl → Array Obj → Prop) ↦
 If (decide (slot < (0 : Int))) (R (TV.val (TV.slice Sl.nil)) h_1)
 (If (decide ((1073741824 : Int) < slot)) (R (TV.val (TV.slice Sl.nil)) h_1) (J (Sl.mk none (0 : Nat) (0 : Nat)) h_1))

theorem board_Members_calls (c_Validators : Sl) (c_Epoch : Int) (c_Committee : Int) (c_Nodes : Int) (c_Orphans : Int) (c_Early : Int) (c_Quota : Int) (c_Peers : Int) (c_Bytes : Int) (c_Window : Int) (c_Ban : Int) (c_Decay : Int) (slot : Int) (h : Heap) (R : Value → Heap → Prop) (H : board_Members_vc c_Validators c_Epoch c_Committee c_Nodes c_Orphans c_Early c_Quota c_Peers c_Bytes c_Window c_Ban c_Decay slot h R) : CallsH Try.prog 51 (TVs.vals [TV.agg [TV.slice c_Validators, TV.int IntKind.i64 c_Epoch, TV.int IntKind.i64 c_Committee, TV.int IntKind.i64 c_Nodes, TV.int IntKind.i64 c_Orphans, TV.int IntKind.i64 c_Early, TV.int IntKind.i64 c_Quota, TV.int IntKind.i64 c_Peers, TV.int IntKind.i64 c_Bytes, TV.int IntKind.i64 c_Window, TV.int IntKind.i64 c_Ban, TV.int IntKind.i64 c_Decay], TV.int IntKind.i64 slot]) h R :=
 vcFn_sound (C := ctx) ctx_ok (fn := Try.f51) Try.func51 ((by kernel_rfl : board_Members_vc c_Validators c_Epoch c_Committee c_Nodes c_Orphans c_Early c_Quota c_Peers c_Bytes c_Window c_Ban c_Decay slot h R = vcFn ctx Try.f51 [TV.agg [TV.slice c_Validators, TV.int IntKind.i64 c_Epoch, TV.int IntKind.i64 c_Committee, TV.int IntKind.i64 c_Nodes, TV.int IntKind.i64 c_Orphans, TV.int IntKind.i64 c_Early, TV.int IntKind.i64 c_Quota, TV.int IntKind.i64 c_Peers, TV.int IntKind.i64 c_Bytes, TV.int IntKind.i64 c_Window, TV.int IntKind.i64 c_Ban, TV.int IntKind.i64 c_Decay], TV.int IntKind.i64 slot] h R) ▸ H)


def slices_Index___int_int__vc (s_ : Sl) (v_ : Int) (h : Heap) (R : Value → Heap → Prop) : Prop :=
 Go.Vc.Loop ((0 : Int), (0 : Int)) h fun (s : Int × Int) (h : Array Obj) (K : Int × Int → Array Obj → Prop) ↦
 If (decide (s.snd < (↑s_.len : Int)))
 ((0 : Int) ≤ s.snd ∧
 s.snd < (↑s_.len : Int) ∧
 Nn s_.a fun (l : Go.Vc.Loc) ↦
 ∃ (n : Int),
 at1 h l.b (l.o + Int.toNat s.snd * (1 : Nat)) (Value.int IntKind.i64 n) ∧
 If (decide (v_ = n)) (R (TV.val (TV.int IntKind.i64 s.snd)) h) (K (s.fst, IntKind.wrap IntKind.i64 (s.snd + (1 : Int))) h))
 (R (TV.val (TV.int IntKind.i64 (-1 : Int))) h)

theorem slices_Index___int_int__calls (s_ : Sl) (v_ : Int) (h : Heap) (R : Value → Heap → Prop) (H : slices_Index___int_int__vc s_ v_ h R) : CallsH Try.prog 52 (TVs.vals [TV.slice s_, TV.int IntKind.i64 v_]) h R :=
 vcFn_sound (C := ctx) ctx_ok (fn := Try.f52) Try.func52 ((by kernel_rfl : slices_Index___int_int__vc s_ v_ h R = vcFn ctx Try.f52 [TV.slice s_, TV.int IntKind.i64 v_] h R) ▸ H)


def board_Place_vc (c_Validators : Sl) (c_Epoch : Int) (c_Committee : Int) (c_Nodes : Int) (c_Orphans : Int) (c_Early : Int) (c_Quota : Int) (c_Peers : Int) (c_Bytes : Int) (c_Window : Int) (c_Ban : Int) (c_Decay : Int) (slot : Int) (who : Int) (h : Heap) (R : Value → Heap → Prop) : Prop :=
 Vc.Bind
 (newTV h
 (TV.agg
 [TV.slice c_Validators, TV.int IntKind.i64 c_Epoch, TV.int IntKind.i64 c_Committee, TV.int IntKind.i64 c_Nodes, TV.int IntKind.i64 c_Orphans,
 TV.int IntKind.i64 c_Early, TV.int IntKind.i64 c_Quota, TV.int IntKind.i64 c_Peers, TV.int IntKind.i64 c_Bytes, TV.int IntKind.i64 c_Window,
 TV.int IntKind.i64 c_Ban, TV.int IntKind.i64 c_Decay])
 (24 : Nat))
 fun (h_1 : Array Obj) ↦
 ∃ (s : Sl),
 ∃ (n : Int),
 ∃ (n_1 : Int),
 ∃ (n_2 : Int),
 ∃ (n_3 : Int),
 ∃ (n_4 : Int),
 ∃ (n_5 : Int),
 ∃ (n_6 : Int),
 ∃ (n_7 : Int),
 ∃ (n_8 : Int),
 ∃ (n_9 : Int),
 ∃ (n_10 : Int),
 (at1 h_1 (Array.size h) (0 : Nat) (slVal s) ∧
 at1 h_1 (Array.size h) (1 : Nat) (Value.int IntKind.i64 n) ∧
 at1 h_1 (Array.size h) (2 : Nat) (Value.int IntKind.i64 n_1) ∧
 at1 h_1 (Array.size h) (3 : Nat) (Value.int IntKind.i64 n_2) ∧
 at1 h_1 (Array.size h) (4 : Nat) (Value.int IntKind.i64 n_3) ∧
 at1 h_1 (Array.size h) (5 : Nat) (Value.int IntKind.i64 n_4) ∧
 at1 h_1 (Array.size h) (6 : Nat) (Value.int IntKind.i64 n_5) ∧
 at1 h_1 (Array.size h) (7 : Nat) (Value.int IntKind.i64 n_6) ∧
 at1 h_1 (Array.size h) (8 : Nat) (Value.int IntKind.i64 n_7) ∧
 at1 h_1 (Array.size h) (9 : Nat) (Value.int IntKind.i64 n_8) ∧
 at1 h_1 (Array.size h) (10 : Nat) (Value.int IntKind.i64 n_9) ∧
 at1 h_1 (Array.size h) (11 : Nat) (Value.int IntKind.i64 n_10)) ∧
 CallsH Try.prog (51 : Nat)
 (TVs.vals
 [TV.agg
 [TV.slice s, TV.int IntKind.i64 n, TV.int IntKind.i64 n_1, TV.int IntKind.i64 n_2, TV.int IntKind.i64 n_3,
 TV.int IntKind.i64 n_4, TV.int IntKind.i64 n_5, TV.int IntKind.i64 n_6, TV.int IntKind.i64 n_7, TV.int IntKind.i64 n_8,
 TV.int IntKind.i64 n_9, TV.int IntKind.i64 n_10],
 TV.int IntKind.i64 slot])
 h_1 fun (v : Value) (h : Array Obj) ↦
 ∃ (s : Sl),
 v = TV.val (TV.slice s) ∧
 CallsH Try.prog (52 : Nat) (TVs.vals [TV.slice s, TV.int IntKind.i64 who]) h fun (v : Value) (h : Array Obj) ↦
 ∃ (n : Int), v = TV.val (TV.int IntKind.i64 n) ∧ R (TV.val (TV.int IntKind.i64 n)) h

theorem board_Place_calls (c_Validators : Sl) (c_Epoch : Int) (c_Committee : Int) (c_Nodes : Int) (c_Orphans : Int) (c_Early : Int) (c_Quota : Int) (c_Peers : Int) (c_Bytes : Int) (c_Window : Int) (c_Ban : Int) (c_Decay : Int) (slot : Int) (who : Int) (h : Heap) (R : Value → Heap → Prop) (H : board_Place_vc c_Validators c_Epoch c_Committee c_Nodes c_Orphans c_Early c_Quota c_Peers c_Bytes c_Window c_Ban c_Decay slot who h R) : CallsH Try.prog 33 (TVs.vals [TV.agg [TV.slice c_Validators, TV.int IntKind.i64 c_Epoch, TV.int IntKind.i64 c_Committee, TV.int IntKind.i64 c_Nodes, TV.int IntKind.i64 c_Orphans, TV.int IntKind.i64 c_Early, TV.int IntKind.i64 c_Quota, TV.int IntKind.i64 c_Peers, TV.int IntKind.i64 c_Bytes, TV.int IntKind.i64 c_Window, TV.int IntKind.i64 c_Ban, TV.int IntKind.i64 c_Decay], TV.int IntKind.i64 slot, TV.int IntKind.i64 who]) h R :=
 vcFn_sound (C := ctx) ctx_ok (fn := Try.f33) Try.func33 ((by kernel_rfl : board_Place_vc c_Validators c_Epoch c_Committee c_Nodes c_Orphans c_Early c_Quota c_Peers c_Bytes c_Window c_Ban c_Decay slot who h R = vcFn ctx Try.f33 [TV.agg [TV.slice c_Validators, TV.int IntKind.i64 c_Epoch, TV.int IntKind.i64 c_Committee, TV.int IntKind.i64 c_Nodes, TV.int IntKind.i64 c_Orphans, TV.int IntKind.i64 c_Early, TV.int IntKind.i64 c_Quota, TV.int IntKind.i64 c_Peers, TV.int IntKind.i64 c_Bytes, TV.int IntKind.i64 c_Window, TV.int IntKind.i64 c_Ban, TV.int IntKind.i64 c_Decay], TV.int IntKind.i64 slot, TV.int IntKind.i64 who] h R) ▸ H)


def board_Proposer_vc (c_Validators : Sl) (c_Epoch : Int) (c_Committee : Int) (c_Nodes : Int) (c_Orphans : Int) (c_Early : Int) (c_Quota : Int) (c_Peers : Int) (c_Bytes : Int) (c_Window : Int) (c_Ban : Int) (c_Decay : Int) (slot : Int) (h : Heap) (R : Value → Heap → Prop) : Prop :=
 Vc.Bind
 (newTV h
 (TV.agg
 [TV.slice c_Validators, TV.int IntKind.i64 c_Epoch, TV.int IntKind.i64 c_Committee, TV.int IntKind.i64 c_Nodes, TV.int IntKind.i64 c_Orphans,
 TV.int IntKind.i64 c_Early, TV.int IntKind.i64 c_Quota, TV.int IntKind.i64 c_Peers, TV.int IntKind.i64 c_Bytes, TV.int IntKind.i64 c_Window,
 TV.int IntKind.i64 c_Ban, TV.int IntKind.i64 c_Decay])
 (24 : Nat))
 fun (h_1 : Array Obj) ↦
 ∃ (s : Sl),
 ∃ (n : Int),
 ∃ (n_1 : Int),
 ∃ (n_2 : Int),
 ∃ (n_3 : Int),
 ∃ (n_4 : Int),
 ∃ (n_5 : Int),
 ∃ (n_6 : Int),
 ∃ (n_7 : Int),
 ∃ (n_8 : Int),
 ∃ (n_9 : Int),
 ∃ (n_10 : Int),
 (at1 h_1 (Array.size h) (0 : Nat) (slVal s) ∧
 at1 h_1 (Array.size h) (1 : Nat) (Value.int IntKind.i64 n) ∧
 at1 h_1 (Array.size h) (2 : Nat) (Value.int IntKind.i64 n_1) ∧
 at1 h_1 (Array.size h) (3 : Nat) (Value.int IntKind.i64 n_2) ∧
 at1 h_1 (Array.size h) (4 : Nat) (Value.int IntKind.i64 n_3) ∧
 at1 h_1 (Array.size h) (5 : Nat) (Value.int IntKind.i64 n_4) ∧
 at1 h_1 (Array.size h) (6 : Nat) (Value.int IntKind.i64 n_5) ∧
 at1 h_1 (Array.size h) (7 : Nat) (Value.int IntKind.i64 n_6) ∧
 at1 h_1 (Array.size h) (8 : Nat) (Value.int IntKind.i64 n_7) ∧
 at1 h_1 (Array.size h) (9 : Nat) (Value.int IntKind.i64 n_8) ∧
 at1 h_1 (Array.size h) (10 : Nat) (Value.int IntKind.i64 n_9) ∧
 at1 h_1 (Array.size h) (11 : Nat) (Value.int IntKind.i64 n_10)) ∧
 CallsH Try.prog (51 : Nat)
 (TVs.vals
 [TV.agg
 [TV.slice s, TV.int IntKind.i64 n, TV.int IntKind.i64 n_1, TV.int IntKind.i64 n_2, TV.int IntKind.i64 n_3,
 TV.int IntKind.i64 n_4, TV.int IntKind.i64 n_5, TV.int IntKind.i64 n_6, TV.int IntKind.i64 n_7, TV.int IntKind.i64 n_8,
 TV.int IntKind.i64 n_9, TV.int IntKind.i64 n_10],
 TV.int IntKind.i64 slot])
 h_1 fun (v : Value) (h : Array Obj) ↦
 ∃ (s : Sl),
 v = TV.val (TV.slice s) ∧
 If (decide ((0 : Int) < (↑s.len : Int)))
 ((0 : Int) ≤ (0 : Int) ∧
 (0 : Int) < (↑s.len : Int) ∧
 Nn s.a fun (l : Go.Vc.Loc) ↦
 ∃ (n : Int),
 at1 h l.b (l.o + Int.toNat (0 : Int) * (1 : Nat)) (Value.int IntKind.i64 n) ∧ R (TV.val (TV.int IntKind.i64 n)) h)
 (R (TV.val (TV.int IntKind.i64 (-1 : Int))) h)

theorem board_Proposer_calls (c_Validators : Sl) (c_Epoch : Int) (c_Committee : Int) (c_Nodes : Int) (c_Orphans : Int) (c_Early : Int) (c_Quota : Int) (c_Peers : Int) (c_Bytes : Int) (c_Window : Int) (c_Ban : Int) (c_Decay : Int) (slot : Int) (h : Heap) (R : Value → Heap → Prop) (H : board_Proposer_vc c_Validators c_Epoch c_Committee c_Nodes c_Orphans c_Early c_Quota c_Peers c_Bytes c_Window c_Ban c_Decay slot h R) : CallsH Try.prog 32 (TVs.vals [TV.agg [TV.slice c_Validators, TV.int IntKind.i64 c_Epoch, TV.int IntKind.i64 c_Committee, TV.int IntKind.i64 c_Nodes, TV.int IntKind.i64 c_Orphans, TV.int IntKind.i64 c_Early, TV.int IntKind.i64 c_Quota, TV.int IntKind.i64 c_Peers, TV.int IntKind.i64 c_Bytes, TV.int IntKind.i64 c_Window, TV.int IntKind.i64 c_Ban, TV.int IntKind.i64 c_Decay], TV.int IntKind.i64 slot]) h R :=
 vcFn_sound (C := ctx) ctx_ok (fn := Try.f32) Try.func32 ((by kernel_rfl : board_Proposer_vc c_Validators c_Epoch c_Committee c_Nodes c_Orphans c_Early c_Quota c_Peers c_Bytes c_Window c_Ban c_Decay slot h R = vcFn ctx Try.f32 [TV.agg [TV.slice c_Validators, TV.int IntKind.i64 c_Epoch, TV.int IntKind.i64 c_Committee, TV.int IntKind.i64 c_Nodes, TV.int IntKind.i64 c_Orphans, TV.int IntKind.i64 c_Early, TV.int IntKind.i64 c_Quota, TV.int IntKind.i64 c_Peers, TV.int IntKind.i64 c_Bytes, TV.int IntKind.i64 c_Window, TV.int IntKind.i64 c_Ban, TV.int IntKind.i64 c_Decay], TV.int IntKind.i64 slot] h R) ▸ H)


def board_Pick_vc (c_Validators : Sl) (c_Epoch : Int) (c_Committee : Int) (c_Nodes : Int) (c_Orphans : Int) (c_Early : Int) (c_Quota : Int) (c_Peers : Int) (c_Bytes : Int) (c_Window : Int) (c_Ban : Int) (c_Decay : Int) (slot : Int) (bits : Sl) (h : Heap) (R : Value → Heap → Prop) : Prop :=
 Vc.Bind
 (newTV h
 (TV.agg
 [TV.slice c_Validators, TV.int IntKind.i64 c_Epoch, TV.int IntKind.i64 c_Committee, TV.int IntKind.i64 c_Nodes, TV.int IntKind.i64 c_Orphans,
 TV.int IntKind.i64 c_Early, TV.int IntKind.i64 c_Quota, TV.int IntKind.i64 c_Peers, TV.int IntKind.i64 c_Bytes, TV.int IntKind.i64 c_Window,
 TV.int IntKind.i64 c_Ban, TV.int IntKind.i64 c_Decay])
 (24 : Nat))
 fun (h_1 : Array Obj) ↦
 ∃ (s : Sl),
 ∃ (n : Int),
 ∃ (n_1 : Int),
 ∃ (n_2 : Int),
 ∃ (n_3 : Int),
 ∃ (n_4 : Int),
 ∃ (n_5 : Int),
 ∃ (n_6 : Int),
 ∃ (n_7 : Int),
 ∃ (n_8 : Int),
 ∃ (n_9 : Int),
 ∃ (n_10 : Int),
 (at1 h_1 (Array.size h) (0 : Nat) (slVal s) ∧
 at1 h_1 (Array.size h) (1 : Nat) (Value.int IntKind.i64 n) ∧
 at1 h_1 (Array.size h) (2 : Nat) (Value.int IntKind.i64 n_1) ∧
 at1 h_1 (Array.size h) (3 : Nat) (Value.int IntKind.i64 n_2) ∧
 at1 h_1 (Array.size h) (4 : Nat) (Value.int IntKind.i64 n_3) ∧
 at1 h_1 (Array.size h) (5 : Nat) (Value.int IntKind.i64 n_4) ∧
 at1 h_1 (Array.size h) (6 : Nat) (Value.int IntKind.i64 n_5) ∧
 at1 h_1 (Array.size h) (7 : Nat) (Value.int IntKind.i64 n_6) ∧
 at1 h_1 (Array.size h) (8 : Nat) (Value.int IntKind.i64 n_7) ∧
 at1 h_1 (Array.size h) (9 : Nat) (Value.int IntKind.i64 n_8) ∧
 at1 h_1 (Array.size h) (10 : Nat) (Value.int IntKind.i64 n_9) ∧
 at1 h_1 (Array.size h) (11 : Nat) (Value.int IntKind.i64 n_10)) ∧
 CallsH Try.prog (51 : Nat)
 (TVs.vals
 [TV.agg
 [TV.slice s, TV.int IntKind.i64 n, TV.int IntKind.i64 n_1, TV.int IntKind.i64 n_2, TV.int IntKind.i64 n_3,
 TV.int IntKind.i64 n_4, TV.int IntKind.i64 n_5, TV.int IntKind.i64 n_6, TV.int IntKind.i64 n_7, TV.int IntKind.i64 n_8,
 TV.int IntKind.i64 n_9, TV.int IntKind.i64 n_10],
 TV.int IntKind.i64 slot])
 h_1 fun (v : Value) (h : Array Obj) ↦
 ∃ (s : Sl),
 v = TV.val (TV.slice s) ∧
 Join
 (fun (s_1 : Sl × Bool) (h : Array Obj) ↦
 Go.Vc.Loop (Sl.mk none (0 : Nat) (0 : Nat), (0 : Int)) h
 fun (s_2 : Sl × Int) (h : Array Obj) (K : Sl × Int → Array Obj → Prop) ↦
 If (decide (s_2.snd < (↑s.len : Int)))
 ((0 : Int) ≤ s_2.snd ∧
 s_2.snd < (↑s.len : Int) ∧
 Nn s.a fun (l : Go.Vc.Loc) ↦
 ∃ (n : Int),
 at1 h l.b (l.o + Int.toNat s_2.snd * (1 : Nat)) (Value.int IntKind.i64 n) ∧
 (0 : Int) ≤ s_2.snd ∧
 s_2.snd < (↑bits.len : Int) ∧
 Nn bits.a fun (l : Go.Vc.Loc) ↦
 ∃ (b : Bool),
 at1 h l.b (l.o + Int.toNat s_2.snd * (1 : Nat)) (Value.bool b) ∧
 If b
 (∃ (new : List Value),
 slAt (Array.push h (row (TVs.cells [TV.int IntKind.i64 n]) (3 : Nat)))
 (Sl.mk (some (Loc.mk (Array.size h) (0 : Nat))) (1 : Nat) (1 : Nat)) (1 : Nat) new ∧
 (∀ (v : Value), v ∈ new → isOne v = true) ∧
 vcAppend Ytgdhddignbkloaa.ctx (3 : Nat) s_2.fst (1 : Nat) new
 (Array.push h (row (TVs.cells [TV.int IntKind.i64 n]) (3 : Nat)))
 fun (s : Sl) (h : Array Obj) ↦ K (s, IntKind.wrap IntKind.i64 (s_2.snd + (1 : Int))) h)
 (K (s_2.fst, IntKind.wrap IntKind.i64 (s_2.snd + (1 : Int))) h))
 (R (TV.val (TV.tup [TV.slice s_2.fst, TV.bool true])) h))
 fun (J : Sl × Bool → Array Obj → Prop) ↦
 If (decide ((↑s.len : Int) = (0 : Int))) (R (TV.val (TV.tup [TV.slice Sl.nil, TV.bool false])) h)
 (If (!decide ((↑bits.len : Int) = (↑s.len : Int))) (R (TV.val (TV.tup [TV.slice Sl.nil, TV.bool false])) h)
 (J (Sl.mk none (0 : Nat) (0 : Nat), false) h))

theorem board_Pick_calls (c_Validators : Sl) (c_Epoch : Int) (c_Committee : Int) (c_Nodes : Int) (c_Orphans : Int) (c_Early : Int) (c_Quota : Int) (c_Peers : Int) (c_Bytes : Int) (c_Window : Int) (c_Ban : Int) (c_Decay : Int) (slot : Int) (bits : Sl) (h : Heap) (R : Value → Heap → Prop) (H : board_Pick_vc c_Validators c_Epoch c_Committee c_Nodes c_Orphans c_Early c_Quota c_Peers c_Bytes c_Window c_Ban c_Decay slot bits h R) : CallsH Try.prog 31 (TVs.vals [TV.agg [TV.slice c_Validators, TV.int IntKind.i64 c_Epoch, TV.int IntKind.i64 c_Committee, TV.int IntKind.i64 c_Nodes, TV.int IntKind.i64 c_Orphans, TV.int IntKind.i64 c_Early, TV.int IntKind.i64 c_Quota, TV.int IntKind.i64 c_Peers, TV.int IntKind.i64 c_Bytes, TV.int IntKind.i64 c_Window, TV.int IntKind.i64 c_Ban, TV.int IntKind.i64 c_Decay], TV.int IntKind.i64 slot, TV.slice bits]) h R :=
 vcFn_sound (C := ctx) ctx_ok (fn := Try.f31) Try.func31 ((by kernel_rfl : board_Pick_vc c_Validators c_Epoch c_Committee c_Nodes c_Orphans c_Early c_Quota c_Peers c_Bytes c_Window c_Ban c_Decay slot bits h R = vcFn ctx Try.f31 [TV.agg [TV.slice c_Validators, TV.int IntKind.i64 c_Epoch, TV.int IntKind.i64 c_Committee, TV.int IntKind.i64 c_Nodes, TV.int IntKind.i64 c_Orphans, TV.int IntKind.i64 c_Early, TV.int IntKind.i64 c_Quota, TV.int IntKind.i64 c_Peers, TV.int IntKind.i64 c_Bytes, TV.int IntKind.i64 c_Window, TV.int IntKind.i64 c_Ban, TV.int IntKind.i64 c_Decay], TV.int IntKind.i64 slot, TV.slice bits] h R) ▸ H)


def tollerref06_Same_vc (a : Sl) (b : Sl) (h : Heap) (R : Value → Heap → Prop) : Prop :=
 If (!decide ((↑a.len : Int) = (↑b.len : Int))) (R (TV.val (TV.bool false)) h)
 (Go.Vc.Loop (false, (0 : Int)) h fun (s : Bool × Int) (h : Array Obj) (K : Bool × Int → Array Obj → Prop) ↦
 If (decide (s.snd < (↑a.len : Int)))
 ((0 : Int) ≤ s.snd ∧
 s.snd < (↑a.len : Int) ∧
 Nn a.a fun (l : Go.Vc.Loc) ↦
 ∃ (n : Int),
 at1 h l.b (l.o + Int.toNat s.snd * (1 : Nat)) (Value.int IntKind.i64 n) ∧
 (0 : Int) ≤ s.snd ∧
 s.snd < (↑b.len : Int) ∧
 Nn b.a fun (l : Go.Vc.Loc) ↦
 ∃ (n_1 : Int),
 at1 h l.b (l.o + Int.toNat s.snd * (1 : Nat)) (Value.int IntKind.i64 n_1) ∧
 If (!decide (n = n_1)) (R (TV.val (TV.bool false)) h) (K (s.fst, IntKind.wrap IntKind.i64 (s.snd + (1 : Int))) h))
 (R (TV.val (TV.bool true)) h))

theorem tollerref06_Same_calls (a : Sl) (b : Sl) (h : Heap) (R : Value → Heap → Prop) (H : tollerref06_Same_vc a b h R) : CallsH Try.prog 15 (TVs.vals [TV.slice a, TV.slice b]) h R :=
 vcFn_sound (C := ctx) ctx_ok (fn := Try.f15) Try.func15 ((by kernel_rfl : tollerref06_Same_vc a b h R = vcFn ctx Try.f15 [TV.slice a, TV.slice b] h R) ▸ H)


end Go.Proofs.Ytgdhddignbkloaa
