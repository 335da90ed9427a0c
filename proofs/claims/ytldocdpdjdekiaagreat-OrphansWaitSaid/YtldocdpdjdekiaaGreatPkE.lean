/- Texts that the proof needs, joined: VsWireV, WireV, VsWaitA, WaitA, VsWaitB, WaitB, VsWaitC, WaitC, WaitD, VsLawO, LawO, LawP0, LawR, LawR1, VsLawU, LawU, VcW. -/
import Derived.Test.YtldocdpdjdekiaaGreatPkD

section
/- The conditions of functions, as the generator reckons them out, each with the proof that it is that. -/
namespace Go.Proofs.YtldocdpdjdekiaaGreat
open Go Go.Vc
set_option maxRecDepth 100000
set_option linter.unusedVariables false

def tollerref02_Get_vc (s_ : List UInt8) (most : Int) (h : Heap) (R : Value → Heap → Prop) : Prop :=
 Go.Vc.Loop (Sl.mk none (0 : Nat) (0 : Nat), (0 : Int)) h fun (s : Sl × Int) (h : Array Obj) (K : Sl × Int → Array Obj → Prop) ↦
 If (decide (s.snd < (↑(List.length s_) : Int)))
 ((0 : Int) ≤ s.snd ∧
 s.snd < (↑(List.length s_) : Int) ∧
 Go.Vc.Loop (s.fst, IntKind.wrap IntKind.i64 (↑(UInt8.toNat (List.getD s_ (Int.toNat s.snd) (0 : UInt8))) : Int), (0 : Int)) h
 fun (s_1 : Sl × Int × Int) (h : Array Obj) (K_1 : Sl × Int × Int → Array Obj → Prop) ↦
 If (decide (s_1.snd.snd < (8 : Int)))
 ((2 : Int) ≠ (0 : Int) ∧
 ∃ (new : List Value),
 slAt (Array.push h (row (TVs.cells [TV.bool (decide (Int.tmod s_1.snd.fst (2 : Int) = (1 : Int)))]) (4 : Nat)))
 (Sl.mk (some (Loc.mk (Array.size h) (0 : Nat))) (1 : Nat) (1 : Nat)) (1 : Nat) new ∧
 (∀ (v : Value), v ∈ new → isOne v = true) ∧
 vcAppend YtldocdpdjdekiaaGreat.ctx (4 : Nat) s_1.fst (1 : Nat) new
 (Array.push h (row (TVs.cells [TV.bool (decide (Int.tmod s_1.snd.fst (2 : Int) = (1 : Int)))]) (4 : Nat)))
 fun (s_2 : Sl) (h : Array Obj) ↦
 (2 : Int) ≠ (0 : Int) ∧
 K_1 (s_2, IntKind.wrap IntKind.i64 (Int.tdiv s_1.snd.fst (2 : Int)), IntKind.wrap IntKind.i64 (s_1.snd.snd + (1 : Int))) h)
 (K (s_1.fst, IntKind.wrap IntKind.i64 (s.snd + (1 : Int))) h))
 (Go.Vc.Loop (Sl.mk none (0 : Nat) (0 : Nat), false, IntKind.wrap IntKind.i64 ((↑s.fst.len : Int) - (1 : Int))) h
 fun (s_1 : Sl × Bool × Int) (h : Array Obj) (K : Sl × Bool × Int → Array Obj → Prop) ↦
 Join
 (fun (s_2 : PUnit) (h : Array Obj) ↦
 (0 : Int) ≤ s_1.snd.snd ∧
 s_1.snd.snd < (↑s.fst.len : Int) ∧
 Nn s.fst.a fun (l : Go.Vc.Loc) ↦
 ∃ (b : Bool),
 at1 h l.b (l.o + Int.toNat s_1.snd.snd * (1 : Nat)) (Value.bool b) ∧
 If b
 ((0 : Int) ≤ s_1.snd.snd ∧
 s_1.snd.snd ≤ (↑s.fst.cap : Int) ∧
 R (TV.val (TV.tup [TV.slice (cutSl s.fst (0 : Nat) (Int.toNat s_1.snd.snd) (1 : Nat)), TV.bool (decide (s_1.snd.snd ≤ most))])) h)
 (K (s_1.fst, s_1.snd.fst, IntKind.wrap IntKind.i64 (s_1.snd.snd - (1 : Int))) h))
 fun (J : PUnit → Array Obj → Prop) ↦
 If (decide ((0 : Int) ≤ s_1.snd.snd))
 (If (decide (IntKind.wrap IntKind.i64 ((↑s.fst.len : Int) - (8 : Int)) ≤ s_1.snd.snd)) (J PUnit.unit h)
 (R (TV.val (TV.tup [TV.slice Sl.nil, TV.bool false])) h))
 (R (TV.val (TV.tup [TV.slice Sl.nil, TV.bool false])) h))

theorem tollerref02_Get_calls (s_ : List UInt8) (most : Int) (h : Heap) (R : Value → Heap → Prop) (H : tollerref02_Get_vc s_ most h R) : CallsH Tryz.prog 79 (TVs.vals [TV.str s_, TV.int IntKind.i64 most]) h R :=
 vcFn_sound (C := ctx) ctx_ok (fn := Tryz.f79) Tryz.func79 ((by kernel_rfl : tollerref02_Get_vc s_ most h R = vcFn ctx Tryz.f79 [TV.str s_, TV.int IntKind.i64 most] h R) ▸ H)


def tollerref07_Decode_vc (s_ : List UInt8) (h : Heap) (R : Value → Heap → Prop) : Prop :=
 Vc.Bind
 (newTV h
 (TV.agg
 [TV.int IntKind.i64 (0 : Int), TV.int IntKind.i64 (0 : Int), TV.bytes (32 : Nat) (Bs.zero (32 : Nat)), TV.int IntKind.i64 (0 : Int),
 TV.int IntKind.u64 (0 : Int), TV.slice Sl.nil, TV.bytes (16 : Nat) (Bs.zero (16 : Nat))])
 (58 : Nat))
 fun (h_1 : Array Obj) ↦
 If (decide ((↑(List.length s_) : Int) < (54 : Int)))
 (wok h_1 (Array.size h) (0 : Nat) (53 : Nat) ∧
 Vc.Bind
 (TV.put h_1 (Array.size h) (0 : Nat)
 (TV.agg
 [TV.int IntKind.i64 (0 : Int), TV.int IntKind.i64 (0 : Int), TV.bytes (32 : Nat) (Bs.zero (32 : Nat)), TV.int IntKind.i64 (0 : Int),
 TV.int IntKind.u64 (0 : Int), TV.slice Sl.nil, TV.bytes (16 : Nat) (Bs.zero (16 : Nat))]))
 fun (h_2 : Array Obj) ↦
 ∃ (n : Int),
 ∃ (n_1 : Int),
 ∃ (b : Bs (32 : Nat)),
 ∃ (n_2 : Int),
 ∃ (n_3 : Int),
 ∃ (s : Sl),
 ∃ (b_1 : Bs (16 : Nat)),
 (at1 h_2 (Array.size h) (0 : Nat) (Value.int IntKind.i64 n) ∧
 at1 h_2 (Array.size h) (1 : Nat) (Value.int IntKind.i64 n_1) ∧
 atBytes h_2 (Array.size h) (2 : Nat) (32 : Nat) b ∧
 at1 h_2 (Array.size h) (34 : Nat) (Value.int IntKind.i64 n_2) ∧
 at1 h_2 (Array.size h) (35 : Nat) (Value.int IntKind.u64 n_3) ∧
 at1 h_2 (Array.size h) (36 : Nat) (slVal s) ∧ atBytes h_2 (Array.size h) (37 : Nat) (16 : Nat) b_1) ∧
 R
 (TV.val
 (TV.tup
 [TV.agg
 [TV.int IntKind.i64 n, TV.int IntKind.i64 n_1, TV.bytes (32 : Nat) b, TV.int IntKind.i64 n_2, TV.int IntKind.u64 n_3,
 TV.slice s, TV.bytes (16 : Nat) b_1],
 TV.bool false]))
 h_2)
 (Vc.Bind (newTV h_1 (TV.agg [TV.str s_, TV.int IntKind.i64 (0 : Int), TV.bool false]) (125 : Nat)) fun (h_2 : Array Obj) ↦
 Vc.Bind
 (newTV h_2
 (TV.agg
 [TV.int IntKind.i64 (0 : Int), TV.int IntKind.i64 (0 : Int), TV.bytes (32 : Nat) (Bs.zero (32 : Nat)), TV.int IntKind.i64 (0 : Int),
 TV.int IntKind.u64 (0 : Int), TV.slice Sl.nil, TV.bytes (16 : Nat) (Bs.zero (16 : Nat))])
 (58 : Nat))
 fun (h_3 : Array Obj) ↦
 CallsH Tryz.prog (78 : Nat) (TVs.vals [TV.ptr (some (Loc.mk (Array.size h_1) (0 : Nat))), TV.int IntKind.i64 (1 : Int)]) h_3
 fun (v : Value) (h_4 : Array Obj) ↦
 ∃ (n : Int),
 v = TV.val (TV.int IntKind.u64 n) ∧
 wok h_4 (Array.size h_2) (0 : Nat) (1 : Nat) ∧
 Vc.Bind (TV.put h_4 (Array.size h_2) (0 : Nat) (TV.int IntKind.i64 (IntKind.wrap IntKind.i64 n))) fun (h_5 : Array Obj) ↦
 CallsH Tryz.prog (78 : Nat) (TVs.vals [TV.ptr (some (Loc.mk (Array.size h_1) (0 : Nat))), TV.int IntKind.i64 (4 : Int)]) h_5
 fun (v : Value) (h_6 : Array Obj) ↦
 ∃ (n : Int),
 v = TV.val (TV.int IntKind.u64 n) ∧
 wok h_6 (Array.size h_2) (1 : Nat) (1 : Nat) ∧
 Vc.Bind (TV.put h_6 (Array.size h_2) (1 : Nat) (TV.int IntKind.i64 (IntKind.wrap IntKind.i64 n))) fun (h_7 : Array Obj) ↦
 Go.Vc.Loop (0 : Int) h_7 fun (s : Int) (h_8 : Array Obj) (K : Int → Array Obj → Prop) ↦
 If (decide (s < (32 : Int)))
 (CallsH Tryz.prog (78 : Nat) (TVs.vals [TV.ptr (some (Loc.mk (Array.size h_1) (0 : Nat))), TV.int IntKind.i64 (1 : Int)]) h_8
 fun (v : Value) (h : Array Obj) ↦
 ∃ (n : Int),
 v = TV.val (TV.int IntKind.u64 n) ∧
 (0 : Int) ≤ s ∧
 s < (↑(32 : Nat) : Int) ∧
 wok h (Array.size h_2) ((2 : Nat) + Int.toNat s * (1 : Nat)) (1 : Nat) ∧
 Vc.Bind
 (TV.put h (Array.size h_2) ((2 : Nat) + Int.toNat s * (1 : Nat)) (TV.int IntKind.u8 (IntKind.wrap IntKind.u8 n)))
 fun (h : Array Obj) ↦ K (IntKind.wrap IntKind.i64 (s + (1 : Int))) h)
 (Join
 (fun (s : Int) (h_9 : Array Obj) ↦
 Join
 (fun (s : Int) (h_10 : Array Obj) ↦
 Join
 (fun (s_1 : Bool × Int) (h_11 : Array Obj) ↦
 Go.Vc.Loop (0 : Int) h_11 fun (s_2 : Int) (h_12 : Array Obj) (K : Int → Array Obj → Prop) ↦
 If (decide (s_2 < (16 : Int)))
 (CallsH Tryz.prog (78 : Nat)
 (TVs.vals [TV.ptr (some (Loc.mk (Array.size h_1) (0 : Nat))), TV.int IntKind.i64 (1 : Int)]) h_12
 fun (v : Value) (h : Array Obj) ↦
 ∃ (n : Int),
 v = TV.val (TV.int IntKind.u64 n) ∧
 (0 : Int) ≤ s_2 ∧
 s_2 < (↑(16 : Nat) : Int) ∧
 wok h (Array.size h_2) ((37 : Nat) + Int.toNat s_2 * (1 : Nat)) (1 : Nat) ∧
 Vc.Bind
 (TV.put h (Array.size h_2) ((37 : Nat) + Int.toNat s_2 * (1 : Nat))
 (TV.int IntKind.u8 (IntKind.wrap IntKind.u8 n)))
 fun (h : Array Obj) ↦ K (IntKind.wrap IntKind.i64 (s_2 + (1 : Int))) h)
 (If (!decide (s_1.snd = (0 : Int)))
 (wok h_12 (Array.size h) (0 : Nat) (53 : Nat) ∧
 Vc.Bind
 (TV.put h_12 (Array.size h) (0 : Nat)
 (TV.agg
 [TV.int IntKind.i64 (0 : Int), TV.int IntKind.i64 (0 : Int), TV.bytes (32 : Nat) (Bs.zero (32 : Nat)),
 TV.int IntKind.i64 (0 : Int), TV.int IntKind.u64 (0 : Int), TV.slice Sl.nil,
 TV.bytes (16 : Nat) (Bs.zero (16 : Nat))]))
 fun (h_13 : Array Obj) ↦
 ∃ (n : Int),
 ∃ (n_1 : Int),
 ∃ (b : Bs (32 : Nat)),
 ∃ (n_2 : Int),
 ∃ (n_3 : Int),
 ∃ (s : Sl),
 ∃ (b_1 : Bs (16 : Nat)),
 (at1 h_13 (Array.size h) (0 : Nat) (Value.int IntKind.i64 n) ∧
 at1 h_13 (Array.size h) (1 : Nat) (Value.int IntKind.i64 n_1) ∧
 atBytes h_13 (Array.size h) (2 : Nat) (32 : Nat) b ∧
 at1 h_13 (Array.size h) (34 : Nat) (Value.int IntKind.i64 n_2) ∧
 at1 h_13 (Array.size h) (35 : Nat) (Value.int IntKind.u64 n_3) ∧
 at1 h_13 (Array.size h) (36 : Nat) (slVal s) ∧
 atBytes h_13 (Array.size h) (37 : Nat) (16 : Nat) b_1) ∧
 R
 (TV.val
 (TV.tup
 [TV.agg
 [TV.int IntKind.i64 n, TV.int IntKind.i64 n_1, TV.bytes (32 : Nat) b,
 TV.int IntKind.i64 n_2, TV.int IntKind.u64 n_3, TV.slice s,
 TV.bytes (16 : Nat) b_1],
 TV.bool false]))
 h_13)
 (CallsH Tryz.prog (81 : Nat) (TVs.vals [TV.ptr (some (Loc.mk (Array.size h_1) (0 : Nat)))]) h_12
 fun (v : Value) (h_13 : Array Obj) ↦
 ∃ (b : Bool),
 v = TV.val (TV.bool b) ∧
 If (!b)
 (wok h_13 (Array.size h) (0 : Nat) (53 : Nat) ∧
 Vc.Bind
 (TV.put h_13 (Array.size h) (0 : Nat)
 (TV.agg
 [TV.int IntKind.i64 (0 : Int), TV.int IntKind.i64 (0 : Int),
 TV.bytes (32 : Nat) (Bs.zero (32 : Nat)), TV.int IntKind.i64 (0 : Int),
 TV.int IntKind.u64 (0 : Int), TV.slice Sl.nil, TV.bytes (16 : Nat) (Bs.zero (16 : Nat))]))
 fun (h_14 : Array Obj) ↦
 ∃ (n : Int),
 ∃ (n_1 : Int),
 ∃ (b : Bs (32 : Nat)),
 ∃ (n_2 : Int),
 ∃ (n_3 : Int),
 ∃ (s : Sl),
 ∃ (b_1 : Bs (16 : Nat)),
 (at1 h_14 (Array.size h) (0 : Nat) (Value.int IntKind.i64 n) ∧
 at1 h_14 (Array.size h) (1 : Nat) (Value.int IntKind.i64 n_1) ∧
 atBytes h_14 (Array.size h) (2 : Nat) (32 : Nat) b ∧
 at1 h_14 (Array.size h) (34 : Nat) (Value.int IntKind.i64 n_2) ∧
 at1 h_14 (Array.size h) (35 : Nat) (Value.int IntKind.u64 n_3) ∧
 at1 h_14 (Array.size h) (36 : Nat) (slVal s) ∧
 atBytes h_14 (Array.size h) (37 : Nat) (16 : Nat) b_1) ∧
 R
 (TV.val
 (TV.tup
 [TV.agg
 [TV.int IntKind.i64 n, TV.int IntKind.i64 n_1, TV.bytes (32 : Nat) b,
 TV.int IntKind.i64 n_2, TV.int IntKind.u64 n_3, TV.slice s,
 TV.bytes (16 : Nat) b_1],
 TV.bool false]))
 h_14)
 (∃ (n : Int),
 ∃ (n_1 : Int),
 ∃ (b : Bs (32 : Nat)),
 ∃ (n_2 : Int),
 ∃ (n_3 : Int),
 ∃ (s : Sl),
 ∃ (b_1 : Bs (16 : Nat)),
 (at1 h_13 (Array.size h_2) (0 : Nat) (Value.int IntKind.i64 n) ∧
 at1 h_13 (Array.size h_2) (1 : Nat) (Value.int IntKind.i64 n_1) ∧
 atBytes h_13 (Array.size h_2) (2 : Nat) (32 : Nat) b ∧
 at1 h_13 (Array.size h_2) (34 : Nat) (Value.int IntKind.i64 n_2) ∧
 at1 h_13 (Array.size h_2) (35 : Nat) (Value.int IntKind.u64 n_3) ∧
 at1 h_13 (Array.size h_2) (36 : Nat) (slVal s) ∧
 atBytes h_13 (Array.size h_2) (37 : Nat) (16 : Nat) b_1) ∧
 CallsH Tryz.prog (49 : Nat)
 (TVs.vals
 [TV.agg
 [TV.int IntKind.i64 n, TV.int IntKind.i64 n_1, TV.bytes (32 : Nat) b,
 TV.int IntKind.i64 n_2, TV.int IntKind.u64 n_3, TV.slice s,
 TV.bytes (16 : Nat) b_1]])
 h_13 fun (v : Value) (h_14 : Array Obj) ↦
 ∃ (b : Bool),
 v = TV.val (TV.bool b) ∧
 If (!b)
 (wok h_14 (Array.size h) (0 : Nat) (53 : Nat) ∧
 Vc.Bind
 (TV.put h_14 (Array.size h) (0 : Nat)
 (TV.agg
 [TV.int IntKind.i64 (0 : Int), TV.int IntKind.i64 (0 : Int),
 TV.bytes (32 : Nat) (Bs.zero (32 : Nat)),
 TV.int IntKind.i64 (0 : Int), TV.int IntKind.u64 (0 : Int),
 TV.slice Sl.nil, TV.bytes (16 : Nat) (Bs.zero (16 : Nat))]))
 fun (h_15 : Array Obj) ↦
 ∃ (n : Int),
 ∃ (n_4 : Int),
 ∃ (b : Bs (32 : Nat)),
 ∃ (n_5 : Int),
 ∃ (n_6 : Int),
 ∃ (s : Sl),
 ∃ (b_2 : Bs (16 : Nat)),
 (at1 h_15 (Array.size h) (0 : Nat)
 (Value.int IntKind.i64 n) ∧
 at1 h_15 (Array.size h) (1 : Nat)
 (Value.int IntKind.i64 n_4) ∧
 atBytes h_15 (Array.size h) (2 : Nat) (32 : Nat) b ∧
 at1 h_15 (Array.size h) (34 : Nat)
 (Value.int IntKind.i64 n_5) ∧
 at1 h_15 (Array.size h) (35 : Nat)
 (Value.int IntKind.u64 n_6) ∧
 at1 h_15 (Array.size h) (36 : Nat) (slVal s) ∧
 atBytes h_15 (Array.size h) (37 : Nat)
 (16 : Nat) b_2) ∧
 R
 (TV.val
 (TV.tup
 [TV.agg
 [TV.int IntKind.i64 n, TV.int IntKind.i64 n_4,
 TV.bytes (32 : Nat) b, TV.int IntKind.i64 n_5,
 TV.int IntKind.u64 n_6, TV.slice s,
 TV.bytes (16 : Nat) b_2],
 TV.bool false]))
 h_15)
 (∃ (n : Int),
 ∃ (n_4 : Int),
 ∃ (b : Bs (32 : Nat)),
 ∃ (n_5 : Int),
 ∃ (n_6 : Int),
 ∃ (s : Sl),
 ∃ (b_2 : Bs (16 : Nat)),
 (at1 h_14 (Array.size h_2) (0 : Nat) (Value.int IntKind.i64 n) ∧
 at1 h_14 (Array.size h_2) (1 : Nat)
 (Value.int IntKind.i64 n_4) ∧
 atBytes h_14 (Array.size h_2) (2 : Nat) (32 : Nat) b ∧
 at1 h_14 (Array.size h_2) (34 : Nat)
 (Value.int IntKind.i64 n_5) ∧
 at1 h_14 (Array.size h_2) (35 : Nat)
 (Value.int IntKind.u64 n_6) ∧
 at1 h_14 (Array.size h_2) (36 : Nat) (slVal s) ∧
 atBytes h_14 (Array.size h_2) (37 : Nat)
 (16 : Nat) b_2) ∧
 wok h_14 (Array.size h) (0 : Nat) (53 : Nat) ∧
 Vc.Bind
 (TV.put h_14 (Array.size h) (0 : Nat)
 (TV.agg
 [TV.int IntKind.i64 n, TV.int IntKind.i64 n_4,
 TV.bytes (32 : Nat) b, TV.int IntKind.i64 n_5,
 TV.int IntKind.u64 n_6, TV.slice s,
 TV.bytes (16 : Nat) b_2]))
 fun (h_15 : Array Obj) ↦
 ∃ (n : Int),
 ∃ (n_7 : Int),
 ∃ (b : Bs (32 : Nat)),
 ∃ (n_8 : Int),
 ∃ (n_9 : Int),
 ∃ (s : Sl),
 ∃ (b_3 : Bs (16 : Nat)),
 (at1 h_15 (Array.size h) (0 : Nat)
 (Value.int IntKind.i64 n) ∧
 at1 h_15 (Array.size h) (1 : Nat)
 (Value.int IntKind.i64 n_7) ∧
 atBytes h_15 (Array.size h) (2 : Nat)
 (32 : Nat) b ∧
 at1 h_15 (Array.size h) (34 : Nat)
 (Value.int IntKind.i64 n_8) ∧
 at1 h_15 (Array.size h) (35 : Nat)
 (Value.int IntKind.u64 n_9) ∧
 at1 h_15 (Array.size h)
 (36 : Nat) (slVal s) ∧
 atBytes h_15 (Array.size h)
 (37 : Nat) (16 : Nat) b_3) ∧
 R
 (TV.val
 (TV.tup
 [TV.agg
 [TV.int IntKind.i64 n,
 TV.int IntKind.i64 n_7,
 TV.bytes (32 : Nat) b,
 TV.int IntKind.i64 n_8,
 TV.int IntKind.u64 n_9,
 TV.slice s,
 TV.bytes (16 : Nat) b_3],
 TV.bool true]))
 h_15)))))
 fun (J : Bool × Int → Array Obj → Prop) ↦
 ∃ (n : Int),
 at1 h_10 (Array.size h_2) (0 : Nat) (Value.int IntKind.i64 n) ∧
 If (decide (n = (3 : Int)))
 (CallsH Tryz.prog (80 : Nat)
 (TVs.vals [TV.ptr (some (Loc.mk (Array.size h_1) (0 : Nat))), TV.int IntKind.i64 s]) h_10
 fun (v : Value) (h_11 : Array Obj) ↦
 ∃ (s : List UInt8),
 v = TV.val (TV.str s) ∧
 CallsH Tryz.prog (79 : Nat) (TVs.vals [TV.str s, TV.int IntKind.i64 (16 : Int)]) h_11
 fun (v : Value) (h_12 : Array Obj) ↦
 ∃ (s : Sl),
 ∃ (b : Bool),
 v = TV.val (TV.tup [TV.slice s, TV.bool b]) ∧
 If (!b)
 (wok h_12 (Array.size h) (0 : Nat) (53 : Nat) ∧
 Vc.Bind
 (TV.put h_12 (Array.size h) (0 : Nat)
 (TV.agg
 [TV.int IntKind.i64 (0 : Int), TV.int IntKind.i64 (0 : Int),
 TV.bytes (32 : Nat) (Bs.zero (32 : Nat)), TV.int IntKind.i64 (0 : Int),
 TV.int IntKind.u64 (0 : Int), TV.slice Sl.nil,
 TV.bytes (16 : Nat) (Bs.zero (16 : Nat))]))
 fun (h_13 : Array Obj) ↦
 ∃ (n : Int),
 ∃ (n_1 : Int),
 ∃ (b : Bs (32 : Nat)),
 ∃ (n_2 : Int),
 ∃ (n_3 : Int),
 ∃ (s : Sl),
 ∃ (b_1 : Bs (16 : Nat)),
 (at1 h_13 (Array.size h) (0 : Nat) (Value.int IntKind.i64 n) ∧
 at1 h_13 (Array.size h) (1 : Nat) (Value.int IntKind.i64 n_1) ∧
 atBytes h_13 (Array.size h) (2 : Nat) (32 : Nat) b ∧
 at1 h_13 (Array.size h) (34 : Nat) (Value.int IntKind.i64 n_2) ∧
 at1 h_13 (Array.size h) (35 : Nat) (Value.int IntKind.u64 n_3) ∧
 at1 h_13 (Array.size h) (36 : Nat) (slVal s) ∧
 atBytes h_13 (Array.size h) (37 : Nat) (16 : Nat) b_1) ∧
 R
 (TV.val
 (TV.tup
 [TV.agg
 [TV.int IntKind.i64 n, TV.int IntKind.i64 n_1,
 TV.bytes (32 : Nat) b, TV.int IntKind.i64 n_2,
 TV.int IntKind.u64 n_3, TV.slice s, TV.bytes (16 : Nat) b_1],
 TV.bool false]))
 h_13)
 (wok h_12 (Array.size h_2) (36 : Nat) (1 : Nat) ∧
 Vc.Bind (TV.put h_12 (Array.size h_2) (36 : Nat) (TV.slice s)) fun (h : Array Obj) ↦
 J (false, (0 : Int)) h))
 (J (false, s) h_10))
 fun (J : Int → Array Obj → Prop) ↦
 ∃ (n : Int),
 at1 h_9 (Array.size h_2) (0 : Nat) (Value.int IntKind.i64 n) ∧
 If (decide (n = (1 : Int)))
 (CallsH Tryz.prog (78 : Nat)
 (TVs.vals [TV.ptr (some (Loc.mk (Array.size h_1) (0 : Nat))), TV.int IntKind.i64 (8 : Int)]) h_9
 fun (v : Value) (h : Array Obj) ↦
 ∃ (n : Int),
 v = TV.val (TV.int IntKind.u64 n) ∧
 wok h (Array.size h_2) (35 : Nat) (1 : Nat) ∧
 Vc.Bind (TV.put h (Array.size h_2) (35 : Nat) (TV.int IntKind.u64 n)) fun (h : Array Obj) ↦
 J (IntKind.wrap IntKind.i64 (s - (8 : Int))) h)
 (J s h_9))
 fun (J : Int → Array Obj → Prop) ↦
 ∃ (n : Int),
 at1 h_8 (Array.size h_2) (0 : Nat) (Value.int IntKind.i64 n) ∧
 If (decide (n = (1 : Int)))
 (CallsH Tryz.prog (78 : Nat)
 (TVs.vals [TV.ptr (some (Loc.mk (Array.size h_1) (0 : Nat))), TV.int IntKind.i64 (2 : Int)]) h_8
 fun (v : Value) (h : Array Obj) ↦
 ∃ (n : Int),
 v = TV.val (TV.int IntKind.u64 n) ∧
 wok h (Array.size h_2) (34 : Nat) (1 : Nat) ∧
 Vc.Bind (TV.put h (Array.size h_2) (34 : Nat) (TV.int IntKind.i64 (IntKind.wrap IntKind.i64 n)))
 fun (h : Array Obj) ↦
 J
 (IntKind.wrap IntKind.i64
 (IntKind.wrap IntKind.i64
 (IntKind.wrap IntKind.i64 ((↑(List.length s_) : Int) - (37 : Int)) - (16 : Int)) -
 (2 : Int)))
 h)
 (∃ (n : Int),
 at1 h_8 (Array.size h_2) (0 : Nat) (Value.int IntKind.i64 n) ∧
 If (decide (n = (2 : Int)))
 (CallsH Tryz.prog (78 : Nat)
 (TVs.vals [TV.ptr (some (Loc.mk (Array.size h_1) (0 : Nat))), TV.int IntKind.i64 (2 : Int)]) h_8
 fun (v : Value) (h : Array Obj) ↦
 ∃ (n : Int),
 v = TV.val (TV.int IntKind.u64 n) ∧
 wok h (Array.size h_2) (34 : Nat) (1 : Nat) ∧
 Vc.Bind (TV.put h (Array.size h_2) (34 : Nat) (TV.int IntKind.i64 (IntKind.wrap IntKind.i64 n)))
 fun (h : Array Obj) ↦
 J
 (IntKind.wrap IntKind.i64
 (IntKind.wrap IntKind.i64
 (IntKind.wrap IntKind.i64 ((↑(List.length s_) : Int) - (37 : Int)) - (16 : Int)) -
 (2 : Int)))
 h)
 (J (IntKind.wrap IntKind.i64 (IntKind.wrap IntKind.i64 ((↑(List.length s_) : Int) - (37 : Int)) - (16 : Int)))
 h_8))))

theorem tollerref07_Decode_calls (s_ : List UInt8) (h : Heap) (R : Value → Heap → Prop) (H : tollerref07_Decode_vc s_ h R) : CallsH Tryz.prog 48 (TVs.vals [TV.str s_]) h R :=
 vcFn_sound (C := ctx) ctx_ok (fn := Tryz.f48) Tryz.func48 ((by kernel_rfl : tollerref07_Decode_vc s_ h R = vcFn ctx Tryz.f48 [TV.str s_] h R) ▸ H)


end Go.Proofs.YtldocdpdjdekiaaGreat
end

section
/- The document's way from bytes to a message. -/
namespace Go.Proofs.YtldocdpdjdekiaaGreat.Board
open Go Go.Vc

theorem topBit_is {c : UInt8} {k : Nat} (h8 : k < 8) (hy : bitAt c k = true) (hn : ∀ j, k < j → j < 8 → bitAt c j = false) : c ≠ 0 ∧ topBit c = k := by
  have hc : c ≠ 0 := by
    rintro rfl
    rw [bit_zero] at hy
    cases hy
  refine ⟨hc, ?_⟩
  have h1 := topBit_lt hc
  have h2 := topBit_yes hc
  rcases Nat.lt_trichotomy (topBit c) k with h | h | h
  · rw [topBit_no hc h h8] at hy; cases hy
  · exact h
  · rw [hn _ h h1] at h2; cases h2

theorem zero_byte {c : UInt8} (hn : ∀ j, j < 8 → bitAt c j = false) : c = 0 := by
  apply Classical.byContradiction
  intro h
  have h1 := topBit_yes h
  rw [hn _ (topBit_lt h)] at h1
  cases h1

theorem bits8_take {c : UInt8} {k : Nat} (h : k < 8) : (bits8 c).take (k + 1) = (bits8 c).take k ++ [bitAt c k] := by
  refine take_snoc ?_
  simp [bits8, h]

section
variable {R : Value → Heap → Prop} {h : Heap}

set_option maxRecDepth 100000 in
set_option maxHeartbeats 1000000 in
theorem docget_spec {s : List UInt8} (hs : s.length < 1000) (hn : getF s 16 = none → ∀ h' t, Ext h h' → R (TV.tup [.slice t, .bool false]).val h')
    (hy : ∀ row h' t, getF s 16 = some row → Elems 1 h' t (bools row) → Ext h h' → (∀ l, t.a = some l → h.size ≤ l.b ∧ l.b < h'.size) → R (TV.tup [.slice t, .bool true]).val h') :
    CallsH Tryz.prog 79 (TVs.vals [.str s, .int .i64 16]) h R := by
  apply tollerref02_Get_calls
  unfold tollerref02_Get_vc
  refine ⟨fun σ hh => 0 ≤ σ.2 ∧ σ.2 ≤ s.length ∧ Own 4 1 hh σ.1 (bools (bitsOf (s.take σ.2.toNat))) ∧ (∀ l, σ.1.a = some l → h.size ≤ l.b) ∧ Ext h hh, fun σ _ => ((s.length : Int) - σ.2).toNat,
    ⟨Int.le_refl 0, by first | omega | (dsimp only; omega), Own.nil _ _ _, (fun l hl => by cases hl), Ext.refl _⟩, ?_⟩
  rintro ⟨t, i⟩ h1 ⟨i0, i1, o1, b1, x1⟩
  dsimp only at i0 i1 o1 b1 x1 ⊢
  refine If.dec.2 ⟨fun hi => ⟨i0, hi, ?_⟩, fun hi => ?_⟩
  · have hc := (s.getD i.toNat 0).toNat_lt
    have hget : s[i.toNat]? = some (s.getD i.toNat 0) := by rw [List.getD_eq_getElem?_getD, List.getElem?_eq_getElem (by omega)]; rfl
    have htk : bitsOf (s.take (i.toNat + 1)) = bitsOf (s.take i.toNat) ++ bits8 (s.getD i.toNat 0) := by rw [take_snoc hget, bitsOf_snoc]
    generalize s.getD i.toNat 0 = c at hc htk
    rw [wrap_i64 (n := (c.toNat : Int)) (by omega) (by omega)]
    refine ⟨fun σ hh => 0 ≤ σ.2.2 ∧ σ.2.2 ≤ 8 ∧ Own 4 1 hh σ.1 (bools (bitsOf (s.take i.toNat) ++ (bits8 c).take σ.2.2.toNat)) ∧ (∀ l, σ.1.a = some l → h.size ≤ l.b) ∧ Ext h hh ∧ σ.2.1 = ((c.toNat / 2 ^ σ.2.2.toNat : Nat) : Int), fun σ _ => ((8 : Int) - σ.2.2).toNat,
      ⟨Int.le_refl 0, by first | omega | (dsimp only; omega), by simpa using o1, b1, x1, by simp⟩, ?_⟩
    rintro ⟨t2, u, k⟩ h2 ⟨k0, k1, o2, b2, x2, hu⟩
    dsimp only at k0 k1 o2 b2 x2 hu ⊢
    refine If.dec.2 ⟨fun hk => ⟨by decide, ?_⟩, fun hk => ?_⟩
    · have hbit : decide (Int.tmod u 2 = 1) = bitAt c k.toNat := by
        unfold bitAt
        rw [hu, Int.tmod_eq_emod_of_nonneg (Int.natCast_nonneg _)]
        apply decide_eq_decide.2
        omega
      have ol := o2.len
      rw [List.length_map, List.length_append, bitsOf_length, List.length_take, List.length_take, bits8_length] at ol
      rw [hbit]
      refine append1 (C := ctx) (T := 4) (sz := 1) (x := .bool (bitAt c k.toNat)) sz4 zz4 (by rw [b4]; decide) (by rw [b4]; omega) o2 rfl rfl fun t3 h3 o3 f3 b3 => ⟨by decide, ?_⟩
      have z2 := x2.size
      have hdiv : Int.tdiv u 2 = ((c.toNat / 2 ^ (k.toNat + 1) : Nat) : Int) := by
        rw [hu, Int.tdiv_eq_ediv_of_nonneg (Int.natCast_nonneg _), Nat.pow_succ, ← Nat.div_div_eq_div_mul]
        omega
      have hle : c.toNat / 2 ^ (k.toNat + 1) ≤ c.toNat := Nat.div_le_self _ _
      have hk1 : (k + 1).toNat = k.toNat + 1 := by omega
      obtain ⟨Q, hQ⟩ : ∃ Q, Q = c.toNat / 2 ^ (k.toNat + 1) := ⟨_, rfl⟩
      rw [← hQ] at hdiv hle
      rw [hdiv, wrap_i64 (n := (Q : Int)) (by omega) (by omega), wrap_i64 (n := k + 1) (by omega) (by omega)]
      refine ⟨⟨by first | omega | (dsimp only; omega), by first | omega | (dsimp only; omega), ?_, fun p hp => ?_, Only.cut x2 f3 fun j ⟨p, hp, hj⟩ => by have := b2 p hp; omega, by rw [hk1, hQ]⟩, by first | omega | (dsimp only; omega)⟩
      · try dsimp only
        rw [hk1, bits8_take (by omega), ← List.append_assoc]
        simpa [bools] using o3
      · rcases b3 p hp with ⟨p', h1', h2'⟩ | h1'
        · have := b2 p' h1'; omega
        · omega
    · have hk8 : k.toNat = 8 := by omega
      have hb8 : (bits8 c).take 8 = bits8 c := List.take_of_length_le (by rw [bits8_length]; exact Nat.le_refl 8)
      rw [hk8, hb8, ← htk] at o2
      rw [wrap_i64 (n := i + 1) (by omega) (by omega)]
      refine ⟨⟨by first | omega | (dsimp only; omega), by first | omega | (dsimp only; omega), ?_, b2, x2⟩, by first | omega | (dsimp only; omega)⟩
      try dsimp only
      rw [show (i + 1).toNat = i.toNat + 1 by omega]
      exact o2
  · have hin : i.toNat = s.length := by omega
    rw [hin, List.take_length] at o1
    have ol := o1.len
    rw [List.length_map, bitsOf_length] at ol
    have hbget := bitsOf_get s
    have hw1 : IntKind.wrap .i64 ((t.len : Int) - 1) = (t.len : Int) - 1 := wrap_i64 (by omega) (by omega)
    have hw8 : IntKind.wrap .i64 ((t.len : Int) - 8) = (t.len : Int) - 8 := wrap_i64 (by omega) (by omega)
    rw [hw1, hw8]
    refine ⟨fun σ hh => -1 ≤ σ.2.2 ∧ σ.2.2 < t.len ∧ (t.len : Int) - 9 ≤ σ.2.2 ∧ hh = h1 ∧ ∀ j : Nat, σ.2.2 < j → j < t.len → (bitsOf s)[j]? = some false, fun σ _ => (σ.2.2 + 1).toNat,
      ⟨by first | omega | (dsimp only; omega), by first | omega | (dsimp only; omega), by first | omega | (dsimp only; omega), rfl, fun j h1' h2' => by dsimp only at h1'; omega⟩, ?_⟩
    rintro ⟨t0, b0, n⟩ hh ⟨n0, n1, n2, rfl, hall⟩
    dsimp only at n0 n1 n2 hall ⊢
    intro J HJ
    have lastF : ∀ (L : Nat), s.length = L + 1 → s.getLastD 0 = s.getD L 0 := by
      intro L hL
      have := last_get (s := s) (by intro he; rw [he] at hL; simp at hL)
      rw [← this, hL]
      rfl
    refine If.dec.2 ⟨fun hn0 => If.dec.2 ⟨fun hn8 => HJ _ _ ?_, fun hn8 => ?_⟩, fun hn0 => ?_⟩
    · refine read_bool o1.elems hn0 (by rw [bitsOf_length]; omega) fun x hx => ?_
      have hns := hbget n.toNat (by omega)
      rw [hns] at hx
      refine If.split (fun hb => ⟨hn0, by have := o1.cap; omega, ?_⟩) fun hb => ?_
      · obtain ⟨L, hL⟩ : ∃ L, s.length = L + 1 := ⟨s.length - 1, by omega⟩
        have hdiv : n.toNat / 8 = L := by omega
        have hx' : bitAt (s.getLastD 0) (n.toNat % 8) = true := by
          rw [lastF L hL, ← hdiv, Option.some.inj hx]; exact hb
        obtain ⟨hc, htop⟩ := topBit_is (Nat.mod_lt _ (by decide)) hx' fun j h1' h2' => by
          have h3' := hall (8 * L + j) (by omega) (by omega)
          rw [hbget _ (by omega), show (8 * L + j) / 8 = L by omega, show (8 * L + j) % 8 = j by omega, ← lastF L hL] at h3'
          exact Option.some.inj h3'
        have hrl : rowLen s = n.toNat := by unfold rowLen; rw [htop]; omega
        have hg : getF s 16 = if 16 < n.toNat then none else some ((bitsOf s).take n.toNat) := by
          unfold getF
          rw [if_neg (by rintro (h1 | h1); rw [h1] at hL; simp at hL; exact hc h1), hrl]
        by_cases h16 : n ≤ 16
        · rw [decide_eq_true h16]
          rw [if_neg (by omega)] at hg
          refine hy _ hh _ hg ?_ x1 fun l hl => (fun hl' => ⟨b1 l hl', o1.lt l hl'⟩) ?_
          · have := cut_prefix (n := n.toNat) o1.elems (by rw [List.length_map, bitsOf_length]; omega)
            rw [← List.map_take] at this
            exact this
          · have ha : (cutSl t 0 n.toNat 1).a = t.a := by
              unfold cutSl
              cases t.a with
              | none => simp
              | some l => simp
            rw [← ha]
            exact hl
        · rw [decide_eq_false h16]
          rw [if_pos (by omega)] at hg
          exact hn hg hh _ x1
      · rw [wrap_i64 (n := n - 1) (by omega) (by omega)]
        have hb' : x = false := by simpa using hb
        refine ⟨⟨by first | omega | (dsimp only; omega), by first | omega | (dsimp only; omega), by first | omega | (dsimp only; omega), rfl, fun j h1' h2' => ?_⟩, by first | omega | (dsimp only; omega)⟩
        try dsimp only at h1'
        by_cases hj : j = n.toNat
        · rw [hj, hns, hx, hb']
        · exact hall j (by omega) h2'
    · obtain ⟨L, hL⟩ : ∃ L, s.length = L + 1 := ⟨s.length - 1, by omega⟩
      refine hn ?_ hh _ x1
      have hz : s.getLastD 0 = 0 := zero_byte fun j hj => by
        have h3' := hall (8 * L + j) (by omega) (by omega)
        rw [hbget _ (by omega), show (8 * L + j) / 8 = L by omega, show (8 * L + j) % 8 = j by omega, ← lastF L hL] at h3'
        exact Option.some.inj h3'
      unfold getF
      rw [if_pos (.inr hz)]
    · refine hn ?_ hh _ x1
      by_cases he : s = []
      · unfold getF
        rw [if_pos (.inl he)]
      · obtain ⟨L, hL⟩ : ∃ L, s.length = L + 1 := ⟨s.length - 1, by have := List.length_pos_iff.2 he; omega⟩
        have hz : s.getLastD 0 = 0 := zero_byte fun j hj => by
          have h3' := hall (8 * L + j) (by omega) (by omega)
          rw [hbget _ (by omega), show (8 * L + j) / 8 = L by omega, show (8 * L + j) % 8 = j by omega, ← lastF L hL] at h3'
          exact Option.some.inj h3'
        unfold getF
        rw [if_pos (.inr hz)]

/-! ### Messages -/

structure DD (h hh : Heap) (q mb : Nat) (s : List UInt8) (at_ : Nat) (sh : Bool) (m : Ms) : Prop where
  rd : RdD hh q s at_ sh
  msg : Var 58 hh mb m.tv
  ans : Var 58 hh h.size zeroM.tv
  only : Only (fun i => h.size ≤ i) h hh
  q0 : h.size < q
  m0 : q < mb

section
variable {hh : Heap} {q mb : Nat} {s : List UInt8} {at_ : Nat} {sh : Bool} {m : Ms}

theorem DD.ext (d : DD h hh q mb s at_ sh m) : Ext h hh := Only.cut (Ext.refl h) d.only fun _ hi => hi
theorem DD.more {h' : Heap} (d : DD h hh q mb s at_ sh m) (x : Ext hh h') : DD h h' q mb s at_ sh m := ⟨Var.ext d.rd x, d.msg.ext x, d.ans.ext x, d.only.trans (Only.of_ext x), d.q0, d.m0⟩
theorem DD.read {h' : Heap} {at2 : Nat} {sh' : Bool} (d : DD h hh q mb s at_ sh m) (v : RdD h' q s at2 sh') (f : Only (fun i => i = q ∨ hh.size ≤ i) hh h') : DD h h' q mb s at2 sh' m :=
  ⟨v, d.msg.only f (by have := d.m0; have := d.msg.lt; omega), d.ans.only f (by have := d.q0; have := d.ans.lt; omega), d.only.trans (f.mono fun i hi => by have := d.q0; have := d.msg.lt; have := d.ans.lt; omega), d.q0, d.m0⟩
theorem DD.write {h' : Heap} {m' : Ms} (d : DD h hh q mb s at_ sh m) (v : Var 58 h' mb m'.tv) (f : Only (· = mb) hh h') : DD h h' q mb s at_ sh m' :=
  ⟨Var.only d.rd f (by have := d.m0; omega), v, d.ans.only f (by have := d.m0; have := d.q0; omega), d.only.trans (f.mono fun i hi => by have := d.q0; have := d.m0; omega), d.q0, d.m0⟩
end

theorem atD_ok {s : List UInt8} {a n : Nat} (h : a + n ≤ s.length) : atD s a false (n : Int) = a + n := by
  unfold atD
  rw [if_neg (by rintro (h1 | h1 | h1) <;> first | cases h1 | omega)]
  rfl


theorem w16 {l : List UInt8} (hl : l.length ≤ 2) : IntKind.wrap .i64 ((num l : Nat) : Int) = ((num l : Nat) : Int) := by
  have h1' := num_lt l
  have h3' : 256 ^ l.length ≤ 256 ^ 2 := Nat.pow_le_pow_right (by decide) hl
  rw [wrap_i64 (by omega) (by omega)]

theorem w32 {l : List UInt8} (hl : l.length ≤ 4) : IntKind.wrap .i64 ((num l : Nat) : Int) = ((num l : Nat) : Int) := by
  have h1' := num_lt l
  have h3' : 256 ^ l.length ≤ 256 ^ 4 := Nat.pow_le_pow_right (by decide) hl
  have h4' : 256 ^ 4 = 4294967296 := by decide
  rw [wrap_i64 (by omega) (by omega)]

theorem num1 {s : List UInt8} {a : Nat} (h : a < s.length) : num ((s.drop a).take 1) = (s.getD a 0).toNat := by
  rw [List.drop_eq_getElem_cons h, List.take_succ_cons, List.take_zero, num, num, List.getD_eq_getElem?_getD, List.getElem?_eq_getElem h]
  simp

theorem wrap_byte (c : UInt8) : IntKind.wrap .u8 ((c.toNat : Nat) : Int) = (c.toNat : Int) := by
  have := c.toNat_lt
  rw [wrap_u8]
  omega

theorem byte_is {c : UInt8} (k : UInt8) : ((c.toNat : Nat) : Int) = (k.toNat : Int) ↔ c = k := ⟨fun h => UInt8.toNat_inj.1 (by omega), fun h => by rw [h]⟩

theorem dec_53 {s : List UInt8} (h : s.length = 53) : decF s = none := by
  by_cases h1 : s.getD 0 0 = 1
  · rw [dec_one (by omega) h1, if_neg (by omega)]
  · by_cases h2 : s.getD 0 0 = 2
    · rw [dec_two (by omega) h2, if_neg (by omega)]
    · by_cases h3 : s.getD 0 0 = 3
      · rw [dec_three (by omega) h3, h]
        rfl
      · exact dec_other h1 h2 h3

theorem bsOf_zero (n : Nat) : bsOf n [] = Bs.zero n := by
  apply Bs.ext'
  simp [bsOf, Bs.zero]

set_option maxHeartbeats 2000000 in
set_option maxRecDepth 100000 in
theorem docdecode_spec {s : List UInt8} (hs : s.length < 1000) (hn : decF s = none → ∀ h', Ext h h' → R (TV.tup [zeroM.tv, .bool false]).val h')
    (hy : ∀ d h' b, decF s = some d → Elems 1 h' b (bools d.row) → Ext h h' → (∀ l, b.a = some l → h.size ≤ l.b ∧ l.b < h'.size) → R (TV.tup [(d.ms b).tv, .bool true]).val h') : CallsH Tryz.prog 48 (TVs.vals [.str s]) h R := by
  apply tollerref07_Decode_calls
  unfold tollerref07_Decode_vc
  refine newTV_in fun h1 v1 x1 s1 => ?_
  have v1 : Var 58 h1 h.size zeroM.tv := v1
  refine If.dec.2 ⟨fun h54 => ?_, fun h54 => ?_⟩
  · refine put_n (t := zeroM.tv) v1 mssz1 mssz fun h9 v9 f9 s9 => ms_at v9 (hn ?_ h9 (Only.cut x1 f9 fun i hi => by omega))
    by_cases h53 : s.length < 53
    · exact dec_short h53
    · exact dec_53 (by omega)
  have h54 : 54 ≤ s.length := by omega
  refine newTV_in fun h2 v2 x2 s2 => newTV_in fun h3 v3 x3 s3 => ?_
  have v3 : Var 58 h3 h2.size zeroM.tv := v3
  have d3 : DD h h3 h1.size h2.size s 0 false zeroM := ⟨Var.ext v2 x3, v3, (v1.ext x2).ext x3, Only.of_ext ((x1.trans x2).trans x3), by omega, by omega⟩
  refine duint_spec d3.rd (Nat.zero_le _) (by omega) (by decide) fun h4 r4 f4 => ⟨_, rfl, ?_⟩
  have e1 : rdB (s.drop 0) false 1 = ((s.drop 0).take 1, s.drop 1, false) := rdB_at (a := 0) (n := 1) (by omega)
  have a1 : atD s 0 false 1 = 1 := atD_ok (a := 0) (n := 1) (by omega)
  rw [a1, e1] at r4
  rw [e1]
  have d4 := d3.read r4 f4
  dsimp only
  rw [num1 (by omega)]
  have hc0 := (s.getD 0 0).toNat_lt
  have hw0 : IntKind.wrap .i64 (((s.getD 0 0).toNat : Nat) : Int) = ((s.getD 0 0).toNat : Int) := by rw [wrap_i64 (by omega) (by omega)]
  rw [hw0]
  generalize h1.size = q at *
  generalize h2.size = mb at *
  refine field_in (i := 0) (t := .int .i64 ((s.getD 0 0).toNat : Int)) (t0 := .int .i64 0) d4.msg rfl rfl rfl rfl fun h5 v5 f5 s5 => ?_
  have d5 : DD h h5 q mb s 1 false (Ms.mk ((s.getD 0 0).toNat : Int) 0 (Bs.zero 32) 0 0 Sl.nil (Bs.zero 16)) := d4.write v5 f5
  obtain ⟨K, hK⟩ : ∃ K : Int, K = ((s.getD 0 0).toNat : Int) := ⟨_, rfl⟩
  rw [← hK] at d5
  refine duint_spec d5.rd (by omega) (by omega) (by decide) fun h6 r6 f6 => ⟨_, rfl, ?_⟩
  have e2 : rdB (s.drop 1) false 4 = ((s.drop 1).take 4, s.drop 5, false) := rdB_at (a := 1) (n := 4) (by omega)
  have a2 : atD s 1 false 4 = 5 := atD_ok (a := 1) (n := 4) (by omega)
  rw [a2, e2] at r6
  rw [e2]
  have d6 := d5.read r6 f6
  dsimp only
  rw [w32 (by rw [List.length_take]; omega)]
  obtain ⟨S, hS⟩ : ∃ S : Int, S = ((num ((s.drop 1).take 4) : Nat) : Int) := ⟨_, rfl⟩
  rw [← hS]
  refine field_in (i := 1) (t := .int .i64 S) (t0 := .int .i64 0) d6.msg rfl rfl rfl rfl fun h7 v7 f7 s7 => ?_
  have d7 : DD h h7 q mb s 5 false (Ms.mk K S (Bs.zero 32) 0 0 Sl.nil (Bs.zero 16)) := d6.write v7 f7
  -- the target
  refine ⟨fun i hh => 0 ≤ i ∧ i ≤ 32 ∧ DD h hh q mb s (5 + i.toNat) false (Ms.mk K S (bsOf 32 ((s.drop 5).take i.toNat)) 0 0 Sl.nil (Bs.zero 16)), fun i _ => ((32 : Int) - i).toNat, ⟨Int.le_refl 0, by decide, ?_⟩, ?_⟩
  · have : bsOf 32 ((s.drop 5).take (0 : Int).toNat) = Bs.zero 32 := bsOf_zero 32
    rw [this]
    exact d7
  rintro i h8 ⟨i0, i1, d8⟩
  refine If.dec.2 ⟨fun hi => ?_, fun hi => ?_⟩
  · refine duint_spec d8.rd (by omega) (by omega) (by decide) fun h9 r9 f9 => ⟨_, rfl, i0, hi, ?_⟩
    have e3 : rdB (s.drop (5 + i.toNat)) false 1 = ((s.drop (5 + i.toNat)).take 1, s.drop (5 + i.toNat + 1), false) := rdB_at (n := 1) (by omega)
    have a3 : atD s (5 + i.toNat) false 1 = 5 + i.toNat + 1 := atD_ok (n := 1) (by omega)
    rw [a3, e3] at r9
    rw [e3]
    have d9 := d8.read r9 f9
    dsimp only
    have hb := (s.getD (5 + i.toNat) 0).toNat_lt
    have hget : (s.drop 5)[i.toNat]? = some (s.getD (5 + i.toNat) 0) := by rw [List.getElem?_drop, List.getD_eq_getElem?_getD, List.getElem?_eq_getElem (by omega)]; rfl
    rw [num1 (by omega), wrap_byte]
    refine byte_field (i := 2) (o := 2) (k := i.toNat) d9.msg rfl rfl (by omega) (by omega) (by omega) (by omega) fun h10 v10 f10 s10 => ?_
    rw [Int.toNat_natCast, UInt8.ofNat_toNat, bsOf_snoc hget (by omega)] at v10
    rw [wrap_i64 (n := i + 1) (by omega) (by omega)]
    refine ⟨⟨by omega, by omega, ?_⟩, by first | omega | (dsimp only; omega)⟩
    rw [show (i + 1).toNat = i.toNat + 1 by omega]
    exact d9.write v10 f10
  have hi32 : i.toNat = 32 := by omega
  rw [hi32] at d8
  obtain ⟨T, hT⟩ : ∃ T, T = bsOf 32 ((s.drop 5).take 32) := ⟨_, rfl⟩
  rw [← hT] at d8
  have d8 : DD h h8 q mb s 37 false (Ms.mk K S T 0 0 Sl.nil (Bs.zero 16)) := d8
  have no : ∀ hh a sh m, DD h hh q mb s a sh m → decF s = none → wok hh h.size 0 53 ∧ Bind (TV.put hh h.size 0 zeroM.tv) fun (h_2 : Heap) =>
      ∃ (n : Int), ∃ (n_1 : Int), ∃ (b_ : Bs 32), ∃ (n_2 : Int), ∃ (n_3 : Int), ∃ (s : Sl), ∃ (b_1 : Bs 16), (at1 h_2 h.size 0 (.int .i64 n) ∧ at1 h_2 h.size 1 (.int .i64 n_1) ∧ atBytes h_2 h.size 2 32 b_ ∧ at1 h_2 h.size 34 (.int .i64 n_2) ∧ at1 h_2 h.size 35 (.int .u64 n_3) ∧ at1 h_2 h.size 36 (slVal s) ∧ atBytes h_2 h.size 37 16 b_1) ∧
        R (TV.tup [.agg [.int .i64 n, .int .i64 n_1, .bytes 32 b_, .int .i64 n_2, .int .u64 n_3, .slice s, .bytes 16 b_1], .bool false]).val h_2 := by
    intro hh a sh m d hd
    refine put_n (t := zeroM.tv) d.ans mssz1 mssz fun h9 v9 f9 s9 => ms_at v9 ?_
    exact hn hd h9 (Only.cut d.ext f9 fun i hi => by omega)
  have kOne : K = 1 ↔ s.getD 0 0 = 1 := by rw [hK]; exact byte_is 1
  have kTwo : K = 2 ↔ s.getD 0 0 = 2 := by rw [hK]; exact byte_is 2
  have kThr : K = 3 ↔ s.getD 0 0 = 3 := by rw [hK]; exact byte_is 3
  have wr : ∀ n : Nat, n ≤ s.length → IntKind.wrap .i64 ((s.length : Int) - (n : Int)) = (s.length : Int) - (n : Int) := fun n h => wrap_i64 (by omega) (by omega)
  have w37 : IntKind.wrap .i64 ((s.length : Int) - 37) = (s.length : Int) - 37 := wrap_i64 (by omega) (by omega)
  have w53 : IntKind.wrap .i64 ((s.length : Int) - 37 - 16) = (s.length : Int) - 53 := by rw [wrap_i64 (by omega) (by omega)]; omega
  have w55 : IntKind.wrap .i64 ((s.length : Int) - 53 - 2) = (s.length : Int) - 55 := by rw [wrap_i64 (by omega) (by omega)]; omega
  have w63 : IntKind.wrap .i64 ((s.length : Int) - 55 - 8) = (s.length : Int) - 63 := by rw [wrap_i64 (by omega) (by omega)]; omega
  rw [w37, w53, w55]
  intro J1 HJ1
  obtain ⟨M, hM⟩ : ∃ M : Int, M = ((num ((s.drop 37).take 2) : Nat) : Int) := ⟨_, rfl⟩
  obtain ⟨B, hB⟩ : ∃ B : Int, B = ((num ((s.drop 39).take 8) : Nat) : Int) := ⟨_, rfl⟩
  have fin1 : ∀ hh a mem r, DD h hh q mb s a false (Ms.mk K S T mem 0 Sl.nil (Bs.zero 16)) → ((K = 1 ∨ K = 2) ∧ a = 39 ∧ mem = M ∧ r = (s.length : Int) - 55) ∨ (K ≠ 1 ∧ K ≠ 2 ∧ a = 37 ∧ mem = 0 ∧ r = (s.length : Int) - 53) → J1 r hh := by
    intro hh a mem r d hc
    refine HJ1 r hh ?_
    intro J2 HJ2
    have fin2 : ∀ hh a mem body r, DD h hh q mb s a false (Ms.mk K S T mem body Sl.nil (Bs.zero 16)) → (K = 1 ∧ a = 47 ∧ mem = M ∧ body = B ∧ r = (s.length : Int) - 63) ∨ (K = 2 ∧ a = 39 ∧ mem = M ∧ body = 0 ∧ r = (s.length : Int) - 55) ∨ (K ≠ 1 ∧ K ≠ 2 ∧ a = 37 ∧ mem = 0 ∧ body = 0 ∧ r = (s.length : Int) - 53) → J2 r hh := by
      intro hh a mem body r d hc
      refine HJ2 r hh ?_
      intro J3 HJ3
      have fin3 : ∀ hh a m row r, DD h hh q mb s a false m → m.tag = Bs.zero 16 → Elems 1 hh m.bits (bools row) → row.length < 100000 → (∀ l, m.bits.a = some l → l.b < hh.size ∧ l.b ≠ q ∧ l.b ≠ mb ∧ l.b ≠ h.size ∧ h.size ≤ l.b) → a ≤ s.length → (r = 0 → a + 16 = s.length) → (r ≠ 0 → decF s = none) →
          (r = 0 → decF s = chk ⟨m.kind, m.slot, m.target, m.member, m.body, row, bsOf 16 (s.drop a)⟩) → J3 (false, r) hh := by
        intro hh a m row r d hz e hrl hloc ha hr0 hd1 hd2
        refine HJ3 _ hh ?_
        refine ⟨fun i h' => 0 ≤ i ∧ i ≤ 16 ∧ Only (fun i => i = q ∨ i = mb ∨ hh.size ≤ i) hh h' ∧ ∃ a' sh t, a' ≤ s.length ∧ DD h h' q mb s a' sh { m with tag := t } ∧ (r = 0 → a' = a + i.toNat ∧ sh = false ∧ t = bsOf 16 ((s.drop a).take i.toNat)), fun i _ => ((16 : Int) - i).toNat, ⟨Int.le_refl 0, by decide, Only.refl _ _, a, false, m.tag, ha, d, fun _ => ⟨rfl, rfl, by rw [hz]; exact (bsOf_zero 16).symm⟩⟩, ?_⟩
        rintro i h9 ⟨i0, i1, f9, a', sh, t, ha', d9, hg⟩
        refine If.dec.2 ⟨fun hi => ?_, fun hi => ?_⟩
        · refine duint_spec d9.rd ha' (by omega) (by decide) fun h10 r10 f10 => ⟨_, rfl, i0, hi, ?_⟩
          have d10 := d9.read r10 f10
          have hby := wrap_u8_range ((num (rdB (s.drop a') sh 1).1 : Nat) : Int)
          refine byte_field (i := 6) (o := 37) (k := i.toNat) d10.msg rfl rfl (by omega) (by omega) hby.1 hby.2 fun h11 v11 f11 s11 => ?_
          rw [wrap_i64 (n := i + 1) (by omega) (by omega)]
          have d11 : DD h h11 q mb s _ _ { m with tag := t.set i.toNat (UInt8.ofNat (IntKind.wrap .u8 ((num (rdB (s.drop a') sh 1).1 : Nat) : Int)).toNat) } := d10.write v11 f11
          have z9 := f9.size
          refine ⟨⟨by omega, by omega, (f9.trans (f10.mono fun i hi => by omega)).trans (f11.mono fun i hi => by omega), _, _, _, atD_le ha', d11, fun h0 => ?_⟩, by first | omega | (dsimp only; omega)⟩
          obtain ⟨g1, g2, g3⟩ := hg h0
          have := hr0 h0
          have e3 : rdB (s.drop a') false 1 = ((s.drop a').take 1, s.drop (a' + 1), false) := rdB_at (n := 1) (by omega)
          have a3 : atD s a' false 1 = a' + 1 := atD_ok (n := 1) (by omega)
          have hget : (s.drop a)[i.toNat]? = some (s.getD a' 0) := by rw [List.getElem?_drop, g1, List.getD_eq_getElem?_getD, List.getElem?_eq_getElem (by omega)]; rfl
          rw [g2, a3, e3, g3]
          dsimp only
          rw [num1 (by omega), wrap_byte, Int.toNat_natCast, UInt8.ofNat_toNat, bsOf_snoc hget (by omega), show (i + 1).toNat = i.toNat + 1 by omega]
          exact ⟨by omega, rfl, rfl⟩
        · have hi16 : i.toNat = 16 := by omega
          rw [hi16] at hg
          dsimp only
          refine If.split (fun hb => no h9 _ _ _ d9 (hd1 (by simpa using hb))) fun hb => ?_
          have h0 : r = 0 := by simpa using hb
          obtain ⟨g1, g2, g3⟩ := hg h0
          have hal := hr0 h0
          have hdec := hd2 h0
          refine dend_spec d9.rd ha' ⟨_, rfl, ?_⟩
          have hend : (!sh && decide (s.drop a' = [])) = true := by rw [g2, List.drop_of_length_le (by omega)]; rfl
          rw [hend]
          rw [List.take_of_length_le (by rw [List.length_drop]; omega)] at g3
          subst g3
          have e9 : Elems 1 h9 m.bits (bools row) := e.only f9 fun l hl => by have := hloc l hl; omega
          refine If.no (ms_at d9.msg ?_)
          refine docgood_spec (m := { m with tag := bsOf 16 (s.drop a) }) (row := row) e9 hrl fun h11 x11 => ⟨_, rfl, ?_⟩
          have d11 := d9.more x11
          unfold chk at hdec
          have hgm : goodF { m with tag := bsOf 16 (s.drop a) } row = goodF ((Dm.mk m.kind m.slot m.target m.member m.body row (bsOf 16 (s.drop a))).ms Sl.nil) row := rfl
          rw [hgm]
          cases hgood : goodF ((Dm.mk m.kind m.slot m.target m.member m.body row (bsOf 16 (s.drop a))).ms Sl.nil) row with
          | false =>
            refine If.yes (no h11 _ _ _ d11 ?_)
            rw [hdec, if_neg]
            show ¬ goodF _ row = true
            rw [hgood]
            decide
          | true =>
            refine If.no (ms_at d11.msg ?_)
            refine put_n d11.ans (t := ({ m with tag := bsOf 16 (s.drop a) } : Ms).tv) mssz1 mssz fun h12 v12 f12 s12 => ms_at v12 ?_
            have hd : decF s = some (Dm.mk m.kind m.slot m.target m.member m.body row (bsOf 16 (s.drop a))) := by rw [hdec]; exact if_pos hgood
            have x12 : Ext h h12 := Only.cut d11.ext f12 fun i hi => by omega
            exact hy _ h12 m.bits hd ((e9.ext x11).only f12 fun l hl => (hloc l hl).2.2.2.1) x12 fun l hl => by
              have g := hloc l hl
              have g1 := f9.size
              have g3 := x11.size
              have g4 := f12.size
              exact ⟨g.2.2.2.2, by omega⟩
      clear HJ3
      refine ⟨K, d.msg.at1 rfl, If.dec.2 ⟨fun k3 => ?_, fun k3 => ?_⟩⟩
      · have hc : a = 37 ∧ mem = 0 ∧ body = 0 ∧ r = (s.length : Int) - 53 := by
          rcases hc with hc | hc | hc
          · omega
          · omega
          · exact hc.2.2
        obtain ⟨rfl, rfl, rfl, rfl⟩ := hc
        refine dbytes_spec d.rd (by omega) (by omega) (by omega) fun h9 r9 f9 => ⟨_, rfl, ?_⟩
        have e0 : (s.length : Int) - 53 = ((s.length - 53 : Nat) : Int) := by omega
        have e1 : rdB (s.drop 37) false ((s.length : Int) - 53) = ((s.drop 37).take (s.length - 53), s.drop (s.length - 16), false) := by
          rw [e0, rdB_at (by omega), show 37 + (s.length - 53) = s.length - 16 by omega]
        have a1 : atD s 37 false ((s.length : Int) - 53) = s.length - 16 := by rw [e0, atD_ok (by omega)]; omega
        rw [e1, a1] at r9
        rw [e1]
        have d9 := d.read r9 (f9.mono fun i hi => .inl hi)
        have hz9 := d9.msg.lt
        have hq := d9.m0
        have hq0 := d9.q0
        dsimp only
        refine docget_spec (by rw [List.length_take, List.length_drop]; omega) (fun hno h10 t x10 => ⟨_, _, rfl, If.yes (no h10 _ _ _ (d9.more x10) ?_)⟩) fun row h10 t hrow o10 x10 loc10 => ⟨_, _, rfl, If.no ?_⟩
        · rw [dec_three (by omega) (kThr.1 k3), hno]
        · have d10 := d9.more x10
          refine field_in (i := 5) (t := .slice t) (t0 := .slice Sl.nil) d10.msg rfl rfl rfl rfl fun h11 v11 f11 s11 => ?_
          have d11 : DD h h11 q mb s (s.length - 16) false (Ms.mk K S T 0 0 t (Bs.zero 16)) := d10.write v11 f11
          have hrl : row.length ≤ 16 := by
            unfold getF at hrow
            split at hrow
            · cases hrow
            · split at hrow
              · cases hrow
              · rw [← Option.some.inj hrow, List.length_take]; omega
          have hdec : decF s = chk ⟨3, ((num ((s.drop 1).take 4) : Nat) : Int), bsOf 32 ((s.drop 5).take 32), 0, 0, row, bsOf 16 (s.drop (s.length - 16))⟩ := by
            rw [dec_three (by omega) (kThr.1 k3), hrow]
          refine fin3 h11 _ _ row 0 d11 rfl (o10.only f11 fun l hl => by have := loc10 l hl; omega) (by omega) (fun l hl => by have := loc10 l hl; have := f11.size; omega) (by omega) (fun _ => by omega) (fun h => absurd rfl h) fun _ => ?_
          rw [hdec, hS, hT, k3]
      · refine fin3 hh a _ [] r d rfl (Elems.nil_ 1 hh) (by decide) (fun l hl => by cases hl) (by omega) (fun h0 => by omega) (fun h0 => ?_) fun h0 => ?_
        · rcases hc with hc | hc | hc
          · rw [dec_one (by omega) (kOne.1 hc.1), if_neg (by omega)]
          · rw [dec_two (by omega) (kTwo.1 hc.1), if_neg (by omega)]
          · exact dec_other (fun h => hc.1 (kOne.2 h)) (fun h => hc.2.1 (kTwo.2 h)) (fun h => k3 (kThr.2 h))
        · rcases hc with hc | hc | hc
          · obtain ⟨g1, rfl, rfl, rfl, g5⟩ := hc
            rw [dec_one (by omega) (kOne.1 g1), if_pos (by omega), hS, hT, hM, hB, g1]
          · obtain ⟨g1, rfl, rfl, rfl, g5⟩ := hc
            rw [dec_two (by omega) (kTwo.1 g1), if_pos (by omega), hS, hT, hM, g1]
          · omega
    clear HJ2
    refine ⟨K, d.msg.at1 rfl, If.dec.2 ⟨fun k1 => ?_, fun k1 => ?_⟩⟩
    · have hc : a = 39 ∧ mem = M ∧ r = (s.length : Int) - 55 := by
        rcases hc with hc | hc
        · exact hc.2
        · exact absurd k1 hc.1
      obtain ⟨rfl, rfl, rfl⟩ := hc
      refine duint_spec d.rd (by omega) (by omega) (by decide) fun h9 r9 f9 => ⟨_, rfl, ?_⟩
      have e1 : rdB (s.drop 39) false 8 = ((s.drop 39).take 8, s.drop 47, false) := rdB_at (a := 39) (n := 8) (by omega)
      have a1 : atD s 39 false 8 = 47 := atD_ok (a := 39) (n := 8) (by omega)
      rw [a1, e1] at r9
      rw [e1]
      have d9 := d.read r9 f9
      dsimp only
      rw [← hB, w63]
      refine field_in (i := 4) (t := .int .u64 B) (t0 := .int .u64 0) d9.msg rfl rfl rfl rfl fun h10 v10 f10 s10 => ?_
      have d10 : DD h h10 q mb s 47 false (Ms.mk K S T mem B Sl.nil (Bs.zero 16)) := d9.write v10 f10
      exact fin2 h10 47 mem B _ d10 (.inl ⟨k1, rfl, rfl, rfl, rfl⟩)
    · refine fin2 hh a mem 0 r d ?_
      rcases hc with hc | hc
      · rcases hc.1 with g | g
        · exact absurd g k1
        · exact .inr (.inl ⟨g, hc.2.1, hc.2.2.1, rfl, hc.2.2.2⟩)
      · exact .inr (.inr ⟨hc.1, hc.2.1, hc.2.2.1, hc.2.2.2.1, rfl, hc.2.2.2.2⟩)
  clear HJ1
  have read2 : ∀ (P : Int → Heap → Prop), (∀ h' , DD h h' q mb s 39 false (Ms.mk K S T M 0 Sl.nil (Bs.zero 16)) → P ((s.length : Int) - 55) h') → K = 1 ∨ K = 2 →
      CallsH Tryz.prog 78 (TVs.vals [TV.ptr (some (Vc.Loc.mk q 0)), TV.int .i64 2]) h8 fun (v : Value) (h : Heap) => ∃ (n : Int), v = TV.val (TV.int .u64 n) ∧ wok h mb 34 1 ∧ Bind (TV.put h mb 34 (TV.int .i64 (IntKind.wrap .i64 n))) fun (h : Heap) => P ((s.length : Int) - 55) h := by
    intro P hP hk
    refine duint_spec d8.rd (by omega) (by omega) (by decide) fun h9 r9 f9 => ⟨_, rfl, ?_⟩
    have e1 : rdB (s.drop 37) false 2 = ((s.drop 37).take 2, s.drop 39, false) := rdB_at (a := 37) (n := 2) (by omega)
    have a1 : atD s 37 false 2 = 39 := atD_ok (a := 37) (n := 2) (by omega)
    rw [a1, e1] at r9
    rw [e1]
    have d9 := d8.read r9 f9
    dsimp only
    rw [w16 (by rw [List.length_take]; omega), ← hM]
    refine field_in (i := 3) (t := .int .i64 M) (t0 := .int .i64 0) d9.msg rfl rfl rfl rfl fun h10 v10 f10 s10 => ?_
    exact hP h10 (d9.write v10 f10)
  refine ⟨K, d8.msg.at1 rfl, If.dec.2 ⟨fun k1 => ?_, fun k1 => ⟨K, d8.msg.at1 rfl, If.dec.2 ⟨fun k2 => ?_, fun k2 => ?_⟩⟩⟩⟩
  · exact read2 J1 (fun h' d' => fin1 h' 39 M _ d' (.inl ⟨.inl k1, rfl, rfl, rfl⟩)) (.inl k1)
  · exact read2 J1 (fun h' d' => fin1 h' 39 M _ d' (.inl ⟨.inr k2, rfl, rfl, rfl⟩)) (.inr k2)
  · exact fin1 h8 37 0 _ d8 (.inr ⟨k1, k2, rfl, rfl, rfl⟩)

end
end Go.Proofs.YtldocdpdjdekiaaGreat.Board
end

section
/- The conditions of functions, as the generator reckons them out, each with the proof that it is that. -/
namespace Go.Proofs.YtldocdpdjdekiaaGreat
open Go Go.Vc
set_option maxRecDepth 100000
set_option linter.unusedVariables false

def orphans_New_vc (most : Int) (quota : Int) (h : Heap) (R : Value → Heap → Prop) : Prop :=
 CallsH Tryz.prog (46 : Nat) (TVs.vals [TV.int IntKind.i64 most, TV.int IntKind.i64 quota]) h fun (v : Value) (h : Heap) ↦
 ∃ (p : Option Go.Vc.Loc),
 v = TV.val (TV.ptr p) ∧
 If (Option.isNone p) (R (TV.val (TV.ptr none)) h)
 (Vc.Bind (newTV h (TV.agg [TV.ptr p]) (100 : Nat)) fun (h_1 : Array Obj) ↦ R (TV.val (TV.ptr (some (Loc.mk (Array.size h) (0 : Nat))))) h_1)

theorem orphans_New_calls (most : Int) (quota : Int) (h : Heap) (R : Value → Heap → Prop) (H : orphans_New_vc most quota h R) : CallsH Tryz.prog 25 (TVs.vals [TV.int IntKind.i64 most, TV.int IntKind.i64 quota]) h R :=
 vcFn_sound (C := ctx) ctx_ok (fn := Tryz.f25) Tryz.func25 ((by kernel_rfl : orphans_New_vc most quota h R = vcFn ctx Tryz.f25 [TV.int IntKind.i64 most, TV.int IntKind.i64 quota] h R) ▸ H)


def early_New_vc (most : Int) (quota : Int) (h : Heap) (R : Value → Heap → Prop) : Prop :=
 CallsH Tryz.prog (46 : Nat) (TVs.vals [TV.int IntKind.i64 most, TV.int IntKind.i64 quota]) h fun (v : Value) (h : Heap) ↦
 ∃ (p : Option Go.Vc.Loc),
 v = TV.val (TV.ptr p) ∧
 If (Option.isNone p) (R (TV.val (TV.ptr none)) h)
 (Vc.Bind (newTV h (TV.agg [TV.ptr p]) (87 : Nat)) fun (h_1 : Array Obj) ↦ R (TV.val (TV.ptr (some (Loc.mk (Array.size h) (0 : Nat))))) h_1)

theorem early_New_calls (most : Int) (quota : Int) (h : Heap) (R : Value → Heap → Prop) (H : early_New_vc most quota h R) : CallsH Tryz.prog 14 (TVs.vals [TV.int IntKind.i64 most, TV.int IntKind.i64 quota]) h R :=
 vcFn_sound (C := ctx) ctx_ok (fn := Tryz.f14) Tryz.func14 ((by kernel_rfl : early_New_vc most quota h R = vcFn ctx Tryz.f14 [TV.int IntKind.i64 most, TV.int IntKind.i64 quota] h R) ▸ H)


def orphans_Orphans_Has_vc (o : Option Go.Vc.Loc) (root : Bs (32 : Nat)) (h : Heap) (R : Value → Heap → Prop) : Prop :=
 Vc.Bind (newTV h (TV.bytes (32 : Nat) root) (24 : Nat)) fun (h_1 : Array Obj) ↦
 If (!Option.isNone o)
 (Nn o fun (l : Go.Vc.Loc) ↦
 ∃ (p : Option Go.Vc.Loc),
 at1 h_1 l.b l.o (Value.pointer (Option.map Loc.addr p)) ∧
 ∃ (b : Bs (32 : Nat)),
 atBytes h_1 (Array.size h) (0 : Nat) (32 : Nat) b ∧
 CallsH Tryz.prog (44 : Nat) (TVs.vals [TV.ptr p, TV.bytes (32 : Nat) b]) h_1 fun (v : Value) (h : Array Obj) ↦
 ∃ (b : Bool), v = TV.val (TV.bool b) ∧ R (TV.val (TV.bool b)) h)
 (R (TV.val (TV.bool false)) h_1)

theorem orphans_Orphans_Has_calls (o : Option Go.Vc.Loc) (root : Bs (32 : Nat)) (h : Heap) (R : Value → Heap → Prop) (H : orphans_Orphans_Has_vc o root h R) : CallsH Tryz.prog 37 (TVs.vals [TV.ptr o, TV.bytes (32 : Nat) root]) h R :=
 vcFn_sound (C := ctx) ctx_ok (fn := Tryz.f37) Tryz.func37 ((by kernel_rfl : orphans_Orphans_Has_vc o root h R = vcFn ctx Tryz.f37 [TV.ptr o, TV.bytes (32 : Nat) root] h R) ▸ H)


def early_Early_Has_vc (e : Option Go.Vc.Loc) (root : Bs (32 : Nat)) (h : Heap) (R : Value → Heap → Prop) : Prop :=
 Vc.Bind (newTV h (TV.bytes (32 : Nat) root) (24 : Nat)) fun (h_1 : Array Obj) ↦
 If (!Option.isNone e)
 (Nn e fun (l : Go.Vc.Loc) ↦
 ∃ (p : Option Go.Vc.Loc),
 at1 h_1 l.b l.o (Value.pointer (Option.map Loc.addr p)) ∧
 ∃ (b : Bs (32 : Nat)),
 atBytes h_1 (Array.size h) (0 : Nat) (32 : Nat) b ∧
 CallsH Tryz.prog (44 : Nat) (TVs.vals [TV.ptr p, TV.bytes (32 : Nat) b]) h_1 fun (v : Value) (h : Array Obj) ↦
 ∃ (b : Bool), v = TV.val (TV.bool b) ∧ R (TV.val (TV.bool b)) h)
 (R (TV.val (TV.bool false)) h_1)

theorem early_Early_Has_calls (e : Option Go.Vc.Loc) (root : Bs (32 : Nat)) (h : Heap) (R : Value → Heap → Prop) (H : early_Early_Has_vc e root h R) : CallsH Tryz.prog 12 (TVs.vals [TV.ptr e, TV.bytes (32 : Nat) root]) h R :=
 vcFn_sound (C := ctx) ctx_ok (fn := Tryz.f12) Tryz.func12 ((by kernel_rfl : early_Early_Has_vc e root h R = vcFn ctx Tryz.f12 [TV.ptr e, TV.bytes (32 : Nat) root] h R) ▸ H)


def orphans_Orphans_Len_vc (o : Option Go.Vc.Loc) (h : Heap) (R : Value → Heap → Prop) : Prop :=
 If (Option.isNone o) (R (TV.val (TV.int IntKind.i64 (0 : Int))) h)
 (Nn o fun (l : Go.Vc.Loc) ↦
 ∃ (p : Option Go.Vc.Loc),
 at1 h l.b l.o (Value.pointer (Option.map Loc.addr p)) ∧
 CallsH Tryz.prog (45 : Nat) (TVs.vals [TV.ptr p]) h fun (v : Value) (h : Heap) ↦
 ∃ (n : Int), v = TV.val (TV.int IntKind.i64 n) ∧ R (TV.val (TV.int IntKind.i64 n)) h)

theorem orphans_Orphans_Len_calls (o : Option Go.Vc.Loc) (h : Heap) (R : Value → Heap → Prop) (H : orphans_Orphans_Len_vc o h R) : CallsH Tryz.prog 27 (TVs.vals [TV.ptr o]) h R :=
 vcFn_sound (C := ctx) ctx_ok (fn := Tryz.f27) Tryz.func27 ((by kernel_rfl : orphans_Orphans_Len_vc o h R = vcFn ctx Tryz.f27 [TV.ptr o] h R) ▸ H)


def early_Early_Len_vc (e : Option Go.Vc.Loc) (h : Heap) (R : Value → Heap → Prop) : Prop :=
 If (Option.isNone e) (R (TV.val (TV.int IntKind.i64 (0 : Int))) h)
 (Nn e fun (l : Go.Vc.Loc) ↦
 ∃ (p : Option Go.Vc.Loc),
 at1 h l.b l.o (Value.pointer (Option.map Loc.addr p)) ∧
 CallsH Tryz.prog (45 : Nat) (TVs.vals [TV.ptr p]) h fun (v : Value) (h : Heap) ↦
 ∃ (n : Int), v = TV.val (TV.int IntKind.i64 n) ∧ R (TV.val (TV.int IntKind.i64 n)) h)

theorem early_Early_Len_calls (e : Option Go.Vc.Loc) (h : Heap) (R : Value → Heap → Prop) (H : early_Early_Len_vc e h R) : CallsH Tryz.prog 13 (TVs.vals [TV.ptr e]) h R :=
 vcFn_sound (C := ctx) ctx_ok (fn := Tryz.f13) Tryz.func13 ((by kernel_rfl : early_Early_Len_vc e h R = vcFn ctx Tryz.f13 [TV.ptr e] h R) ▸ H)


def orphans_Orphans_Put_vc (o : Option Go.Vc.Loc) (peer : Int) (text : List UInt8) (h : Heap) (R : Value → Heap → Prop) : Prop :=
 Vc.Bind (newTV h (TV.bytes (32 : Nat) (Bs.zero (32 : Nat))) (24 : Nat)) fun (h_1 : Array Obj) ↦
 CallsH Tryz.prog (39 : Nat) (TVs.vals [TV.str text]) h_1 fun (v : Value) (h_2 : Array Obj) ↦
 ∃ (n : Int),
 ∃ (n_1 : Int),
 ∃ (b : Bs (32 : Nat)),
 ∃ (n_2 : Int),
 ∃ (n_3 : Int),
 ∃ (s : Sl),
 ∃ (b_1 : Bs (16 : Nat)),
 ∃ (b_2 : Bool),
 v =
 TV.val
 (TV.tup
 [TV.agg
 [TV.int IntKind.i64 n, TV.int IntKind.i64 n_1, TV.bytes (32 : Nat) b, TV.int IntKind.i64 n_2, TV.int IntKind.u64 n_3,
 TV.slice s, TV.bytes (16 : Nat) b_1],
 TV.bool b_2]) ∧
 Vc.Bind
 (newTV h_2
 (TV.agg
 [TV.int IntKind.i64 (0 : Int), TV.int IntKind.i64 (0 : Int), TV.bytes (32 : Nat) (Bs.zero (32 : Nat)), TV.int IntKind.i64 (0 : Int),
 TV.int IntKind.u64 (0 : Int), TV.slice Sl.nil, TV.bytes (16 : Nat) (Bs.zero (16 : Nat))])
 (58 : Nat))
 fun (h_3 : Array Obj) ↦
 wok h_3 (Array.size h_2) (0 : Nat) (53 : Nat) ∧
 Vc.Bind
 (TV.put h_3 (Array.size h_2) (0 : Nat)
 (TV.agg
 [TV.int IntKind.i64 n, TV.int IntKind.i64 n_1, TV.bytes (32 : Nat) b, TV.int IntKind.i64 n_2, TV.int IntKind.u64 n_3,
 TV.slice s, TV.bytes (16 : Nat) b_1]))
 fun (h_4 : Array Obj) ↦
 Join
 (fun (s_1 : Int) (h_5 : Array Obj) ↦
 Join
 (fun
 (s_2 : Option Go.Vc.Loc × Option Go.Vc.Loc × Int × Bs (32 : Nat) × Int × Bs (32 : Nat) × List UInt8 × Int × Option Go.Vc.Loc × Int)
 (h_6 : Array Obj) ↦
 Nn s_2.snd.snd.snd.snd.snd.snd.snd.snd.fst fun (l : Go.Vc.Loc) ↦
 ∃ (b_3 : Bs (32 : Nat)),
 atBytes h_6 l.b (l.o + (1 : Nat)) (32 : Nat) b_3 ∧
 wok h_6 (Array.size h) (0 : Nat) (32 : Nat) ∧
 Vc.Bind (TV.put h_6 (Array.size h) (0 : Nat) (TV.bytes (32 : Nat) b_3)) fun (h_7 : Array Obj) ↦
 ∃ (b_4 : Bs (32 : Nat)),
 atBytes h_7 (Array.size h) (0 : Nat) (32 : Nat) b_4 ∧
 R (TV.val (TV.tup [TV.int IntKind.i64 s_2.snd.snd.snd.snd.snd.snd.snd.snd.snd, TV.bytes (32 : Nat) b_4])) h_7)
 fun
 (J :
 Option Go.Vc.Loc × Option Go.Vc.Loc × Int × Bs (32 : Nat) × Int × Bs (32 : Nat) × List UInt8 × Int × Option Go.Vc.Loc × Int →
 Array Obj → Prop) ↦
 Nn o fun (l : Go.Vc.Loc) ↦
 ∃ (p : Option Go.Vc.Loc),
 at1 h_5 l.b l.o (Value.pointer (Option.map Loc.addr p)) ∧
 ∃ (n : Int),
 at1 h_5 (Array.size h_2) (1 : Nat) (Value.int IntKind.i64 n) ∧
 ∃ (n_4 : Int),
 ∃ (n_5 : Int),
 ∃ (b : Bs (32 : Nat)),
 ∃ (n_6 : Int),
 ∃ (n_7 : Int),
 ∃ (s : Sl),
 ∃ (b_3 : Bs (16 : Nat)),
 (at1 h_5 (Array.size h_2) (0 : Nat) (Value.int IntKind.i64 n_4) ∧
 at1 h_5 (Array.size h_2) (1 : Nat) (Value.int IntKind.i64 n_5) ∧
 atBytes h_5 (Array.size h_2) (2 : Nat) (32 : Nat) b ∧
 at1 h_5 (Array.size h_2) (34 : Nat) (Value.int IntKind.i64 n_6) ∧
 at1 h_5 (Array.size h_2) (35 : Nat) (Value.int IntKind.u64 n_7) ∧
 at1 h_5 (Array.size h_2) (36 : Nat) (slVal s) ∧
 atBytes h_5 (Array.size h_2) (37 : Nat) (16 : Nat) b_3) ∧
 ∃ (b_4 : Bs (32 : Nat)),
 atBytes h_5 (Array.size h_2) (2 : Nat) (32 : Nat) b_4 ∧
 (CallsH Tryz.prog (41 : Nat)
 (TVs.vals
 [TV.agg
 [TV.int IntKind.i64 n_4, TV.int IntKind.i64 n_5, TV.bytes (32 : Nat) b,
 TV.int IntKind.i64 n_6, TV.int IntKind.u64 n_7, TV.slice s,
 TV.bytes (16 : Nat) b_3]])
 h_5 fun (v : Value) (h : Array Obj) ↦
 ∃ (b : Bs (32 : Nat)),
 v = TV.val (TV.bytes (32 : Nat) b) ∧
 Ext h_5 h ∧
 (CallsH Tryz.prog (40 : Nat)
 (TVs.vals
 [TV.ptr p,
 TV.agg
 [TV.int IntKind.i64 n, TV.bytes (32 : Nat) b, TV.int IntKind.i64 peer,
 TV.bytes (32 : Nat) b_4, TV.str text]])
 h fun (v : Value) (h : Array Obj) ↦
 ∃ (n_8 : Int),
 ∃ (n_9 : Int),
 ∃ (b_5 : Bs (32 : Nat)),
 ∃ (n_10 : Int),
 ∃ (b_6 : Bs (32 : Nat)),
 ∃ (s : List UInt8),
 v =
 TV.val
 (TV.tup
 [TV.int IntKind.i64 n_8,
 TV.agg
 [TV.int IntKind.i64 n_9, TV.bytes (32 : Nat) b_5,
 TV.int IntKind.i64 n_10, TV.bytes (32 : Nat) b_6,
 TV.str s]]) ∧
 Vc.Bind
 (newTV h
 (TV.agg
 [TV.int IntKind.i64 (0 : Int),
 TV.bytes (32 : Nat) (Bs.zero (32 : Nat)),
 TV.int IntKind.i64 (0 : Int),
 TV.bytes (32 : Nat) (Bs.zero (32 : Nat)), TV.str []])
 (83 : Nat))
 fun (h_6 : Array Obj) ↦
 Ext h h_6 ∧
 wok h_6 (Array.size h) (0 : Nat) (67 : Nat) ∧
 Vc.Bind
 (TV.put h_6 (Array.size h) (0 : Nat)
 (TV.agg
 [TV.int IntKind.i64 n_9, TV.bytes (32 : Nat) b_5,
 TV.int IntKind.i64 n_10, TV.bytes (32 : Nat) b_6,
 TV.str s]))
 fun (h_7 : Array Obj) ↦
 J
 (o, p, n, b, peer, b_4, text, n_8,
 some (Loc.mk (Array.size h) (0 : Nat)), n_8)
 h_7) ∧
 Vc.Bind
 (newTV h
 (TV.agg
 [TV.int IntKind.i64 (0 : Int), TV.bytes (32 : Nat) (Bs.zero (32 : Nat)),
 TV.int IntKind.i64 (0 : Int), TV.bytes (32 : Nat) (Bs.zero (32 : Nat)),
 TV.str []])
 (83 : Nat))
 fun (h_6 : Array Obj) ↦
 Ext h h_6 ∧
 CallsH Tryz.prog (40 : Nat)
 (TVs.vals
 [TV.ptr p,
 TV.agg
 [TV.int IntKind.i64 n, TV.bytes (32 : Nat) b, TV.int IntKind.i64 peer,
 TV.bytes (32 : Nat) b_4, TV.str text]])
 h_6 fun (v : Value) (h_7 : Array Obj) ↦
 ∃ (n_8 : Int),
 ∃ (n_9 : Int),
 ∃ (b_5 : Bs (32 : Nat)),
 ∃ (n_10 : Int),
 ∃ (b_6 : Bs (32 : Nat)),
 ∃ (s : List UInt8),
 v =
 TV.val
 (TV.tup
 [TV.int IntKind.i64 n_8,
 TV.agg
 [TV.int IntKind.i64 n_9, TV.bytes (32 : Nat) b_5,
 TV.int IntKind.i64 n_10, TV.bytes (32 : Nat) b_6,
 TV.str s]]) ∧
 wok h_7 (Array.size h) (0 : Nat) (67 : Nat) ∧
 Vc.Bind
 (TV.put h_7 (Array.size h) (0 : Nat)
 (TV.agg
 [TV.int IntKind.i64 n_9, TV.bytes (32 : Nat) b_5,
 TV.int IntKind.i64 n_10, TV.bytes (32 : Nat) b_6,
 TV.str s]))
 fun (h_8 : Array Obj) ↦
 J
 (o, p, n, b, peer, b_4, text, n_8,
 some (Loc.mk (Array.size h) (0 : Nat)), n_8)
 h_8) ∧
 Vc.Bind
 (newTV h_5
 (TV.agg
 [TV.int IntKind.i64 (0 : Int), TV.bytes (32 : Nat) (Bs.zero (32 : Nat)),
 TV.int IntKind.i64 (0 : Int), TV.bytes (32 : Nat) (Bs.zero (32 : Nat)), TV.str []])
 (83 : Nat))
 fun (h : Array Obj) ↦
 Ext h_5 h ∧
 CallsH Tryz.prog (41 : Nat)
 (TVs.vals
 [TV.agg
 [TV.int IntKind.i64 n_4, TV.int IntKind.i64 n_5, TV.bytes (32 : Nat) b,
 TV.int IntKind.i64 n_6, TV.int IntKind.u64 n_7, TV.slice s,
 TV.bytes (16 : Nat) b_3]])
 h fun (v : Value) (h_6 : Array Obj) ↦
 ∃ (b : Bs (32 : Nat)),
 v = TV.val (TV.bytes (32 : Nat) b) ∧
 Ext h h_6 ∧
 CallsH Tryz.prog (40 : Nat)
 (TVs.vals
 [TV.ptr p,
 TV.agg
 [TV.int IntKind.i64 n, TV.bytes (32 : Nat) b, TV.int IntKind.i64 peer,
 TV.bytes (32 : Nat) b_4, TV.str text]])
 h_6 fun (v : Value) (h : Array Obj) ↦
 ∃ (n_8 : Int),
 ∃ (n_9 : Int),
 ∃ (b_5 : Bs (32 : Nat)),
 ∃ (n_10 : Int),
 ∃ (b_6 : Bs (32 : Nat)),
 ∃ (s : List UInt8),
 v =
 TV.val
 (TV.tup
 [TV.int IntKind.i64 n_8,
 TV.agg
 [TV.int IntKind.i64 n_9, TV.bytes (32 : Nat) b_5,
 TV.int IntKind.i64 n_10, TV.bytes (32 : Nat) b_6,
 TV.str s]]) ∧
 wok h (Array.size h_5) (0 : Nat) (67 : Nat) ∧
 Vc.Bind
 (TV.put h (Array.size h_5) (0 : Nat)
 (TV.agg
 [TV.int IntKind.i64 n_9, TV.bytes (32 : Nat) b_5,
 TV.int IntKind.i64 n_10, TV.bytes (32 : Nat) b_6,
 TV.str s]))
 fun (h : Array Obj) ↦
 J
 (o, p, n, b, peer, b_4, text, n_8,
 some (Loc.mk (Array.size h_5) (0 : Nat)), n_8)
 h)
 fun (J : Int → Array Obj → Prop) ↦
 If (Option.isNone o)
 (wok h_4 (Array.size h) (0 : Nat) (32 : Nat) ∧
 Vc.Bind (TV.put h_4 (Array.size h) (0 : Nat) (TV.bytes (32 : Nat) (Bs.zero (32 : Nat)))) fun (h_5 : Array Obj) ↦
 ∃ (b : Bs (32 : Nat)),
 atBytes h_5 (Array.size h) (0 : Nat) (32 : Nat) b ∧
 R (TV.val (TV.tup [TV.int IntKind.i64 (5 : Int), TV.bytes (32 : Nat) b])) h_5)
 (If (!b_2)
 (wok h_4 (Array.size h) (0 : Nat) (32 : Nat) ∧
 Vc.Bind (TV.put h_4 (Array.size h) (0 : Nat) (TV.bytes (32 : Nat) (Bs.zero (32 : Nat)))) fun (h_5 : Array Obj) ↦
 ∃ (b : Bs (32 : Nat)),
 atBytes h_5 (Array.size h) (0 : Nat) (32 : Nat) b ∧
 R (TV.val (TV.tup [TV.int IntKind.i64 (5 : Int), TV.bytes (32 : Nat) b])) h_5)
 (∃ (n : Int),
 at1 h_4 (Array.size h_2) (0 : Nat) (Value.int IntKind.i64 n) ∧
 If (!decide (n = (1 : Int)))
 (wok h_4 (Array.size h) (0 : Nat) (32 : Nat) ∧
 Vc.Bind (TV.put h_4 (Array.size h) (0 : Nat) (TV.bytes (32 : Nat) (Bs.zero (32 : Nat)))) fun (h_5 : Array Obj) ↦
 ∃ (b : Bs (32 : Nat)),
 atBytes h_5 (Array.size h) (0 : Nat) (32 : Nat) b ∧
 R (TV.val (TV.tup [TV.int IntKind.i64 (5 : Int), TV.bytes (32 : Nat) b])) h_5)
 (J (0 : Int) h_4)))

theorem orphans_Orphans_Put_calls (o : Option Go.Vc.Loc) (peer : Int) (text : List UInt8) (h : Heap) (R : Value → Heap → Prop) (H : orphans_Orphans_Put_vc o peer text h R) : CallsH Tryz.prog 33 (TVs.vals [TV.ptr o, TV.int IntKind.i64 peer, TV.str text]) h R :=
 vcFn_sound (C := ctx) ctx_ok (fn := Tryz.f33) Tryz.func33 ((by kernel_rfl : orphans_Orphans_Put_vc o peer text h R = vcFn ctx Tryz.f33 [TV.ptr o, TV.int IntKind.i64 peer, TV.str text] h R) ▸ H)


def early_Early_Put_vc (e : Option Go.Vc.Loc) (peer : Int) (text : List UInt8) (h : Heap) (R : Value → Heap → Prop) : Prop :=
 Vc.Bind (newTV h (TV.bytes (32 : Nat) (Bs.zero (32 : Nat))) (24 : Nat)) fun (h_1 : Array Obj) ↦
 CallsH Tryz.prog (39 : Nat) (TVs.vals [TV.str text]) h_1 fun (v : Value) (h_2 : Array Obj) ↦
 ∃ (n : Int),
 ∃ (n_1 : Int),
 ∃ (b : Bs (32 : Nat)),
 ∃ (n_2 : Int),
 ∃ (n_3 : Int),
 ∃ (s : Sl),
 ∃ (b_1 : Bs (16 : Nat)),
 ∃ (b_2 : Bool),
 v =
 TV.val
 (TV.tup
 [TV.agg
 [TV.int IntKind.i64 n, TV.int IntKind.i64 n_1, TV.bytes (32 : Nat) b, TV.int IntKind.i64 n_2, TV.int IntKind.u64 n_3,
 TV.slice s, TV.bytes (16 : Nat) b_1],
 TV.bool b_2]) ∧
 Vc.Bind
 (newTV h_2
 (TV.agg
 [TV.int IntKind.i64 (0 : Int), TV.int IntKind.i64 (0 : Int), TV.bytes (32 : Nat) (Bs.zero (32 : Nat)), TV.int IntKind.i64 (0 : Int),
 TV.int IntKind.u64 (0 : Int), TV.slice Sl.nil, TV.bytes (16 : Nat) (Bs.zero (16 : Nat))])
 (58 : Nat))
 fun (h_3 : Array Obj) ↦
 wok h_3 (Array.size h_2) (0 : Nat) (53 : Nat) ∧
 Vc.Bind
 (TV.put h_3 (Array.size h_2) (0 : Nat)
 (TV.agg
 [TV.int IntKind.i64 n, TV.int IntKind.i64 n_1, TV.bytes (32 : Nat) b, TV.int IntKind.i64 n_2, TV.int IntKind.u64 n_3,
 TV.slice s, TV.bytes (16 : Nat) b_1]))
 fun (h_4 : Array Obj) ↦
 Join
 (fun (s_1 : Int) (h_5 : Array Obj) ↦
 Join
 (fun
 (s_2 : Option Go.Vc.Loc × Option Go.Vc.Loc × Int × Bs (32 : Nat) × Int × Bs (32 : Nat) × List UInt8 × Int × Option Go.Vc.Loc × Int)
 (h_6 : Array Obj) ↦
 Nn s_2.snd.snd.snd.snd.snd.snd.snd.snd.fst fun (l : Go.Vc.Loc) ↦
 ∃ (b_3 : Bs (32 : Nat)),
 atBytes h_6 l.b (l.o + (1 : Nat)) (32 : Nat) b_3 ∧
 wok h_6 (Array.size h) (0 : Nat) (32 : Nat) ∧
 Vc.Bind (TV.put h_6 (Array.size h) (0 : Nat) (TV.bytes (32 : Nat) b_3)) fun (h_7 : Array Obj) ↦
 ∃ (b_4 : Bs (32 : Nat)),
 atBytes h_7 (Array.size h) (0 : Nat) (32 : Nat) b_4 ∧
 R (TV.val (TV.tup [TV.int IntKind.i64 s_2.snd.snd.snd.snd.snd.snd.snd.snd.snd, TV.bytes (32 : Nat) b_4])) h_7)
 fun
 (J :
 Option Go.Vc.Loc × Option Go.Vc.Loc × Int × Bs (32 : Nat) × Int × Bs (32 : Nat) × List UInt8 × Int × Option Go.Vc.Loc × Int →
 Array Obj → Prop) ↦
 Nn e fun (l : Go.Vc.Loc) ↦
 ∃ (p : Option Go.Vc.Loc),
 at1 h_5 l.b l.o (Value.pointer (Option.map Loc.addr p)) ∧
 ∃ (n : Int),
 at1 h_5 (Array.size h_2) (1 : Nat) (Value.int IntKind.i64 n) ∧
 ∃ (n_4 : Int),
 ∃ (n_5 : Int),
 ∃ (b : Bs (32 : Nat)),
 ∃ (n_6 : Int),
 ∃ (n_7 : Int),
 ∃ (s : Sl),
 ∃ (b_3 : Bs (16 : Nat)),
 (at1 h_5 (Array.size h_2) (0 : Nat) (Value.int IntKind.i64 n_4) ∧
 at1 h_5 (Array.size h_2) (1 : Nat) (Value.int IntKind.i64 n_5) ∧
 atBytes h_5 (Array.size h_2) (2 : Nat) (32 : Nat) b ∧
 at1 h_5 (Array.size h_2) (34 : Nat) (Value.int IntKind.i64 n_6) ∧
 at1 h_5 (Array.size h_2) (35 : Nat) (Value.int IntKind.u64 n_7) ∧
 at1 h_5 (Array.size h_2) (36 : Nat) (slVal s) ∧
 atBytes h_5 (Array.size h_2) (37 : Nat) (16 : Nat) b_3) ∧
 ∃ (b_4 : Bs (32 : Nat)),
 atBytes h_5 (Array.size h_2) (2 : Nat) (32 : Nat) b_4 ∧
 (CallsH Tryz.prog (41 : Nat)
 (TVs.vals
 [TV.agg
 [TV.int IntKind.i64 n_4, TV.int IntKind.i64 n_5, TV.bytes (32 : Nat) b,
 TV.int IntKind.i64 n_6, TV.int IntKind.u64 n_7, TV.slice s,
 TV.bytes (16 : Nat) b_3]])
 h_5 fun (v : Value) (h : Array Obj) ↦
 ∃ (b : Bs (32 : Nat)),
 v = TV.val (TV.bytes (32 : Nat) b) ∧
 Ext h_5 h ∧
 (CallsH Tryz.prog (40 : Nat)
 (TVs.vals
 [TV.ptr p,
 TV.agg
 [TV.int IntKind.i64 n, TV.bytes (32 : Nat) b, TV.int IntKind.i64 peer,
 TV.bytes (32 : Nat) b_4, TV.str text]])
 h fun (v : Value) (h : Array Obj) ↦
 ∃ (n_8 : Int),
 ∃ (n_9 : Int),
 ∃ (b_5 : Bs (32 : Nat)),
 ∃ (n_10 : Int),
 ∃ (b_6 : Bs (32 : Nat)),
 ∃ (s : List UInt8),
 v =
 TV.val
 (TV.tup
 [TV.int IntKind.i64 n_8,
 TV.agg
 [TV.int IntKind.i64 n_9, TV.bytes (32 : Nat) b_5,
 TV.int IntKind.i64 n_10, TV.bytes (32 : Nat) b_6,
 TV.str s]]) ∧
 Vc.Bind
 (newTV h
 (TV.agg
 [TV.int IntKind.i64 (0 : Int),
 TV.bytes (32 : Nat) (Bs.zero (32 : Nat)),
 TV.int IntKind.i64 (0 : Int),
 TV.bytes (32 : Nat) (Bs.zero (32 : Nat)), TV.str []])
 (83 : Nat))
 fun (h_6 : Array Obj) ↦
 Ext h h_6 ∧
 wok h_6 (Array.size h) (0 : Nat) (67 : Nat) ∧
 Vc.Bind
 (TV.put h_6 (Array.size h) (0 : Nat)
 (TV.agg
 [TV.int IntKind.i64 n_9, TV.bytes (32 : Nat) b_5,
 TV.int IntKind.i64 n_10, TV.bytes (32 : Nat) b_6,
 TV.str s]))
 fun (h_7 : Array Obj) ↦
 J
 (e, p, n, b, peer, b_4, text, n_8,
 some (Loc.mk (Array.size h) (0 : Nat)), n_8)
 h_7) ∧
 Vc.Bind
 (newTV h
 (TV.agg
 [TV.int IntKind.i64 (0 : Int), TV.bytes (32 : Nat) (Bs.zero (32 : Nat)),
 TV.int IntKind.i64 (0 : Int), TV.bytes (32 : Nat) (Bs.zero (32 : Nat)),
 TV.str []])
 (83 : Nat))
 fun (h_6 : Array Obj) ↦
 Ext h h_6 ∧
 CallsH Tryz.prog (40 : Nat)
 (TVs.vals
 [TV.ptr p,
 TV.agg
 [TV.int IntKind.i64 n, TV.bytes (32 : Nat) b, TV.int IntKind.i64 peer,
 TV.bytes (32 : Nat) b_4, TV.str text]])
 h_6 fun (v : Value) (h_7 : Array Obj) ↦
 ∃ (n_8 : Int),
 ∃ (n_9 : Int),
 ∃ (b_5 : Bs (32 : Nat)),
 ∃ (n_10 : Int),
 ∃ (b_6 : Bs (32 : Nat)),
 ∃ (s : List UInt8),
 v =
 TV.val
 (TV.tup
 [TV.int IntKind.i64 n_8,
 TV.agg
 [TV.int IntKind.i64 n_9, TV.bytes (32 : Nat) b_5,
 TV.int IntKind.i64 n_10, TV.bytes (32 : Nat) b_6,
 TV.str s]]) ∧
 wok h_7 (Array.size h) (0 : Nat) (67 : Nat) ∧
 Vc.Bind
 (TV.put h_7 (Array.size h) (0 : Nat)
 (TV.agg
 [TV.int IntKind.i64 n_9, TV.bytes (32 : Nat) b_5,
 TV.int IntKind.i64 n_10, TV.bytes (32 : Nat) b_6,
 TV.str s]))
 fun (h_8 : Array Obj) ↦
 J
 (e, p, n, b, peer, b_4, text, n_8,
 some (Loc.mk (Array.size h) (0 : Nat)), n_8)
 h_8) ∧
 Vc.Bind
 (newTV h_5
 (TV.agg
 [TV.int IntKind.i64 (0 : Int), TV.bytes (32 : Nat) (Bs.zero (32 : Nat)),
 TV.int IntKind.i64 (0 : Int), TV.bytes (32 : Nat) (Bs.zero (32 : Nat)), TV.str []])
 (83 : Nat))
 fun (h : Array Obj) ↦
 Ext h_5 h ∧
 CallsH Tryz.prog (41 : Nat)
 (TVs.vals
 [TV.agg
 [TV.int IntKind.i64 n_4, TV.int IntKind.i64 n_5, TV.bytes (32 : Nat) b,
 TV.int IntKind.i64 n_6, TV.int IntKind.u64 n_7, TV.slice s,
 TV.bytes (16 : Nat) b_3]])
 h fun (v : Value) (h_6 : Array Obj) ↦
 ∃ (b : Bs (32 : Nat)),
 v = TV.val (TV.bytes (32 : Nat) b) ∧
 Ext h h_6 ∧
 CallsH Tryz.prog (40 : Nat)
 (TVs.vals
 [TV.ptr p,
 TV.agg
 [TV.int IntKind.i64 n, TV.bytes (32 : Nat) b, TV.int IntKind.i64 peer,
 TV.bytes (32 : Nat) b_4, TV.str text]])
 h_6 fun (v : Value) (h : Array Obj) ↦
 ∃ (n_8 : Int),
 ∃ (n_9 : Int),
 ∃ (b_5 : Bs (32 : Nat)),
 ∃ (n_10 : Int),
 ∃ (b_6 : Bs (32 : Nat)),
 ∃ (s : List UInt8),
 v =
 TV.val
 (TV.tup
 [TV.int IntKind.i64 n_8,
 TV.agg
 [TV.int IntKind.i64 n_9, TV.bytes (32 : Nat) b_5,
 TV.int IntKind.i64 n_10, TV.bytes (32 : Nat) b_6,
 TV.str s]]) ∧
 wok h (Array.size h_5) (0 : Nat) (67 : Nat) ∧
 Vc.Bind
 (TV.put h (Array.size h_5) (0 : Nat)
 (TV.agg
 [TV.int IntKind.i64 n_9, TV.bytes (32 : Nat) b_5,
 TV.int IntKind.i64 n_10, TV.bytes (32 : Nat) b_6,
 TV.str s]))
 fun (h : Array Obj) ↦
 J
 (e, p, n, b, peer, b_4, text, n_8,
 some (Loc.mk (Array.size h_5) (0 : Nat)), n_8)
 h)
 fun (J : Int → Array Obj → Prop) ↦
 If (Option.isNone e)
 (wok h_4 (Array.size h) (0 : Nat) (32 : Nat) ∧
 Vc.Bind (TV.put h_4 (Array.size h) (0 : Nat) (TV.bytes (32 : Nat) (Bs.zero (32 : Nat)))) fun (h_5 : Array Obj) ↦
 ∃ (b : Bs (32 : Nat)),
 atBytes h_5 (Array.size h) (0 : Nat) (32 : Nat) b ∧
 R (TV.val (TV.tup [TV.int IntKind.i64 (5 : Int), TV.bytes (32 : Nat) b])) h_5)
 (If (!b_2)
 (wok h_4 (Array.size h) (0 : Nat) (32 : Nat) ∧
 Vc.Bind (TV.put h_4 (Array.size h) (0 : Nat) (TV.bytes (32 : Nat) (Bs.zero (32 : Nat)))) fun (h_5 : Array Obj) ↦
 ∃ (b : Bs (32 : Nat)),
 atBytes h_5 (Array.size h) (0 : Nat) (32 : Nat) b ∧
 R (TV.val (TV.tup [TV.int IntKind.i64 (5 : Int), TV.bytes (32 : Nat) b])) h_5)
 (∃ (n : Int),
 at1 h_4 (Array.size h_2) (0 : Nat) (Value.int IntKind.i64 n) ∧
 If (decide (n = (1 : Int)))
 (wok h_4 (Array.size h) (0 : Nat) (32 : Nat) ∧
 Vc.Bind (TV.put h_4 (Array.size h) (0 : Nat) (TV.bytes (32 : Nat) (Bs.zero (32 : Nat)))) fun (h_5 : Array Obj) ↦
 ∃ (b : Bs (32 : Nat)),
 atBytes h_5 (Array.size h) (0 : Nat) (32 : Nat) b ∧
 R (TV.val (TV.tup [TV.int IntKind.i64 (5 : Int), TV.bytes (32 : Nat) b])) h_5)
 (J (0 : Int) h_4)))

theorem early_Early_Put_calls (e : Option Go.Vc.Loc) (peer : Int) (text : List UInt8) (h : Heap) (R : Value → Heap → Prop) (H : early_Early_Put_vc e peer text h R) : CallsH Tryz.prog 10 (TVs.vals [TV.ptr e, TV.int IntKind.i64 peer, TV.str text]) h R :=
 vcFn_sound (C := ctx) ctx_ok (fn := Tryz.f10) Tryz.func10 ((by kernel_rfl : early_Early_Put_vc e peer text h R = vcFn ctx Tryz.f10 [TV.ptr e, TV.int IntKind.i64 peer, TV.str text] h R) ▸ H)


end Go.Proofs.YtldocdpdjdekiaaGreat
end

section
/- Blocks and votes that wait, in the program: New, Has, Len, Put. -/
namespace Go.Proofs.YtldocdpdjdekiaaGreat.Pool
open Go Go.Vc
open Board (Dm Ms decF nameF zeroM ms_at put_n mssz mssz1 decode_spec docdecode_spec mroot_spec docroot_spec BodyOk bsz bools dec_good)

/-- A message as an item. -/
def itemOf (d : Dm) (peer : Int) (text : List UInt8) : It := ⟨d.slot, nameF (d.ms Sl.nil) d.row, peer, d.target, text⟩

/-- What Put answers, the name of what gives way, and the items behind it. -/
def putW (want : Int → Bool) (most quota peer : Int) (text : List UInt8) (S : List It) : Int × Bs 32 × List It :=
  match decF text with
  | none => (5, Bs.zero 32, S)
  | some d => if want d.kind = true then ((putS most quota (itemOf d peer text) S).1, (putS most quota (itemOf d peer text) S).2.1.root, (putS most quota (itemOf d peer text) S).2.2) else (5, Bs.zero 32, S)

theorem putW_none {want : Int → Bool} {most quota peer : Int} {text : List UInt8} {S : List It} (h : decF text = none) : putW want most quota peer text S = (5, Bs.zero 32, S) := by
  unfold putW; rw [h]
theorem putW_no {want : Int → Bool} {most quota peer : Int} {text : List UInt8} {S : List It} {d : Dm} (h : decF text = some d) (hw : want d.kind = false) : putW want most quota peer text S = (5, Bs.zero 32, S) := by
  unfold putW; rw [h]; simp only; rw [if_neg (by rw [hw]; decide)]
theorem putW_yes {want : Int → Bool} {most quota peer : Int} {text : List UInt8} {S : List It} {d : Dm} (h : decF text = some d) (hw : want d.kind = true) :
    putW want most quota peer text S = ((putS most quota (itemOf d peer text) S).1, (putS most quota (itemOf d peer text) S).2.1.root, (putS most quota (itemOf d peer text) S).2.2) := by
  unfold putW; rw [h]; simp only; rw [if_pos hw]

theorem dm_row {text : List UInt8} {d : Dm} (h : decF text = some d) : d.row.length < 500 := by
  have hg := dec_good h
  unfold Board.goodF at hg
  simp only [Bool.and_eq_true] at hg
  have h2 := hg.2
  split at h2
  · simp only [Bool.and_eq_true, decide_eq_true_eq] at h2; omega
  · simp only [Bool.and_eq_true, decide_eq_true_eq] at h2; omega

section
variable {R : Value → Heap → Prop} {h : Heap} {o b : Nat} {A : Sl} {S : List It} {most quota : Int} {T : TypeId}

/-- What waits, in memory: a pointer to a pool. -/
structure WL (T : TypeId) (h : Heap) (o b : Nat) (A : Sl) (S : List It) (most quota : Int) : Prop where
  var : Var T h o (.agg [.ptr (some ⟨b, 0⟩)])
  pl : PL h b A S most quota
  apart : ¬ Mine b A o

theorem WL.ext {h' : Heap} (w : WL T h o b A S most quota) (x : Ext h h') : WL T h' o b A S most quota := ⟨w.var.ext x, w.pl.ext x, w.apart⟩
theorem WL.only {h' : Heap} {Q : Nat → Prop} (w : WL T h o b A S most quota) (f : Only Q h h') (h1 : ¬ Q o) (h2 : ∀ i, Mine b A i → ¬ Q i) : WL T h' o b A S most quota := ⟨w.var.only f h1, w.pl.only f h2, w.apart⟩
theorem WL.grown {h' : Heap} {A' : Sl} {S' : List It} (w : WL T h o b A S most quota) (p : PL h' b A' S' most quota) (g : Grown b A h A' h') : WL T h' o b A' S' most quota :=
  ⟨w.var.only g.only w.apart, p, fun hx => by
    rcases g.new o hx with h1 | h1
    · exact w.apart h1
    · have := w.var.lt; omega⟩

def Ok64 (most quota : Int) : Prop := 1 ≤ most ∧ most ≤ 64 ∧ 1 ≤ quota ∧ quota ≤ 64

theorem onew_spec {q : Int} (hr0 : ¬ Ok64 most q → R (TV.ptr none).val h) (hr1 : Ok64 most q → ∀ h', WL 100 h' (h.size + 1) h.size Sl.nil [] most q → Ext h h' → h'.size = h.size + 2 → R (TV.ptr (some ⟨h.size + 1, 0⟩)).val h') :
    CallsH Tryz.prog 25 (TVs.vals [.int .i64 most, .int .i64 q]) h R := by
  apply orphans_New_calls
  unfold orphans_New_vc
  refine new_spec (fun hn => ⟨_, rfl, If.yes (hr0 hn)⟩) fun hy h1 p1 x1 s1 => ⟨_, rfl, If.no (newTV_in fun h2 v2 x2 s2 => ?_)⟩
  rw [s1] at v2
  have := hr1 hy h2 ⟨v2, p1.ext x2, fun hx => by have := p1.lt hx; omega⟩ (x1.trans x2) (by omega)
  rw [s1]
  exact this

theorem enew_spec {q : Int} (hr0 : ¬ Ok64 most q → R (TV.ptr none).val h) (hr1 : Ok64 most q → ∀ h', WL 87 h' (h.size + 1) h.size Sl.nil [] most q → Ext h h' → h'.size = h.size + 2 → R (TV.ptr (some ⟨h.size + 1, 0⟩)).val h') :
    CallsH Tryz.prog 14 (TVs.vals [.int .i64 most, .int .i64 q]) h R := by
  apply early_New_calls
  unfold early_New_vc
  refine new_spec (fun hn => ⟨_, rfl, If.yes (hr0 hn)⟩) fun hy h1 p1 x1 s1 => ⟨_, rfl, If.no (newTV_in fun h2 v2 x2 s2 => ?_)⟩
  rw [s1] at v2
  have := hr1 hy h2 ⟨v2, p1.ext x2, fun hx => by have := p1.lt hx; omega⟩ (x1.trans x2) (by omega)
  rw [s1]
  exact this

theorem ohas_spec (w : WL 100 h o b A S most quota) {r : Bs 32} (hr : ∀ h', Ext h h' → R (TV.bool (has r S)).val h') : CallsH Tryz.prog 37 (TVs.vals [.ptr (some ⟨o, 0⟩), .bytes 32 r]) h R := by
  apply orphans_Orphans_Has_calls
  unfold orphans_Orphans_Has_vc
  refine newTV_in fun h1 v1 x1 s1 => If.yes ⟨_, (w.var.ext x1).at1 rfl, r, v1.bytes, has_spec (w.pl.ext x1) fun h2 x2 => ⟨_, rfl, hr h2 (x1.trans x2)⟩⟩

theorem ehas_spec (w : WL 87 h o b A S most quota) {r : Bs 32} (hr : ∀ h', Ext h h' → R (TV.bool (has r S)).val h') : CallsH Tryz.prog 12 (TVs.vals [.ptr (some ⟨o, 0⟩), .bytes 32 r]) h R := by
  apply early_Early_Has_calls
  unfold early_Early_Has_vc
  refine newTV_in fun h1 v1 x1 s1 => If.yes ⟨_, (w.var.ext x1).at1 rfl, r, v1.bytes, has_spec (w.pl.ext x1) fun h2 x2 => ⟨_, rfl, hr h2 (x1.trans x2)⟩⟩

theorem ohas_nil {r : Bs 32} (hr : ∀ h', Ext h h' → R (TV.bool false).val h') : CallsH Tryz.prog 37 (TVs.vals [.ptr none, .bytes 32 r]) h R := by
  apply orphans_Orphans_Has_calls
  unfold orphans_Orphans_Has_vc
  exact newTV_in fun h1 v1 x1 s1 => If.no (hr h1 x1)
theorem ehas_nil {r : Bs 32} (hr : ∀ h', Ext h h' → R (TV.bool false).val h') : CallsH Tryz.prog 12 (TVs.vals [.ptr none, .bytes 32 r]) h R := by
  apply early_Early_Has_calls
  unfold early_Early_Has_vc
  exact newTV_in fun h1 v1 x1 s1 => If.no (hr h1 x1)

theorem olen_spec (w : WL 100 h o b A S most quota) (hr : R (TV.int .i64 (S.length : Int)).val h) : CallsH Tryz.prog 27 (TVs.vals [.ptr (some ⟨o, 0⟩)]) h R := by
  apply orphans_Orphans_Len_calls
  unfold orphans_Orphans_Len_vc
  exact If.no ⟨_, w.var.at1 rfl, lenP_spec w.pl ⟨_, rfl, hr⟩⟩
theorem elen_spec (w : WL 87 h o b A S most quota) (hr : R (TV.int .i64 (S.length : Int)).val h) : CallsH Tryz.prog 13 (TVs.vals [.ptr (some ⟨o, 0⟩)]) h R := by
  apply early_Early_Len_calls
  unfold early_Early_Len_vc
  exact If.no ⟨_, w.var.at1 rfl, lenP_spec w.pl ⟨_, rfl, hr⟩⟩
theorem olen_nil (hr : R (TV.int .i64 0).val h) : CallsH Tryz.prog 27 (TVs.vals [.ptr none]) h R := by
  apply orphans_Orphans_Len_calls
  exact If.yes hr
theorem elen_nil (hr : R (TV.int .i64 0).val h) : CallsH Tryz.prog 13 (TVs.vals [.ptr none]) h R := by
  apply early_Early_Len_calls
  exact If.yes hr


set_option maxRecDepth 100000 in
theorem oput_spec (w : WL 100 h o b A S most quota) {peer : Int} {text : List UInt8} (hm : 1 ≤ most) (hmm : most ≤ 64) (hlen : (S.length : Int) ≤ most) (ht : text.length < 1000)
    (hr : ∀ h' A', WL 100 h' o b A' (putW (fun k => decide (k = 1)) most quota peer text S).2.2 most quota → Grown b A h A' h' → R (TV.tup [.int .i64 (putW (fun k => decide (k = 1)) most quota peer text S).1, .bytes 32 (putW (fun k => decide (k = 1)) most quota peer text S).2.1]).val h') :
    CallsH Tryz.prog 33 (TVs.vals [.ptr (some ⟨o, 0⟩), .int .i64 peer, .str text]) h R := by
  apply orphans_Orphans_Put_calls
  unfold orphans_Orphans_Put_vc
  refine newTV_in fun h1 v1 x1 s1 => ?_
  have bad : ∀ hh, Ext h1 hh → putW (fun k => decide (k = 1)) most quota peer text S = (5, Bs.zero 32, S) →
      wok hh h.size 0 32 ∧ Bind (TV.put hh h.size 0 (TV.bytes 32 (Bs.zero 32))) fun (h_5 : Heap) => ∃ (b : Bs 32), atBytes h_5 h.size 0 32 b ∧ R (TV.tup [.int .i64 5, .bytes 32 b]).val h_5 := by
    intro hh xx he
    refine put_n (v1.ext xx) (t := .bytes 32 (Bs.zero 32)) rfl rfl fun h5 v5 f5 s5 => ⟨_, v5.bytes, ?_⟩
    rw [he] at hr
    have x5 : Ext h h5 := Only.cut (x1.trans xx) f5 fun i hi => by omega
    exact hr h5 A (w.ext x5) (.of_ext x5)
  refine decode_spec (by omega) (fun hno h2 x2 => ?_) fun d h2 bs hd e2 x2 _ => ?_
  · refine ⟨_, _, _, _, _, _, _, _, rfl, newTV_in fun h3 v3 x3 s3 => put_n (t0 := zeroM.tv) v3 (t := zeroM.tv) mssz1 mssz fun h4 v4 f4 s4 => ?_⟩
    have x24 : Ext h2 h4 := Only.cut x3 f4 fun i hi => by omega
    intro J HJ
    exact If.no (If.yes (bad h4 (x2.trans x24) (putW_none hno)))
  refine ⟨_, _, _, _, _, _, _, _, rfl, newTV_in fun h3 v3 x3 s3 => put_n (t0 := zeroM.tv) v3 (t := (d.ms bs).tv) mssz1 mssz fun h4 v4 f4 s4 => ?_⟩
  have x24 : Ext h2 h4 := Only.cut x3 f4 fun i hi => by omega
  have x14 := x2.trans x24
  have x04 := x1.trans x14
  intro J HJ
  have z24 := x24.size
  have z2 := x2.size
  refine If.no (If.no ⟨d.kind, v4.at1 rfl, If.split (fun hk => ?_) fun hk => ?_⟩)
  · have hk' : d.kind ≠ 1 := by simpa using hk
    exact bad h4 x14 (putW_no hd (decide_eq_false hk'))
  have hwant : decide (d.kind = 1) = true := by simpa using hk
  refine HJ 0 h4 ?_
  clear HJ bad
  intro J2 HJ2
  have hput := putW_yes (most := most) (quota := quota) (peer := peer) (S := S) (want := fun k => decide (k = 1)) hd hwant
  have fin : ∀ (hh : Heap) (q : Nat) (A' : Sl) (a : Option Vc.Loc × Option Vc.Loc × Int × Bs 32 × Int × Bs 32 × List UInt8 × Int × Option Vc.Loc × Int), a.2.2.2.2.2.2.2.2 = (some ⟨q, 0⟩, (putS most quota (itemOf d peer text) S).1) →
      Var 83 hh q (putS most quota (itemOf d peer text) S).2.1.tv → PL hh b A' (putS most quota (itemOf d peer text) S).2.2 most quota → Grown b A h4 A' hh → J2 a hh := by
    intro hh q A' a ha vq p g
    refine HJ2 a hh ?_
    dsimp only
    rw [ha]
    refine ⟨_, v_root vq, ?_⟩
    have v1h : Var 24 hh h.size (.bytes 32 (Bs.zero 32)) := (v1.ext x14).only g.only fun hx => by have := w.pl.lt hx; omega
    refine put_n v1h (t := .bytes 32 (putS most quota (itemOf d peer text) S).2.1.root) rfl bsz fun h5 v5 f5 s5 => ⟨_, v5.bytes, ?_⟩
    have g5 : Grown b A h A' h5 := ⟨⟨by have := x04.size; have := g.only.size; omega, fun i hi hn => by
      rw [f5.same i (by have := x04.size; have := g.only.size; omega) (by omega), g.only.same i (by have := x04.size; omega) hn, x04.same i hi]⟩, fun i hi => by
      rcases g.new i hi with h9 | h9
      · exact .inl h9
      · exact .inr (by have := x04.size; omega)⟩
    have p5 : PL h5 b A' (putS most quota (itemOf d peer text) S).2.2 most quota := p.only f5 fun i hi hx => by
      rcases g.new i hi with h9 | h9
      · have := w.pl.lt h9; omega
      · have := x04.size; omega
    have := hr h5 A' (by rw [hput]; exact w.grown p5 g5) g5
    rw [hput] at this
    exact this
  have hrow := dm_row hd
  have e4 := e2.ext x24
  have v4 : Var 58 h4 h2.size (d.ms bs).tv := v4
  refine ⟨_, (w.var.ext x04).at1 rfl, d.slot, v4.at1 rfl, ms_at v4 ⟨d.target, v4.at.2.2.1, ⟨?_, ?_⟩⟩⟩
  · refine mroot_spec (m := d.ms bs) e4 hrow fun h5 x5 => ⟨_, rfl, x5, ⟨?_, ?_⟩⟩
    · refine put_spec (x := itemOf d peer text) ((w.pl.ext x04).ext x5) hm hmm hlen fun h6 A' p6 g6 => ⟨_, _, _, _, _, _, rfl, ?_⟩
      refine newTV_in fun h7 v7 x7 s7 => ⟨x7, put_n (t0 := It.zero.tv) v7 (t := (putS most quota (itemOf d peer text) S).2.1.tv) (It.size _).symm rfl fun h8 v8 f8 s8 => ?_⟩
      have x68 : Ext h6 h8 := Only.cut x7 f8 fun i hi => by omega
      exact fin h8 _ A' _ rfl v8 (p6.ext x68) ((Grown.of_ext x5).trans (g6.trans (.of_ext x68)))
    · refine newTV_in fun h6 v6 x6 s6 => ⟨x6, ?_⟩
      refine put_spec (x := itemOf d peer text) (((w.pl.ext x04).ext x5).ext x6) hm hmm hlen fun h7 A' p7 g7 => ⟨_, _, _, _, _, _, rfl, ?_⟩
      have hne : ∀ i, Mine b A' i → i ≠ h5.size := fun i hi => by
        rcases g7.new i hi with h9 | h9
        · have := w.pl.lt h9; have := x04.size; have := x5.size; omega
        · omega
      have hneA : ¬ Mine b A h5.size := fun hx => by have := w.pl.lt hx; have := x04.size; have := x5.size; omega
      refine put_n (t0 := It.zero.tv) (v6.only g7.only hneA) (t := (putS most quota (itemOf d peer text) S).2.1.tv) (It.size _).symm rfl fun h8 v8 f8 s8 => ?_
      refine fin h8 _ A' _ rfl v8 (p7.only f8 hne) ((Grown.of_ext x5).trans ⟨⟨by have := x6.size; have := g7.only.size; omega, fun i hi hn => ?_⟩, fun i hi => ?_⟩)
      · have := x6.size
        have := g7.only.size
        rw [f8.same i (by omega) (by omega), g7.only.same i (by omega) hn, x6.same i hi]
      · rcases g7.new i hi with h9 | h9
        · exact .inl h9
        · have := x6.size; exact .inr (by omega)
  · refine newTV_in fun h5 v5 x5 s5 => ⟨x5, ?_⟩
    refine mroot_spec (m := d.ms bs) (e4.ext x5) hrow fun h6 x6 => ⟨_, rfl, x6, ?_⟩
    refine put_spec (x := itemOf d peer text) (((w.pl.ext x04).ext x5).ext x6) hm hmm hlen fun h7 A' p7 g7 => ⟨_, _, _, _, _, _, rfl, ?_⟩
    have hne : ∀ i, Mine b A' i → i ≠ h4.size := fun i hi => by
      rcases g7.new i hi with h9 | h9
      · have := w.pl.lt h9; have := x04.size; omega
      · have := x6.size; omega
    have hneA : ¬ Mine b A h4.size := fun hx => by have := w.pl.lt hx; have := x04.size; omega
    refine put_n (t0 := It.zero.tv) ((v5.ext x6).only g7.only hneA) (t := (putS most quota (itemOf d peer text) S).2.1.tv) (It.size _).symm rfl fun h8 v8 f8 s8 => ?_
    refine fin h8 _ A' _ rfl v8 (p7.only f8 hne) ⟨⟨by have := x5.size; have := x6.size; have := g7.only.size; omega, fun i hi hn => ?_⟩, fun i hi => ?_⟩
    · have := x5.size
      have := x6.size
      have := g7.only.size
      rw [f8.same i (by omega) (by omega), g7.only.same i (by omega) hn, x6.same i (by omega), x5.same i hi]
    · rcases g7.new i hi with h9 | h9
      · exact .inl h9
      · have := x5.size; have := x6.size; exact .inr (by omega)

theorem oput_nil {peer : Int} {text : List UInt8} (ht : text.length < 1000) (hr : ∀ h', Ext h h' → R (TV.tup [.int .i64 5, .bytes 32 (Bs.zero 32)]).val h') : CallsH Tryz.prog 33 (TVs.vals [.ptr none, .int .i64 peer, .str text]) h R := by
  apply orphans_Orphans_Put_calls
  unfold orphans_Orphans_Put_vc
  refine newTV_in fun h1 v1 x1 s1 => decode_spec (by omega) (fun hno h2 x2 => ?_) fun d h2 bs hd e2 x2 _ => ?_
  all_goals
    refine ⟨_, _, _, _, _, _, _, _, rfl, newTV_in fun h3 v3 x3 s3 => put_n (t0 := zeroM.tv) v3 mssz1 mssz fun h4 v4 f4 s4 => ?_⟩
    have x14 : Ext h1 h4 := x2.trans (Only.cut x3 f4 fun i hi => by omega)
    intro J HJ
    refine If.yes (put_n (v1.ext x14) (t := .bytes 32 (Bs.zero 32)) rfl rfl fun h5 v5 f5 s5 => ⟨_, v5.bytes, ?_⟩)
    exact hr h5 (Only.cut (x1.trans x14) f5 fun i hi => by omega)


set_option maxRecDepth 100000 in
theorem eput_spec (w : WL 87 h o b A S most quota) {peer : Int} {text : List UInt8} (hm : 1 ≤ most) (hmm : most ≤ 64) (hlen : (S.length : Int) ≤ most) (ht : text.length < 1000)
    (hr : ∀ h' A', WL 87 h' o b A' (putW (fun k => !decide (k = 1)) most quota peer text S).2.2 most quota → Grown b A h A' h' → R (TV.tup [.int .i64 (putW (fun k => !decide (k = 1)) most quota peer text S).1, .bytes 32 (putW (fun k => !decide (k = 1)) most quota peer text S).2.1]).val h') :
    CallsH Tryz.prog 10 (TVs.vals [.ptr (some ⟨o, 0⟩), .int .i64 peer, .str text]) h R := by
  apply early_Early_Put_calls
  unfold early_Early_Put_vc
  refine newTV_in fun h1 v1 x1 s1 => ?_
  have bad : ∀ hh, Ext h1 hh → putW (fun k => !decide (k = 1)) most quota peer text S = (5, Bs.zero 32, S) →
      wok hh h.size 0 32 ∧ Bind (TV.put hh h.size 0 (TV.bytes 32 (Bs.zero 32))) fun (h_5 : Heap) => ∃ (b : Bs 32), atBytes h_5 h.size 0 32 b ∧ R (TV.tup [.int .i64 5, .bytes 32 b]).val h_5 := by
    intro hh xx he
    refine put_n (v1.ext xx) (t := .bytes 32 (Bs.zero 32)) rfl rfl fun h5 v5 f5 s5 => ⟨_, v5.bytes, ?_⟩
    rw [he] at hr
    have x5 : Ext h h5 := Only.cut (x1.trans xx) f5 fun i hi => by omega
    exact hr h5 A (w.ext x5) (.of_ext x5)
  refine decode_spec (by omega) (fun hno h2 x2 => ?_) fun d h2 bs hd e2 x2 _ => ?_
  · refine ⟨_, _, _, _, _, _, _, _, rfl, newTV_in fun h3 v3 x3 s3 => put_n (t0 := zeroM.tv) v3 (t := zeroM.tv) mssz1 mssz fun h4 v4 f4 s4 => ?_⟩
    have x24 : Ext h2 h4 := Only.cut x3 f4 fun i hi => by omega
    intro J HJ
    exact If.no (If.yes (bad h4 (x2.trans x24) (putW_none hno)))
  refine ⟨_, _, _, _, _, _, _, _, rfl, newTV_in fun h3 v3 x3 s3 => put_n (t0 := zeroM.tv) v3 (t := (d.ms bs).tv) mssz1 mssz fun h4 v4 f4 s4 => ?_⟩
  have x24 : Ext h2 h4 := Only.cut x3 f4 fun i hi => by omega
  have x14 := x2.trans x24
  have x04 := x1.trans x14
  intro J HJ
  have z24 := x24.size
  have z2 := x2.size
  refine If.no (If.no ⟨d.kind, v4.at1 rfl, If.dec.2 ⟨fun hk => ?_, fun hk => ?_⟩⟩)
  · exact bad h4 x14 (putW_no hd (by rw [decide_eq_true hk]; rfl))
  have hwant : (!decide (d.kind = 1)) = true := by rw [decide_eq_false hk]; rfl
  refine HJ 0 h4 ?_
  clear HJ bad
  intro J2 HJ2
  have hput := putW_yes (most := most) (quota := quota) (peer := peer) (S := S) (want := fun k => !decide (k = 1)) hd hwant
  have fin : ∀ (hh : Heap) (q : Nat) (A' : Sl) (a : Option Vc.Loc × Option Vc.Loc × Int × Bs 32 × Int × Bs 32 × List UInt8 × Int × Option Vc.Loc × Int), a.2.2.2.2.2.2.2.2 = (some ⟨q, 0⟩, (putS most quota (itemOf d peer text) S).1) →
      Var 83 hh q (putS most quota (itemOf d peer text) S).2.1.tv → PL hh b A' (putS most quota (itemOf d peer text) S).2.2 most quota → Grown b A h4 A' hh → J2 a hh := by
    intro hh q A' a ha vq p g
    refine HJ2 a hh ?_
    dsimp only
    rw [ha]
    refine ⟨_, v_root vq, ?_⟩
    have v1h : Var 24 hh h.size (.bytes 32 (Bs.zero 32)) := (v1.ext x14).only g.only fun hx => by have := w.pl.lt hx; omega
    refine put_n v1h (t := .bytes 32 (putS most quota (itemOf d peer text) S).2.1.root) rfl bsz fun h5 v5 f5 s5 => ⟨_, v5.bytes, ?_⟩
    have g5 : Grown b A h A' h5 := ⟨⟨by have := x04.size; have := g.only.size; omega, fun i hi hn => by
      rw [f5.same i (by have := x04.size; have := g.only.size; omega) (by omega), g.only.same i (by have := x04.size; omega) hn, x04.same i hi]⟩, fun i hi => by
      rcases g.new i hi with h9 | h9
      · exact .inl h9
      · exact .inr (by have := x04.size; omega)⟩
    have p5 : PL h5 b A' (putS most quota (itemOf d peer text) S).2.2 most quota := p.only f5 fun i hi hx => by
      rcases g.new i hi with h9 | h9
      · have := w.pl.lt h9; omega
      · have := x04.size; omega
    have := hr h5 A' (by rw [hput]; exact w.grown p5 g5) g5
    rw [hput] at this
    exact this
  have hrow := dm_row hd
  have e4 := e2.ext x24
  have v4 : Var 58 h4 h2.size (d.ms bs).tv := v4
  refine ⟨_, (w.var.ext x04).at1 rfl, d.slot, v4.at1 rfl, ms_at v4 ⟨d.target, v4.at.2.2.1, ⟨?_, ?_⟩⟩⟩
  · refine mroot_spec (m := d.ms bs) e4 hrow fun h5 x5 => ⟨_, rfl, x5, ⟨?_, ?_⟩⟩
    · refine put_spec (x := itemOf d peer text) ((w.pl.ext x04).ext x5) hm hmm hlen fun h6 A' p6 g6 => ⟨_, _, _, _, _, _, rfl, ?_⟩
      refine newTV_in fun h7 v7 x7 s7 => ⟨x7, put_n (t0 := It.zero.tv) v7 (t := (putS most quota (itemOf d peer text) S).2.1.tv) (It.size _).symm rfl fun h8 v8 f8 s8 => ?_⟩
      have x68 : Ext h6 h8 := Only.cut x7 f8 fun i hi => by omega
      exact fin h8 _ A' _ rfl v8 (p6.ext x68) ((Grown.of_ext x5).trans (g6.trans (.of_ext x68)))
    · refine newTV_in fun h6 v6 x6 s6 => ⟨x6, ?_⟩
      refine put_spec (x := itemOf d peer text) (((w.pl.ext x04).ext x5).ext x6) hm hmm hlen fun h7 A' p7 g7 => ⟨_, _, _, _, _, _, rfl, ?_⟩
      have hne : ∀ i, Mine b A' i → i ≠ h5.size := fun i hi => by
        rcases g7.new i hi with h9 | h9
        · have := w.pl.lt h9; have := x04.size; have := x5.size; omega
        · omega
      have hneA : ¬ Mine b A h5.size := fun hx => by have := w.pl.lt hx; have := x04.size; have := x5.size; omega
      refine put_n (t0 := It.zero.tv) (v6.only g7.only hneA) (t := (putS most quota (itemOf d peer text) S).2.1.tv) (It.size _).symm rfl fun h8 v8 f8 s8 => ?_
      refine fin h8 _ A' _ rfl v8 (p7.only f8 hne) ((Grown.of_ext x5).trans ⟨⟨by have := x6.size; have := g7.only.size; omega, fun i hi hn => ?_⟩, fun i hi => ?_⟩)
      · have := x6.size
        have := g7.only.size
        rw [f8.same i (by omega) (by omega), g7.only.same i (by omega) hn, x6.same i hi]
      · rcases g7.new i hi with h9 | h9
        · exact .inl h9
        · have := x6.size; exact .inr (by omega)
  · refine newTV_in fun h5 v5 x5 s5 => ⟨x5, ?_⟩
    refine mroot_spec (m := d.ms bs) (e4.ext x5) hrow fun h6 x6 => ⟨_, rfl, x6, ?_⟩
    refine put_spec (x := itemOf d peer text) (((w.pl.ext x04).ext x5).ext x6) hm hmm hlen fun h7 A' p7 g7 => ⟨_, _, _, _, _, _, rfl, ?_⟩
    have hne : ∀ i, Mine b A' i → i ≠ h4.size := fun i hi => by
      rcases g7.new i hi with h9 | h9
      · have := w.pl.lt h9; have := x04.size; omega
      · have := x6.size; omega
    have hneA : ¬ Mine b A h4.size := fun hx => by have := w.pl.lt hx; have := x04.size; omega
    refine put_n (t0 := It.zero.tv) ((v5.ext x6).only g7.only hneA) (t := (putS most quota (itemOf d peer text) S).2.1.tv) (It.size _).symm rfl fun h8 v8 f8 s8 => ?_
    refine fin h8 _ A' _ rfl v8 (p7.only f8 hne) ⟨⟨by have := x5.size; have := x6.size; have := g7.only.size; omega, fun i hi hn => ?_⟩, fun i hi => ?_⟩
    · have := x5.size
      have := x6.size
      have := g7.only.size
      rw [f8.same i (by omega) (by omega), g7.only.same i (by omega) hn, x6.same i (by omega), x5.same i hi]
    · rcases g7.new i hi with h9 | h9
      · exact .inl h9
      · have := x5.size; have := x6.size; exact .inr (by omega)

theorem eput_nil {peer : Int} {text : List UInt8} (ht : text.length < 1000) (hr : ∀ h', Ext h h' → R (TV.tup [.int .i64 5, .bytes 32 (Bs.zero 32)]).val h') : CallsH Tryz.prog 10 (TVs.vals [.ptr none, .int .i64 peer, .str text]) h R := by
  apply early_Early_Put_calls
  unfold early_Early_Put_vc
  refine newTV_in fun h1 v1 x1 s1 => decode_spec (by omega) (fun hno h2 x2 => ?_) fun d h2 bs hd e2 x2 _ => ?_
  all_goals
    refine ⟨_, _, _, _, _, _, _, _, rfl, newTV_in fun h3 v3 x3 s3 => put_n (t0 := zeroM.tv) v3 mssz1 mssz fun h4 v4 f4 s4 => ?_⟩
    have x14 : Ext h1 h4 := x2.trans (Only.cut x3 f4 fun i hi => by omega)
    intro J HJ
    refine If.yes (put_n (v1.ext x14) (t := .bytes 32 (Bs.zero 32)) rfl rfl fun h5 v5 f5 s5 => ⟨_, v5.bytes, ?_⟩)
    exact hr h5 (Only.cut (x1.trans x14) f5 fun i hi => by omega)

end
end Go.Proofs.YtldocdpdjdekiaaGreat.Pool
end

section
/- The conditions of functions, as the generator reckons them out, each with the proof that it is that. -/
namespace Go.Proofs.YtldocdpdjdekiaaGreat
open Go Go.Vc
set_option maxRecDepth 100000
set_option linter.unusedVariables false

def orphans_blocks_vc (list : Sl) (h : Heap) (R : Value → Heap → Prop) : Prop :=
 Go.Vc.Loop (Sl.mk none (0 : Nat) (0 : Nat), (0 : Int)) h fun (s : Sl × Int) (h : Array Obj) (K : Sl × Int → Array Obj → Prop) ↦
 If (decide (s.snd < (↑list.len : Int)))
 ((0 : Int) ≤ s.snd ∧
 s.snd < (↑list.len : Int) ∧
 Nn list.a fun (l : Go.Vc.Loc) ↦
 ∃ (n : Int),
 ∃ (b : Bs (32 : Nat)),
 ∃ (n_1 : Int),
 ∃ (b_1 : Bs (32 : Nat)),
 ∃ (s_1 : List UInt8),
 (at1 h l.b (l.o + Int.toNat s.snd * (67 : Nat)) (Value.int IntKind.i64 n) ∧
 atBytes h l.b (l.o + Int.toNat s.snd * (67 : Nat) + (1 : Nat)) (32 : Nat) b ∧
 at1 h l.b (l.o + Int.toNat s.snd * (67 : Nat) + (1 : Nat) + (32 : Nat)) (Value.int IntKind.i64 n_1) ∧
 atBytes h l.b (l.o + Int.toNat s.snd * (67 : Nat) + (1 : Nat) + (32 : Nat) + (1 : Nat)) (32 : Nat) b_1 ∧
 at1 h l.b (l.o + Int.toNat s.snd * (67 : Nat) + (1 : Nat) + (32 : Nat) + (1 : Nat) + (32 : Nat))
 (Value.string (ByteArray.mk (List.toArray s_1)))) ∧
 Vc.Bind
 (newTV h
 (TV.agg
 [TV.int IntKind.i64 (0 : Int), TV.bytes (32 : Nat) (Bs.zero (32 : Nat)), TV.int IntKind.i64 (0 : Int),
 TV.bytes (32 : Nat) (Bs.zero (32 : Nat)), TV.str []])
 (83 : Nat))
 fun (h_1 : Array Obj) ↦
 wok h_1 (Array.size h) (0 : Nat) (67 : Nat) ∧
 Vc.Bind
 (TV.put h_1 (Array.size h) (0 : Nat)
 (TV.agg [TV.int IntKind.i64 n, TV.bytes (32 : Nat) b, TV.int IntKind.i64 n_1, TV.bytes (32 : Nat) b_1, TV.str s_1]))
 fun (h_2 : Array Obj) ↦
 ∃ (s_2 : List UInt8),
 at1 h_2 (Array.size h) (66 : Nat) (Value.string (ByteArray.mk (List.toArray s_2))) ∧
 CallsH Tryz.prog (39 : Nat) (TVs.vals [TV.str s_2]) h_2 fun (v : Value) (h_3 : Array Obj) ↦
 ∃ (n : Int),
 ∃ (n_2 : Int),
 ∃ (b : Bs (32 : Nat)),
 ∃ (n_3 : Int),
 ∃ (n_4 : Int),
 ∃ (s_3 : Sl),
 ∃ (b_2 : Bs (16 : Nat)),
 ∃ (b_3 : Bool),
 v =
 TV.val
 (TV.tup
 [TV.agg
 [TV.int IntKind.i64 n, TV.int IntKind.i64 n_2, TV.bytes (32 : Nat) b, TV.int IntKind.i64 n_3,
 TV.int IntKind.u64 n_4, TV.slice s_3, TV.bytes (16 : Nat) b_2],
 TV.bool b_3]) ∧
 Vc.Bind
 (newTV h_3
 (TV.agg
 [TV.int IntKind.i64 (0 : Int), TV.int IntKind.i64 (0 : Int), TV.bytes (32 : Nat) (Bs.zero (32 : Nat)),
 TV.int IntKind.i64 (0 : Int), TV.int IntKind.u64 (0 : Int), TV.slice Sl.nil,
 TV.bytes (16 : Nat) (Bs.zero (16 : Nat))])
 (58 : Nat))
 fun (h_4 : Array Obj) ↦
 wok h_4 (Array.size h_3) (0 : Nat) (53 : Nat) ∧
 Vc.Bind
 (TV.put h_4 (Array.size h_3) (0 : Nat)
 (TV.agg
 [TV.int IntKind.i64 n, TV.int IntKind.i64 n_2, TV.bytes (32 : Nat) b, TV.int IntKind.i64 n_3,
 TV.int IntKind.u64 n_4, TV.slice s_3, TV.bytes (16 : Nat) b_2]))
 fun (h_5 : Array Obj) ↦
 ∃ (b : Bs (32 : Nat)),
 atBytes h_5 (Array.size h) (1 : Nat) (32 : Nat) b ∧
 ∃ (n : Int),
 ∃ (n_5 : Int),
 ∃ (b_4 : Bs (32 : Nat)),
 ∃ (n_6 : Int),
 ∃ (n_7 : Int),
 ∃ (s_4 : Sl),
 ∃ (b_5 : Bs (16 : Nat)),
 (at1 h_5 (Array.size h_3) (0 : Nat) (Value.int IntKind.i64 n) ∧
 at1 h_5 (Array.size h_3) (1 : Nat) (Value.int IntKind.i64 n_5) ∧
 atBytes h_5 (Array.size h_3) (2 : Nat) (32 : Nat) b_4 ∧
 at1 h_5 (Array.size h_3) (34 : Nat) (Value.int IntKind.i64 n_6) ∧
 at1 h_5 (Array.size h_3) (35 : Nat) (Value.int IntKind.u64 n_7) ∧
 at1 h_5 (Array.size h_3) (36 : Nat) (slVal s_4) ∧
 atBytes h_5 (Array.size h_3) (37 : Nat) (16 : Nat) b_5) ∧
 ∃ (new : List Value),
 slAt
 (Array.push h_5
 (row
 (TVs.cells
 [TV.agg
 [TV.bytes (32 : Nat) b,
 TV.agg
 [TV.int IntKind.i64 n, TV.int IntKind.i64 n_5,
 TV.bytes (32 : Nat) b_4, TV.int IntKind.i64 n_6,
 TV.int IntKind.u64 n_7, TV.slice s_4,
 TV.bytes (16 : Nat) b_5]]])
 (74 : Nat)))
 (Sl.mk (some (Loc.mk (Array.size h_5) (0 : Nat))) (1 : Nat) (1 : Nat))
 (85 : Nat) new ∧
 (∀ (v : Value), v ∈ new → isOne v = true) ∧
 vcAppend YtldocdpdjdekiaaGreat.ctx (74 : Nat) s.fst (1 : Nat) new
 (Array.push h_5
 (row
 (TVs.cells
 [TV.agg
 [TV.bytes (32 : Nat) b,
 TV.agg
 [TV.int IntKind.i64 n, TV.int IntKind.i64 n_5,
 TV.bytes (32 : Nat) b_4, TV.int IntKind.i64 n_6,
 TV.int IntKind.u64 n_7, TV.slice s_4,
 TV.bytes (16 : Nat) b_5]]])
 (74 : Nat)))
 fun (s_5 : Sl) (h : Array Obj) ↦
 K (s_5, IntKind.wrap IntKind.i64 (s.snd + (1 : Int))) h)
 (R (TV.val (TV.slice s.fst)) h)

theorem orphans_blocks_calls (list : Sl) (h : Heap) (R : Value → Heap → Prop) (H : orphans_blocks_vc list h R) : CallsH Tryz.prog 57 (TVs.vals [TV.slice list]) h R :=
 vcFn_sound (C := ctx) ctx_ok (fn := Tryz.f57) Tryz.func57 ((by kernel_rfl : orphans_blocks_vc list h R = vcFn ctx Tryz.f57 [TV.slice list] h R) ▸ H)


def orphans_Orphans_Of_1_vc (x_Slot : Int) (x_Root : Bs (32 : Nat)) (x_Peer : Int) (x_For : Bs (32 : Nat)) (x_Text : List UInt8) (p : Option Go.Vc.Loc) (h : Heap) (R : Value → Heap → Prop) : Prop :=
 Vc.Bind
 (newTV h (TV.agg [TV.int IntKind.i64 x_Slot, TV.bytes (32 : Nat) x_Root, TV.int IntKind.i64 x_Peer, TV.bytes (32 : Nat) x_For, TV.str x_Text]) (83 : Nat))
 fun (h_1 : Array Obj) ↦
 ∃ (b : Bs (32 : Nat)),
 atBytes h_1 (Array.size h) (34 : Nat) (32 : Nat) b ∧
 Nn p fun (l : Go.Vc.Loc) ↦ ∃ (b_1 : Bs (32 : Nat)), atBytes h_1 l.b l.o (32 : Nat) b_1 ∧ R (TV.val (TV.bool (decide (b.l = b_1.l)))) h_1

theorem orphans_Orphans_Of_1_calls (x_Slot : Int) (x_Root : Bs (32 : Nat)) (x_Peer : Int) (x_For : Bs (32 : Nat)) (x_Text : List UInt8) (p : Option Go.Vc.Loc) (h : Heap) (R : Value → Heap → Prop) (H : orphans_Orphans_Of_1_vc x_Slot x_Root x_Peer x_For x_Text p h R) : CallsH Tryz.prog 58 (TVs.vals [TV.agg [TV.int IntKind.i64 x_Slot, TV.bytes (32 : Nat) x_Root, TV.int IntKind.i64 x_Peer, TV.bytes (32 : Nat) x_For, TV.str x_Text], TV.ptr p]) h R :=
 vcFn_sound (C := ctx) ctx_ok (fn := Tryz.f58) Tryz.func58 ((by kernel_rfl : orphans_Orphans_Of_1_vc x_Slot x_Root x_Peer x_For x_Text p h R = vcFn ctx Tryz.f58 [TV.agg [TV.int IntKind.i64 x_Slot, TV.bytes (32 : Nat) x_Root, TV.int IntKind.i64 x_Peer, TV.bytes (32 : Nat) x_For, TV.str x_Text], TV.ptr p] h R) ▸ H)


def orphans_Orphans_Drop_1_vc (x_Slot : Int) (x_Root : Bs (32 : Nat)) (x_Peer : Int) (x_For : Bs (32 : Nat)) (x_Text : List UInt8) (p : Option Go.Vc.Loc) (h : Heap) (R : Value → Heap → Prop) : Prop :=
 Vc.Bind
 (newTV h (TV.agg [TV.int IntKind.i64 x_Slot, TV.bytes (32 : Nat) x_Root, TV.int IntKind.i64 x_Peer, TV.bytes (32 : Nat) x_For, TV.str x_Text]) (83 : Nat))
 fun (h_1 : Array Obj) ↦
 ∃ (n : Int),
 at1 h_1 (Array.size h) (0 : Nat) (Value.int IntKind.i64 n) ∧
 Nn p fun (l : Go.Vc.Loc) ↦ ∃ (n_1 : Int), at1 h_1 l.b l.o (Value.int IntKind.i64 n_1) ∧ R (TV.val (TV.bool (decide (n ≤ n_1)))) h_1

theorem orphans_Orphans_Drop_1_calls (x_Slot : Int) (x_Root : Bs (32 : Nat)) (x_Peer : Int) (x_For : Bs (32 : Nat)) (x_Text : List UInt8) (p : Option Go.Vc.Loc) (h : Heap) (R : Value → Heap → Prop) (H : orphans_Orphans_Drop_1_vc x_Slot x_Root x_Peer x_For x_Text p h R) : CallsH Tryz.prog 56 (TVs.vals [TV.agg [TV.int IntKind.i64 x_Slot, TV.bytes (32 : Nat) x_Root, TV.int IntKind.i64 x_Peer, TV.bytes (32 : Nat) x_For, TV.str x_Text], TV.ptr p]) h R :=
 vcFn_sound (C := ctx) ctx_ok (fn := Tryz.f56) Tryz.func56 ((by kernel_rfl : orphans_Orphans_Drop_1_vc x_Slot x_Root x_Peer x_For x_Text p h R = vcFn ctx Tryz.f56 [TV.agg [TV.int IntKind.i64 x_Slot, TV.bytes (32 : Nat) x_Root, TV.int IntKind.i64 x_Peer, TV.bytes (32 : Nat) x_For, TV.str x_Text], TV.ptr p] h R) ▸ H)


def early_Early_Ripe_1_vc (x_Slot : Int) (x_Root : Bs (32 : Nat)) (x_Peer : Int) (x_For : Bs (32 : Nat)) (x_Text : List UInt8) (p : Option Go.Vc.Loc) (h : Heap) (R : Value → Heap → Prop) : Prop :=
 Vc.Bind
 (newTV h (TV.agg [TV.int IntKind.i64 x_Slot, TV.bytes (32 : Nat) x_Root, TV.int IntKind.i64 x_Peer, TV.bytes (32 : Nat) x_For, TV.str x_Text]) (83 : Nat))
 fun (h_1 : Array Obj) ↦
 ∃ (n : Int),
 at1 h_1 (Array.size h) (0 : Nat) (Value.int IntKind.i64 n) ∧
 Nn p fun (l : Go.Vc.Loc) ↦ ∃ (n_1 : Int), at1 h_1 l.b l.o (Value.int IntKind.i64 n_1) ∧ R (TV.val (TV.bool (decide (n < n_1)))) h_1

theorem early_Early_Ripe_1_calls (x_Slot : Int) (x_Root : Bs (32 : Nat)) (x_Peer : Int) (x_For : Bs (32 : Nat)) (x_Text : List UInt8) (p : Option Go.Vc.Loc) (h : Heap) (R : Value → Heap → Prop) (H : early_Early_Ripe_1_vc x_Slot x_Root x_Peer x_For x_Text p h R) : CallsH Tryz.prog 42 (TVs.vals [TV.agg [TV.int IntKind.i64 x_Slot, TV.bytes (32 : Nat) x_Root, TV.int IntKind.i64 x_Peer, TV.bytes (32 : Nat) x_For, TV.str x_Text], TV.ptr p]) h R :=
 vcFn_sound (C := ctx) ctx_ok (fn := Tryz.f42) Tryz.func42 ((by kernel_rfl : early_Early_Ripe_1_vc x_Slot x_Root x_Peer x_For x_Text p h R = vcFn ctx Tryz.f42 [TV.agg [TV.int IntKind.i64 x_Slot, TV.bytes (32 : Nat) x_Root, TV.int IntKind.i64 x_Peer, TV.bytes (32 : Nat) x_For, TV.str x_Text], TV.ptr p] h R) ▸ H)


def orphans_Orphans_Of_vc (o : Option Go.Vc.Loc) (parent : Bs (32 : Nat)) (h : Heap) (R : Value → Heap → Prop) : Prop :=
 Vc.Bind (newTV h (TV.bytes (32 : Nat) parent) (24 : Nat)) fun (h_1 : Array Obj) ↦
 If (Option.isNone o) (R (TV.val (TV.slice Sl.nil)) h_1)
 (Nn o fun (l : Go.Vc.Loc) ↦
 ∃ (p : Option Go.Vc.Loc),
 at1 h_1 l.b l.o (Value.pointer (Option.map Loc.addr p)) ∧
 CallsH Tryz.prog (43 : Nat) (TVs.vals [TV.ptr p, TV.fn (Fn.func (58 : Nat)) [] [TV.ptr (some (Loc.mk (Array.size h) (0 : Nat)))]]) h_1
 fun (v : Value) (h : Array Obj) ↦
 ∃ (s : Sl),
 v = TV.val (TV.slice s) ∧
 CallsH Tryz.prog (57 : Nat) (TVs.vals [TV.slice s]) h fun (v : Value) (h : Array Obj) ↦
 ∃ (s : Sl), v = TV.val (TV.slice s) ∧ R (TV.val (TV.slice s)) h)

theorem orphans_Orphans_Of_calls (o : Option Go.Vc.Loc) (parent : Bs (32 : Nat)) (h : Heap) (R : Value → Heap → Prop) (H : orphans_Orphans_Of_vc o parent h R) : CallsH Tryz.prog 30 (TVs.vals [TV.ptr o, TV.bytes (32 : Nat) parent]) h R :=
 vcFn_sound (C := ctx) ctx_ok (fn := Tryz.f30) Tryz.func30 ((by kernel_rfl : orphans_Orphans_Of_vc o parent h R = vcFn ctx Tryz.f30 [TV.ptr o, TV.bytes (32 : Nat) parent] h R) ▸ H)


def orphans_Orphans_Drop_vc (o : Option Go.Vc.Loc) (slot : Int) (h : Heap) (R : Value → Heap → Prop) : Prop :=
 Vc.Bind (newTV h (TV.int IntKind.i64 slot) (3 : Nat)) fun (h_1 : Array Obj) ↦
 If (Option.isNone o) (R (TV.val (TV.int IntKind.i64 (0 : Int))) h_1)
 (Nn o fun (l : Go.Vc.Loc) ↦
 ∃ (p : Option Go.Vc.Loc),
 at1 h_1 l.b l.o (Value.pointer (Option.map Loc.addr p)) ∧
 CallsH Tryz.prog (43 : Nat) (TVs.vals [TV.ptr p, TV.fn (Fn.func (56 : Nat)) [] [TV.ptr (some (Loc.mk (Array.size h) (0 : Nat)))]]) h_1
 fun (v : Value) (h : Array Obj) ↦ ∃ (s : Sl), v = TV.val (TV.slice s) ∧ R (TV.val (TV.int IntKind.i64 (↑s.len : Int))) h)

theorem orphans_Orphans_Drop_calls (o : Option Go.Vc.Loc) (slot : Int) (h : Heap) (R : Value → Heap → Prop) (H : orphans_Orphans_Drop_vc o slot h R) : CallsH Tryz.prog 28 (TVs.vals [TV.ptr o, TV.int IntKind.i64 slot]) h R :=
 vcFn_sound (C := ctx) ctx_ok (fn := Tryz.f28) Tryz.func28 ((by kernel_rfl : orphans_Orphans_Drop_vc o slot h R = vcFn ctx Tryz.f28 [TV.ptr o, TV.int IntKind.i64 slot] h R) ▸ H)


def orphans_Orphans_Roots_vc (o : Option Go.Vc.Loc) (h : Heap) (R : Value → Heap → Prop) : Prop :=
 If (!Option.isNone o)
 (Nn o fun (l : Go.Vc.Loc) ↦
 ∃ (p : Option Go.Vc.Loc),
 at1 h l.b l.o (Value.pointer (Option.map Loc.addr p)) ∧
 CallsH Tryz.prog (59 : Nat) (TVs.vals [TV.ptr p]) h fun (v : Value) (h : Heap) ↦
 ∃ (s : Sl),
 v = TV.val (TV.slice s) ∧
 Go.Vc.Loop (Sl.mk none (0 : Nat) (0 : Nat), (0 : Int)) h fun (s_1 : Sl × Int) (h : Array Obj) (K : Sl × Int → Array Obj → Prop) ↦
 If (decide (s_1.snd < (↑s.len : Int)))
 ((0 : Int) ≤ s_1.snd ∧
 s_1.snd < (↑s.len : Int) ∧
 Nn s.a fun (l : Go.Vc.Loc) ↦
 ∃ (n : Int),
 ∃ (b : Bs (32 : Nat)),
 ∃ (n_1 : Int),
 ∃ (b_1 : Bs (32 : Nat)),
 ∃ (s : List UInt8),
 (at1 h l.b (l.o + Int.toNat s_1.snd * (67 : Nat)) (Value.int IntKind.i64 n) ∧
 atBytes h l.b (l.o + Int.toNat s_1.snd * (67 : Nat) + (1 : Nat)) (32 : Nat) b ∧
 at1 h l.b (l.o + Int.toNat s_1.snd * (67 : Nat) + (1 : Nat) + (32 : Nat)) (Value.int IntKind.i64 n_1) ∧
 atBytes h l.b (l.o + Int.toNat s_1.snd * (67 : Nat) + (1 : Nat) + (32 : Nat) + (1 : Nat)) (32 : Nat) b_1 ∧
 at1 h l.b (l.o + Int.toNat s_1.snd * (67 : Nat) + (1 : Nat) + (32 : Nat) + (1 : Nat) + (32 : Nat))
 (Value.string (ByteArray.mk (List.toArray s)))) ∧
 Vc.Bind
 (newTV h
 (TV.agg
 [TV.int IntKind.i64 (0 : Int), TV.bytes (32 : Nat) (Bs.zero (32 : Nat)), TV.int IntKind.i64 (0 : Int),
 TV.bytes (32 : Nat) (Bs.zero (32 : Nat)), TV.str []])
 (83 : Nat))
 fun (h_1 : Array Obj) ↦
 wok h_1 (Array.size h) (0 : Nat) (67 : Nat) ∧
 Vc.Bind
 (TV.put h_1 (Array.size h) (0 : Nat)
 (TV.agg [TV.int IntKind.i64 n, TV.bytes (32 : Nat) b, TV.int IntKind.i64 n_1, TV.bytes (32 : Nat) b_1, TV.str s]))
 fun (h_2 : Array Obj) ↦
 ∃ (b : Bs (32 : Nat)),
 atBytes h_2 (Array.size h) (1 : Nat) (32 : Nat) b ∧
 ∃ (new : List Value),
 slAt (Array.push h_2 (row (TVs.cells [TV.bytes (32 : Nat) b]) (24 : Nat)))
 (Sl.mk (some (Loc.mk (Array.size h_2) (0 : Nat))) (1 : Nat) (1 : Nat)) (32 : Nat) new ∧
 (∀ (v : Value), v ∈ new → isOne v = true) ∧
 vcAppend YtldocdpdjdekiaaGreat.ctx (24 : Nat) s_1.fst (1 : Nat) new
 (Array.push h_2 (row (TVs.cells [TV.bytes (32 : Nat) b]) (24 : Nat))) fun (s : Sl) (h : Array Obj) ↦
 K (s, IntKind.wrap IntKind.i64 (s_1.snd + (1 : Int))) h)
 (R (TV.val (TV.slice s_1.fst)) h))
 (R (TV.val (TV.slice Sl.nil)) h)

theorem orphans_Orphans_Roots_calls (o : Option Go.Vc.Loc) (h : Heap) (R : Value → Heap → Prop) (H : orphans_Orphans_Roots_vc o h R) : CallsH Tryz.prog 36 (TVs.vals [TV.ptr o]) h R :=
 vcFn_sound (C := ctx) ctx_ok (fn := Tryz.f36) Tryz.func36 ((by kernel_rfl : orphans_Orphans_Roots_vc o h R = vcFn ctx Tryz.f36 [TV.ptr o] h R) ▸ H)


def early_Early_Ripe_vc (e : Option Go.Vc.Loc) (now : Int) (h : Heap) (R : Value → Heap → Prop) : Prop :=
 Vc.Bind (newTV h (TV.int IntKind.i64 now) (3 : Nat)) fun (h_1 : Array Obj) ↦
 If (Option.isNone e) (R (TV.val (TV.slice Sl.nil)) h_1)
 (Nn e fun (l : Go.Vc.Loc) ↦
 ∃ (p : Option Go.Vc.Loc),
 at1 h_1 l.b l.o (Value.pointer (Option.map Loc.addr p)) ∧
 CallsH Tryz.prog (43 : Nat) (TVs.vals [TV.ptr p, TV.fn (Fn.func (42 : Nat)) [] [TV.ptr (some (Loc.mk (Array.size h) (0 : Nat)))]]) h_1
 fun (v : Value) (h : Array Obj) ↦
 ∃ (s : Sl),
 v = TV.val (TV.slice s) ∧
 Go.Vc.Loop (Sl.mk none (0 : Nat) (0 : Nat), (0 : Int)) h fun (s_1 : Sl × Int) (h : Array Obj) (K : Sl × Int → Array Obj → Prop) ↦
 If (decide (s_1.snd < (↑s.len : Int)))
 ((0 : Int) ≤ s_1.snd ∧
 s_1.snd < (↑s.len : Int) ∧
 Nn s.a fun (l : Go.Vc.Loc) ↦
 ∃ (n : Int),
 ∃ (b : Bs (32 : Nat)),
 ∃ (n_1 : Int),
 ∃ (b_1 : Bs (32 : Nat)),
 ∃ (s : List UInt8),
 (at1 h l.b (l.o + Int.toNat s_1.snd * (67 : Nat)) (Value.int IntKind.i64 n) ∧
 atBytes h l.b (l.o + Int.toNat s_1.snd * (67 : Nat) + (1 : Nat)) (32 : Nat) b ∧
 at1 h l.b (l.o + Int.toNat s_1.snd * (67 : Nat) + (1 : Nat) + (32 : Nat)) (Value.int IntKind.i64 n_1) ∧
 atBytes h l.b (l.o + Int.toNat s_1.snd * (67 : Nat) + (1 : Nat) + (32 : Nat) + (1 : Nat)) (32 : Nat) b_1 ∧
 at1 h l.b (l.o + Int.toNat s_1.snd * (67 : Nat) + (1 : Nat) + (32 : Nat) + (1 : Nat) + (32 : Nat))
 (Value.string (ByteArray.mk (List.toArray s)))) ∧
 Vc.Bind
 (newTV h
 (TV.agg
 [TV.int IntKind.i64 (0 : Int), TV.bytes (32 : Nat) (Bs.zero (32 : Nat)), TV.int IntKind.i64 (0 : Int),
 TV.bytes (32 : Nat) (Bs.zero (32 : Nat)), TV.str []])
 (83 : Nat))
 fun (h_2 : Array Obj) ↦
 wok h_2 (Array.size h) (0 : Nat) (67 : Nat) ∧
 Vc.Bind
 (TV.put h_2 (Array.size h) (0 : Nat)
 (TV.agg [TV.int IntKind.i64 n, TV.bytes (32 : Nat) b, TV.int IntKind.i64 n_1, TV.bytes (32 : Nat) b_1, TV.str s]))
 fun (h_3 : Array Obj) ↦
 ∃ (s : List UInt8),
 at1 h_3 (Array.size h) (66 : Nat) (Value.string (ByteArray.mk (List.toArray s))) ∧
 CallsH Tryz.prog (39 : Nat) (TVs.vals [TV.str s]) h_3 fun (v : Value) (h : Array Obj) ↦
 ∃ (n : Int),
 ∃ (n_2 : Int),
 ∃ (b : Bs (32 : Nat)),
 ∃ (n_3 : Int),
 ∃ (n_4 : Int),
 ∃ (s : Sl),
 ∃ (b_2 : Bs (16 : Nat)),
 ∃ (b_3 : Bool),
 v =
 TV.val
 (TV.tup
 [TV.agg
 [TV.int IntKind.i64 n, TV.int IntKind.i64 n_2, TV.bytes (32 : Nat) b,
 TV.int IntKind.i64 n_3, TV.int IntKind.u64 n_4, TV.slice s,
 TV.bytes (16 : Nat) b_2],
 TV.bool b_3]) ∧
 Vc.Bind
 (newTV h
 (TV.agg
 [TV.int IntKind.i64 (0 : Int), TV.int IntKind.i64 (0 : Int),
 TV.bytes (32 : Nat) (Bs.zero (32 : Nat)), TV.int IntKind.i64 (0 : Int),
 TV.int IntKind.u64 (0 : Int), TV.slice Sl.nil,
 TV.bytes (16 : Nat) (Bs.zero (16 : Nat))])
 (58 : Nat))
 fun (h_4 : Array Obj) ↦
 wok h_4 (Array.size h) (0 : Nat) (53 : Nat) ∧
 Vc.Bind
 (TV.put h_4 (Array.size h) (0 : Nat)
 (TV.agg
 [TV.int IntKind.i64 n, TV.int IntKind.i64 n_2, TV.bytes (32 : Nat) b,
 TV.int IntKind.i64 n_3, TV.int IntKind.u64 n_4, TV.slice s,
 TV.bytes (16 : Nat) b_2]))
 fun (h_5 : Array Obj) ↦
 ∃ (n : Int),
 ∃ (n_5 : Int),
 ∃ (b : Bs (32 : Nat)),
 ∃ (n_6 : Int),
 ∃ (n_7 : Int),
 ∃ (s : Sl),
 ∃ (b_4 : Bs (16 : Nat)),
 (at1 h_5 (Array.size h) (0 : Nat) (Value.int IntKind.i64 n) ∧
 at1 h_5 (Array.size h) (1 : Nat) (Value.int IntKind.i64 n_5) ∧
 atBytes h_5 (Array.size h) (2 : Nat) (32 : Nat) b ∧
 at1 h_5 (Array.size h) (34 : Nat) (Value.int IntKind.i64 n_6) ∧
 at1 h_5 (Array.size h) (35 : Nat)
 (Value.int IntKind.u64 n_7) ∧
 at1 h_5 (Array.size h) (36 : Nat) (slVal s) ∧
 atBytes h_5 (Array.size h) (37 : Nat) (16 : Nat) b_4) ∧
 ∃ (new : List Value),
 slAt
 (Array.push h_5
 (row
 (TVs.cells
 [TV.agg
 [TV.int IntKind.i64 n, TV.int IntKind.i64 n_5,
 TV.bytes (32 : Nat) b, TV.int IntKind.i64 n_6,
 TV.int IntKind.u64 n_7, TV.slice s,
 TV.bytes (16 : Nat) b_4]])
 (58 : Nat)))
 (Sl.mk (some (Loc.mk (Array.size h_5) (0 : Nat))) (1 : Nat)
 (1 : Nat))
 (53 : Nat) new ∧
 (∀ (v : Value), v ∈ new → isOne v = true) ∧
 vcAppend YtldocdpdjdekiaaGreat.ctx (58 : Nat) s_1.fst (1 : Nat)
 new
 (Array.push h_5
 (row
 (TVs.cells
 [TV.agg
 [TV.int IntKind.i64 n, TV.int IntKind.i64 n_5,
 TV.bytes (32 : Nat) b, TV.int IntKind.i64 n_6,
 TV.int IntKind.u64 n_7, TV.slice s,
 TV.bytes (16 : Nat) b_4]])
 (58 : Nat)))
 fun (s : Sl) (h : Array Obj) ↦
 K (s, IntKind.wrap IntKind.i64 (s_1.snd + (1 : Int))) h)
 (R (TV.val (TV.slice s_1.fst)) h))

theorem early_Early_Ripe_calls (e : Option Go.Vc.Loc) (now : Int) (h : Heap) (R : Value → Heap → Prop) (H : early_Early_Ripe_vc e now h R) : CallsH Tryz.prog 11 (TVs.vals [TV.ptr e, TV.int IntKind.i64 now]) h R :=
 vcFn_sound (C := ctx) ctx_ok (fn := Tryz.f11) Tryz.func11 ((by kernel_rfl : early_Early_Ripe_vc e now h R = vcFn ctx Tryz.f11 [TV.ptr e, TV.int IntKind.i64 now] h R) ▸ H)


end Go.Proofs.YtldocdpdjdekiaaGreat
end

section
/- Blocks and votes that wait, in the program: what comes out. -/
namespace Go.Proofs.YtldocdpdjdekiaaGreat.Pool
open Go Go.Vc
open Board (Dm Ms decF nameF zeroM ms_at put_n mssz mssz1 decode_spec bsz bools take_snoc)

def dmOf (text : List UInt8) : Dm := (decF text).getD Dm.zero

theorem dmOf_some {text : List UInt8} {d : Dm} (h : decF text = some d) : dmOf text = d := by unfold dmOf; rw [h]; rfl
theorem dmOf_none {text : List UInt8} (h : decF text = none) : dmOf text = Dm.zero := by unfold dmOf; rw [h]; rfl

theorem decode2_spec {R : Value → Heap → Prop} {h : Heap} {s : List UInt8} (hs : s.length < 100000) (hr : ∀ h' b ok, Elems 1 h' b (bools (dmOf s).row) → Ext h h' → (∀ l, b.a = some l → h.size ≤ l.b ∧ l.b < h'.size) → R (TV.tup [((dmOf s).ms b).tv, .bool ok]).val h') :
    CallsH Tryz.prog 39 (TVs.vals [.str s]) h R := by
  refine decode_spec hs (fun hn h' x => ?_) fun d h' b hd e x loc => ?_
  · have := hr h' Sl.nil false
    rw [dmOf_none hn] at this
    exact this (Elems.nil_ 1 h') x fun l hl => by cases hl
  · have := hr h' b true
    rw [dmOf_some hd] at this
    exact this e x loc

/-- A message in memory, with a name. -/
structure Bk where
  r : Bs 32
  d : Dm
  b : Sl
def Bk.ms (k : Bk) : Ms := k.d.ms k.b
def Bk.tvM (k : Bk) : TV := k.ms.tv
def Bk.tvB (k : Bk) : TV := .agg [.bytes 32 k.r, k.ms.tv]
def Bk.of (k : Bk) : Bs 32 × Dm := (k.r, k.d)

theorem Bk.sizeM (k : Bk) : k.tvM.size = 53 := mssz1.symm
theorem ms_plain (m : Ms) : m.tv.plain = true := by simp only [Ms.tv, TV.plain, TVs.plain, Bool.and_self]
theorem Bk.plainM (k : Bk) : k.tvM.plain = true := ms_plain _
theorem Bk.sizeB (k : Bk) : k.tvB.size = 85 := by
  have := k.sizeM
  unfold Bk.tvM at this
  simp only [Bk.tvB, TV.size, TVs.size, this]
theorem Bk.plainB (k : Bk) : k.tvB.plain = true := by
  have := ms_plain k.ms
  simp only [Bk.tvB, TV.plain, TVs.plain, this, Bool.and_self]

/-- The bits of messages stand apart from a row. -/
def Kept (n : Nat) (hh : Heap) (t : Sl) (bs : List Bk) : Prop := ∀ k ∈ bs, Elems 1 hh k.b (bools k.d.row) ∧ ∀ l, k.b.a = some l → n ≤ l.b ∧ l.b < hh.size ∧ ¬ In t l.b

theorem Kept.nil (n : Nat) (hh : Heap) (t : Sl) : Kept n hh t [] := fun k hk => by cases hk

theorem Kept.ext {n : Nat} {hh h' : Heap} {t : Sl} {bs : List Bk} (K : Kept n hh t bs) (x : Ext hh h') : Kept n h' t bs := fun k hk =>
  ⟨(K k hk).1.ext x, fun l hl => ⟨((K k hk).2 l hl).1, by have := ((K k hk).2 l hl).2.1; have := x.size; omega, ((K k hk).2 l hl).2.2⟩⟩

theorem Kept.step {n T sz : Nat} {hh h5 h9 : Heap} {t t' : Sl} {ts : List TV} {bs : List Bk} {k : Bk} (K : Kept n hh t bs) (o : Own T sz hh t ts) (x : Ext hh h5) (hn : n ≤ hh.size) (e : Elems 1 h5 k.b (bools k.d.row))
    (loc : ∀ l, k.b.a = some l → hh.size ≤ l.b ∧ l.b < h5.size) (f : Only (In t) h5 h9) (b9 : ∀ l, t'.a = some l → (∃ l', t.a = some l' ∧ l'.b = l.b) ∨ h5.size ≤ l.b) : Kept n h9 t' (bs ++ [k]) := by
  have hin : ∀ i, In t i → i < hh.size := fun i ⟨l, hl, hi⟩ => by have := o.lt l hl; omega
  have hin' : ∀ i, In t' i → In t i ∨ h5.size ≤ i := fun i ⟨l, hl, hi⟩ => by
    rcases b9 l hl with ⟨l', h1, h2⟩ | h1
    · exact .inl ⟨l', h1, by omega⟩
    · exact .inr (by omega)
  have hz := x.size
  have hf := f.size
  intro m hm
  rcases List.mem_append.1 hm with h1 | h1
  · obtain ⟨g1, g2⟩ := K m h1
    refine ⟨(g1.ext x).only f fun l hl => (g2 l hl).2.2, fun l hl => ⟨(g2 l hl).1, by have := (g2 l hl).2.1; omega, fun hx => ?_⟩⟩
    rcases hin' _ hx with h3 | h3
    · exact (g2 l hl).2.2 h3
    · have := (g2 l hl).2.1; omega
  · rw [List.mem_singleton.1 h1]
    refine ⟨e.only f fun l hl hx => by have := hin _ hx; have := loc l hl; omega, fun l hl => ⟨by have := loc l hl; omega, by have := loc l hl; omega, fun hx => ?_⟩⟩
    rcases hin' _ hx with h3 | h3
    · have := hin _ h3; have := loc l hl; omega
    · have := loc l hl; omega

section
variable {R : Value → Heap → Prop} {h : Heap} {o b : Nat} {A : Sl} {S L : List It} {most quota : Int} {T : TypeId}

theorem bytes74 : (ctx.ti 74).bytes = 136 := by kernel_rfl
theorem size74 : (ctx.ti 74).size = 85 := by kernel_rfl
theorem zsize74 : (ctx.ti 74).z.size = 85 := by kernel_rfl
theorem bytes58 : (ctx.ti 58).bytes = 104 := by kernel_rfl
theorem size58 : (ctx.ti 58).size = 53 := by kernel_rfl
theorem zsize58 : (ctx.ti 58).z.size = 53 := by kernel_rfl
theorem bytes24 : (ctx.ti 24).bytes = 32 := by kernel_rfl
theorem size24 : (ctx.ti 24).size = 32 := by kernel_rfl
theorem zsize24 : (ctx.ti 24).z.size = 32 := by kernel_rfl
theorem b32 {x : Bs 32} : (TV.bytes 32 x).size = 32 := by simp only [TV.size]
theorem p32 {x : Bs 32} : (TV.bytes 32 x).plain = true := by simp only [TV.plain]

theorem blocks_spec {s : Sl} (e : Elems 67 h s (its L)) (hl : L.length < 1000) (ht : ∀ x ∈ L, x.text.length < 1000)
    (hr : ∀ h' t (bs : List Bk), bs.map Bk.of = L.map (fun x => (x.root, dmOf x.text)) → Own 74 85 h' t (bs.map Bk.tvB) → Kept h.size h' t bs → Ext h h' → Fresh h t → R (TV.slice t).val h') : CallsH Tryz.prog 57 (TVs.vals [.slice s]) h R := by
  apply orphans_blocks_calls
  unfold orphans_blocks_vc
  have el := e.len
  rw [List.length_map] at el
  refine ⟨fun σ hh => 0 ≤ σ.2 ∧ σ.2 ≤ L.length ∧ Ext h hh ∧ Fresh h σ.1 ∧ ∃ bs : List Bk, bs.map Bk.of = (L.take σ.2.toNat).map (fun x => (x.root, dmOf x.text)) ∧ Own 74 85 hh σ.1 (bs.map Bk.tvB) ∧ Kept h.size hh σ.1 bs, fun σ _ => ((L.length : Int) - σ.2).toNat,
    ⟨Int.le_refl 0, by first | omega | (dsimp only; omega), Ext.refl _, (fun l hl => by cases hl), [], rfl, Own.nil _ _ _, Kept.nil _ _ _⟩, ?_⟩
  rintro ⟨t, i⟩ h2 ⟨i0, i1, x2, fr2, bs, hbs, o2, K2⟩
  dsimp only at i0 i1 x2 fr2 hbs o2 K2 ⊢
  have z2 := x2.size
  refine If.dec.2 ⟨fun hi => ?_, fun hi => ?_⟩
  · refine its_at (e.ext x2) i0 (by omega) fun l x _ hx => ?_
    refine newTV_in fun h3 v3 x3 s3 => put_in v3 (t := x.tv) rfl fun h4 v4 f4 s4 => ?_
    have x24 : Ext h2 h4 := Only.cut x3 f4 fun i hi => by omega
    have htx := ht x (List.mem_of_getElem? hx)
    have z24 := x24.size
    refine ⟨x.text, v_text v4, decode2_spec (by omega) fun h5 bb ok e5 x5 loc5 => ⟨_, _, _, _, _, _, _, _, rfl, ?_⟩⟩
    refine newTV_in fun h6 v6 x6 s6 => put_n (t0 := zeroM.tv) v6 (t := ((dmOf x.text).ms bb).tv) mssz1 mssz fun h7 v7 f7 s7 => ?_
    have x57 : Ext h5 h7 := Only.cut x6 f7 fun i hi => by omega
    have x27 := x24.trans (x5.trans x57)
    refine ⟨x.root, v_root (x := x) ((v4.ext x5).ext x57), ms_at v7 ?_⟩
    have tl := o2.len
    rw [List.length_map, ← List.length_map (f := Bk.of), hbs, List.length_map, List.length_take] at tl
    obtain ⟨k, hk⟩ : ∃ k, k = Bk.mk x.root (dmOf x.text) bb := ⟨_, rfl⟩
    have z5 := x5.size
    have z57 := x57.size
    refine append1 (C := ctx) (T := 74) (sz := 85) (x := k.tvB) size74 zsize74 (by rw [bytes74]; decide) (by rw [bytes74]; omega) (o2.ext x27) k.sizeB k.plainB (K := fun s_5 hh => _) ?_ |> fun H => by rw [hk] at H; exact H
    intro t8 h8 o8 f8 b8
    rw [wrap_i64 (n := i + 1) (by omega) (by omega)]
    have K8 := Kept.step (k := k) K2 o2 x27 z2 (by rw [hk]; exact e5.ext x57) (fun l hl => by rw [hk] at hl; have := loc5 l hl; omega) f8 b8
    have x8 : Ext h h8 := Only.cut (x2.trans x27) f8 fun j ⟨l, hl, hj⟩ => by have := fr2 l hl; omega
    have hi1 : (i + 1).toNat = i.toNat + 1 := by omega
    refine ⟨⟨by first | omega | (dsimp only; omega), by first | omega | (dsimp only; omega), x8, fun l hl => ?_, bs ++ [k], ?_, ?_, K8⟩, by first | omega | (dsimp only; omega)⟩
    · rcases b8 l hl with ⟨l', h1', h2'⟩ | h1'
      · have := fr2 l' h1'; omega
      · have := x27.size; omega
    · try dsimp only
      rw [hi1, take_snoc hx, List.map_append, List.map_append, hbs, hk]
      rfl
    · rw [List.map_append]
      exact o8
  · have hin : i.toNat = L.length := by omega
    rw [hin, List.take_length] at hbs
    exact hr h2 t bs hbs o2 K2 x2 fr2

/-! ### What is told of an item -/

theorem of1_spec {x : It} {c : Nat} {r : Bs 32} {T : TypeId} (v : Var T h c (.bytes 32 r)) (hr : ∀ h', Ext h h' → R (TV.bool (decide (x.fr = r))).val h') : CallsH Tryz.prog 58 (TVs.vals [x.tv, .ptr (some ⟨c, 0⟩)]) h R := by
  apply orphans_Orphans_Of_1_calls x.slot x.root x.peer x.fr x.text
  unfold orphans_Orphans_Of_1_vc
  refine newTV_in fun h1 v1 x1 s1 => ⟨x.fr, v_fr (x := x) v1, r, (v.ext x1).bytes, ?_⟩
  have : decide (x.fr.1 = r.1) = decide (x.fr = r) := decide_eq_decide.2 ⟨fun e => Bs.ext' e, fun e => by rw [e]⟩
  rw [this]
  exact hr h1 x1

theorem drop1_spec {x : It} {c : Nat} {n : Int} {T : TypeId} (v : Var T h c (.int .i64 n)) (hr : ∀ h', Ext h h' → R (TV.bool (decide (x.slot ≤ n))).val h') : CallsH Tryz.prog 56 (TVs.vals [x.tv, .ptr (some ⟨c, 0⟩)]) h R := by
  apply orphans_Orphans_Drop_1_calls x.slot x.root x.peer x.fr x.text
  unfold orphans_Orphans_Drop_1_vc
  exact newTV_in fun h1 v1 x1 s1 => ⟨x.slot, v_slot (x := x) v1, n, (v.ext x1).at1 rfl, hr h1 x1⟩

theorem ripe1_spec {x : It} {c : Nat} {n : Int} {T : TypeId} (v : Var T h c (.int .i64 n)) (hr : ∀ h', Ext h h' → R (TV.bool (decide (x.slot < n))).val h') : CallsH Tryz.prog 42 (TVs.vals [x.tv, .ptr (some ⟨c, 0⟩)]) h R := by
  apply early_Early_Ripe_1_calls x.slot x.root x.peer x.fr x.text
  unfold early_Early_Ripe_1_vc
  exact newTV_in fun h1 v1 x1 s1 => ⟨x.slot, v_slot (x := x) v1, n, (v.ext x1).at1 rfl, hr h1 x1⟩

/-- What came out stands apart from what waits. -/
structure Out (h h' : Heap) (o b : Nat) (A' : Sl) (t : Sl) (bs : List Bk) : Prop where
  ex : ∃ n, h.size ≤ n ∧ (∀ i, Mine b A' i → i < n) ∧ (∀ l, t.a = some l → n ≤ l.b) ∧ Kept n h' t bs

theorem oof_spec (w : WL 100 h o b A S most quota) (ht : ∀ x ∈ S, x.text.length < 1000) {r : Bs 32}
    (hr : ∀ h' A' t (bs : List Bk), WL 100 h' o b A' (S.filter fun x => !decide (x.fr = r)) most quota → Grown b A h A' h' → bs.map Bk.of = (S.filter fun x => decide (x.fr = r)).map (fun x => (x.root, dmOf x.text)) → Own 74 85 h' t (bs.map Bk.tvB) → Out h h' o b A' t bs → R (TV.slice t).val h') :
    CallsH Tryz.prog 30 (TVs.vals [.ptr (some ⟨o, 0⟩), .bytes 32 r]) h R := by
  apply orphans_Orphans_Of_calls
  unfold orphans_Orphans_Of_vc
  have few := w.pl.few
  refine newTV_in fun h1 v1 x1 s1 => If.no ⟨_, (w.var.ext x1).at1 rfl, ?_⟩
  refine take_spec (f := ⟨(TV.fn (.func 58) [] [.ptr (some ⟨h.size, 0⟩)]).val, rfl⟩) (pred := fun x => decide (x.fr = r)) (w.pl.ext x1) ⟨58, #[], #[(TV.ptr (some ⟨h.size, 0⟩)).val], rfl, ctx_ok.entP (by kernel_rfl), fun h' x R' x' hr' => of1_spec (x := x) (v1.ext x') hr'⟩ fun h2 A' out p2 o2 g2 fr2 ap2 => ⟨_, rfl, ?_⟩
  have hlen : (S.filter fun x => decide (x.fr = r)).length ≤ S.length := List.length_filter_le ..
  refine blocks_spec o2.elems (by omega) (fun x hx => ht x ((List.mem_filter.1 hx).1)) fun h3 t bs hbs o3 K3 x3 fr3 => ⟨_, rfl, ?_⟩
  have g3 : Grown b A h A' h3 := (Grown.of_ext x1).trans (g2.trans (.of_ext x3))
  have := g2.only.size
  have := x1.size
  exact hr h3 A' t bs (w.grown (p2.ext x3) g3) g3 hbs o3 ⟨h2.size, by omega, fun i hi => p2.lt hi, fr3, K3⟩

theorem oof_nil {r : Bs 32} (hr : ∀ h', Ext h h' → R (TV.slice Sl.nil).val h') : CallsH Tryz.prog 30 (TVs.vals [.ptr none, .bytes 32 r]) h R := by
  apply orphans_Orphans_Of_calls
  unfold orphans_Orphans_Of_vc
  exact newTV_in fun h1 v1 x1 s1 => If.yes (hr h1 x1)

theorem odrop_spec (w : WL 100 h o b A S most quota) {n : Int}
    (hr : ∀ h' A', WL 100 h' o b A' (S.filter fun x => !decide (x.slot ≤ n)) most quota → Grown b A h A' h' → R (TV.int .i64 ((S.filter fun x => decide (x.slot ≤ n)).length : Int)).val h') :
    CallsH Tryz.prog 28 (TVs.vals [.ptr (some ⟨o, 0⟩), .int .i64 n]) h R := by
  apply orphans_Orphans_Drop_calls
  unfold orphans_Orphans_Drop_vc
  refine newTV_in fun h1 v1 x1 s1 => If.no ⟨_, (w.var.ext x1).at1 rfl, ?_⟩
  refine take_spec (f := ⟨(TV.fn (.func 56) [] [.ptr (some ⟨h.size, 0⟩)]).val, rfl⟩) (pred := fun x => decide (x.slot ≤ n)) (w.pl.ext x1) ⟨56, #[], #[(TV.ptr (some ⟨h.size, 0⟩)).val], rfl, ctx_ok.entP (by kernel_rfl), fun h' x R' x' hr' => drop1_spec (x := x) (v1.ext x') hr'⟩ fun h2 A' out p2 o2 g2 fr2 ap2 => ⟨_, rfl, ?_⟩
  have ol := o2.len
  rw [List.length_map] at ol
  rw [← ol]
  have g3 : Grown b A h A' h2 := (Grown.of_ext x1).trans g2
  exact hr h2 A' (w.grown p2 g3) g3

theorem odrop_nil {n : Int} (hr : ∀ h', Ext h h' → R (TV.int .i64 0).val h') : CallsH Tryz.prog 28 (TVs.vals [.ptr none, .int .i64 n]) h R := by
  apply orphans_Orphans_Drop_calls
  unfold orphans_Orphans_Drop_vc
  exact newTV_in fun h1 v1 x1 s1 => If.yes (hr h1 x1)

abbrev rts (L : List (Bs 32)) : List TV := L.map (TV.bytes 32)

theorem oroots_spec (w : WL 100 h o b A S most quota) (hr : ∀ h' t, Own 24 32 h' t (rts (S.map It.root)) → Ext h h' → Fresh h t → R (TV.slice t).val h') : CallsH Tryz.prog 36 (TVs.vals [.ptr (some ⟨o, 0⟩)]) h R := by
  apply orphans_Orphans_Roots_calls
  unfold orphans_Orphans_Roots_vc
  have few := w.pl.few
  refine If.yes ⟨_, w.var.at1 rfl, all_spec w.pl fun h1 s1 o1 x1 fr1 => ⟨_, rfl, ?_⟩⟩
  have el := o1.len
  rw [List.length_map] at el
  refine ⟨fun σ hh => 0 ≤ σ.2 ∧ σ.2 ≤ S.length ∧ Ext h1 hh ∧ (∀ l, σ.1.a = some l → h1.size ≤ l.b) ∧ Own 24 32 hh σ.1 (rts ((S.take σ.2.toNat).map It.root)), fun σ _ => ((S.length : Int) - σ.2).toNat,
    ⟨Int.le_refl 0, by first | omega | (dsimp only; omega), Ext.refl _, (fun l hl => by cases hl), Own.nil _ _ _⟩, ?_⟩
  rintro ⟨t, i⟩ h2 ⟨i0, i1, x2, fr2, o2⟩
  dsimp only at i0 i1 x2 fr2 o2 ⊢
  refine If.dec.2 ⟨fun hi => ?_, fun hi => ?_⟩
  · refine its_at (o1.elems.ext x2) i0 (by omega) fun l x _ hx => ?_
    refine newTV_in fun h3 v3 x3 s3 => put_in v3 (t := x.tv) rfl fun h4 v4 f4 s4 => ?_
    have x24 : Ext h2 h4 := Only.cut x3 f4 fun i hi => by omega
    refine ⟨x.root, v_root v4, ?_⟩
    have tl := o2.len
    rw [List.length_map, List.length_map, List.length_take] at tl
    refine append1 (C := ctx) (T := 24) (sz := 32) (x := .bytes 32 x.root) size24 zsize24 (by rw [bytes24]; decide) (by rw [bytes24]; omega) (o2.ext x24) b32 p32 fun t8 h8 o8 f8 b8 => ?_
    rw [wrap_i64 (n := i + 1) (by omega) (by omega)]
    have x8 : Ext h1 h8 := Only.cut (x2.trans x24) f8 fun j ⟨l, hl, hj⟩ => by have := fr2 l hl; omega
    have z2 := x2.size
    have z24 := x24.size
    refine ⟨⟨by first | omega | (dsimp only; omega), by first | omega | (dsimp only; omega), x8, fun l hl => ?_, ?_⟩, by first | omega | (dsimp only; omega)⟩
    · rcases b8 l hl with ⟨l', h1', h2'⟩ | h1'
      · have := fr2 l' h1'; omega
      · omega
    · try dsimp only
      rw [show (i + 1).toNat = i.toNat + 1 by omega, take_snoc hx, List.map_append]
      simpa [rts] using o8
  · have hin : i.toNat = S.length := by omega
    rw [hin, List.take_length] at o2
    exact hr h2 t o2 (x1.trans x2) fun l hl => Nat.le_trans x1.size (fr2 l hl)

theorem oroots_nil (hr : R (TV.slice Sl.nil).val h) : CallsH Tryz.prog 36 (TVs.vals [.ptr none]) h R := by
  apply orphans_Orphans_Roots_calls
  exact If.no hr

theorem eripe_spec (w : WL 87 h o b A S most quota) (ht : ∀ x ∈ S, x.text.length < 1000) {n : Int}
    (hr : ∀ h' A' t (bs : List Bk), WL 87 h' o b A' (S.filter fun x => !decide (x.slot < n)) most quota → Grown b A h A' h' → bs.map Bk.of = (S.filter fun x => decide (x.slot < n)).map (fun x => (x.root, dmOf x.text)) → Own 58 53 h' t (bs.map Bk.tvM) → Out h h' o b A' t bs → R (TV.slice t).val h') :
    CallsH Tryz.prog 11 (TVs.vals [.ptr (some ⟨o, 0⟩), .int .i64 n]) h R := by
  apply early_Early_Ripe_calls
  unfold early_Early_Ripe_vc
  have few := w.pl.few
  refine newTV_in fun h1 v1 x1 s1 => If.no ⟨_, (w.var.ext x1).at1 rfl, ?_⟩
  refine take_spec (f := ⟨(TV.fn (.func 42) [] [.ptr (some ⟨h.size, 0⟩)]).val, rfl⟩) (pred := fun x => decide (x.slot < n)) (w.pl.ext x1) ⟨42, #[], #[(TV.ptr (some ⟨h.size, 0⟩)).val], rfl, ctx_ok.entP (by kernel_rfl), fun h' x R' x' hr' => ripe1_spec (x := x) (v1.ext x') hr'⟩ fun h2 A' out p2 o2 g2 fr2 ap2 => ⟨_, rfl, ?_⟩
  have hlen : (S.filter fun x => decide (x.slot < n)).length ≤ S.length := List.length_filter_le ..
  have ht2 : ∀ x ∈ S.filter (fun x => decide (x.slot < n)), x.text.length < 1000 := fun x hx => ht x ((List.mem_filter.1 hx).1)
  have g02 : Grown b A h A' h2 := (Grown.of_ext x1).trans g2
  have z02 := g02.only.size
  generalize hL : S.filter (fun x => decide (x.slot < n)) = L at o2 hlen ht2 hr
  have e2 := o2.elems
  have el := e2.len
  rw [List.length_map] at el
  refine ⟨fun σ hh => 0 ≤ σ.2 ∧ σ.2 ≤ L.length ∧ Ext h2 hh ∧ Fresh h2 σ.1 ∧ ∃ bs : List Bk, bs.map Bk.of = (L.take σ.2.toNat).map (fun x => (x.root, dmOf x.text)) ∧ Own 58 53 hh σ.1 (bs.map Bk.tvM) ∧ Kept h2.size hh σ.1 bs, fun σ _ => ((L.length : Int) - σ.2).toNat,
    ⟨Int.le_refl 0, by first | omega | (dsimp only; omega), Ext.refl _, (fun l hl => by cases hl), [], rfl, Own.nil _ _ _, Kept.nil _ _ _⟩, ?_⟩
  rintro ⟨t, i⟩ h3 ⟨i0, i1, x3, fr3, bs, hbs, o3, K3⟩
  dsimp only at i0 i1 x3 fr3 hbs o3 K3 ⊢
  have z3 := x3.size
  refine If.dec.2 ⟨fun hi => ?_, fun hi => ?_⟩
  · refine its_at (e2.ext x3) i0 (by omega) fun l x _ hx => ?_
    refine newTV_in fun h4 v4 x4 s4 => put_in v4 (t := x.tv) rfl fun h5 v5 f5 s5 => ?_
    have x35 : Ext h3 h5 := Only.cut x4 f5 fun i hi => by omega
    have htx := ht2 x (List.mem_of_getElem? hx)
    have z35 := x35.size
    refine ⟨x.text, v_text v5, decode2_spec (by omega) fun h6 bb ok e6 x6 loc6 => ⟨_, _, _, _, _, _, _, _, rfl, ?_⟩⟩
    refine newTV_in fun h7 v7 x7 s7 => put_n (t0 := zeroM.tv) v7 (t := ((dmOf x.text).ms bb).tv) mssz1 mssz fun h8 v8 f8 s8 => ?_
    have x68 : Ext h6 h8 := Only.cut x7 f8 fun i hi => by omega
    have x38 := x35.trans (x6.trans x68)
    refine ms_at v8 ?_
    have tl := o3.len
    rw [List.length_map, ← List.length_map (f := Bk.of), hbs, List.length_map, List.length_take] at tl
    obtain ⟨k, hk⟩ : ∃ k, k = Bk.mk x.root (dmOf x.text) bb := ⟨_, rfl⟩
    have z6 := x6.size
    have z68 := x68.size
    refine append1 (C := ctx) (T := 58) (sz := 53) (x := k.tvM) size58 zsize58 (by rw [bytes58]; decide) (by rw [bytes58]; omega) (o3.ext x38) k.sizeM k.plainM (K := fun s_5 hh => _) ?_ |> fun H => by rw [hk] at H; exact H
    intro t9 h9 o9 f9 b9
    rw [wrap_i64 (n := i + 1) (by omega) (by omega)]
    have K9 := Kept.step (k := k) K3 o3 x38 z3 (by rw [hk]; exact e6.ext x68) (fun l hl => by rw [hk] at hl; have := loc6 l hl; omega) f9 b9
    have x9 : Ext h2 h9 := Only.cut (x3.trans x38) f9 fun j ⟨l, hl, hj⟩ => by have := fr3 l hl; omega
    have hi1 : (i + 1).toNat = i.toNat + 1 := by omega
    refine ⟨⟨by first | omega | (dsimp only; omega), by first | omega | (dsimp only; omega), x9, fun l hl => ?_, bs ++ [k], ?_, ?_, K9⟩, by first | omega | (dsimp only; omega)⟩
    · rcases b9 l hl with ⟨l', h1', h2'⟩ | h1'
      · have := fr3 l' h1'; omega
      · have := x38.size; omega
    · try dsimp only
      rw [hi1, take_snoc hx, List.map_append, List.map_append, hbs, hk]
      rfl
    · rw [List.map_append]
      exact o9
  · have hin : i.toNat = L.length := by omega
    rw [hin, List.take_length] at hbs
    have g3 : Grown b A h A' h3 := g02.trans (.of_ext x3)
    exact hr h3 A' t bs (w.grown (p2.ext x3) g3) g3 hbs o3 ⟨h2.size, z02, fun i hi => p2.lt hi, fr3, K3⟩

theorem eripe_nil {n : Int} (hr : ∀ h', Ext h h' → R (TV.slice Sl.nil).val h') : CallsH Tryz.prog 11 (TVs.vals [.ptr none, .int .i64 n]) h R := by
  apply early_Early_Ripe_calls
  unfold early_Early_Ripe_vc
  exact newTV_in fun h1 v1 x1 s1 => If.yes (hr h1 x1)

end
end Go.Proofs.YtldocdpdjdekiaaGreat.Pool
end

section
/- The conditions of functions, as the generator reckons them out, each with the proof that it is that. -/
namespace Go.Proofs.YtldocdpdjdekiaaGreat
open Go Go.Vc
set_option maxRecDepth 100000
set_option linter.unusedVariables false

def tollerref16_Put_vc (p : Option Go.Vc.Loc) (peer : Int) (text : List UInt8) (h : Heap) (R : Value → Heap → Prop) : Prop :=
 Vc.Bind (newTV h (TV.bytes (32 : Nat) (Bs.zero (32 : Nat))) (24 : Nat)) fun (h_1 : Array Obj) ↦
 CallsH Tryz.prog (48 : Nat) (TVs.vals [TV.str text]) h_1 fun (v : Value) (h_2 : Array Obj) ↦
 ∃ (n : Int),
 ∃ (n_1 : Int),
 ∃ (b : Bs (32 : Nat)),
 ∃ (n_2 : Int),
 ∃ (n_3 : Int),
 ∃ (s : Sl),
 ∃ (b_1 : Bs (16 : Nat)),
 ∃ (b_2 : Bool),
 v =
 TV.val
 (TV.tup
 [TV.agg
 [TV.int IntKind.i64 n, TV.int IntKind.i64 n_1, TV.bytes (32 : Nat) b, TV.int IntKind.i64 n_2, TV.int IntKind.u64 n_3,
 TV.slice s, TV.bytes (16 : Nat) b_1],
 TV.bool b_2]) ∧
 Vc.Bind
 (newTV h_2
 (TV.agg
 [TV.int IntKind.i64 (0 : Int), TV.int IntKind.i64 (0 : Int), TV.bytes (32 : Nat) (Bs.zero (32 : Nat)), TV.int IntKind.i64 (0 : Int),
 TV.int IntKind.u64 (0 : Int), TV.slice Sl.nil, TV.bytes (16 : Nat) (Bs.zero (16 : Nat))])
 (58 : Nat))
 fun (h_3 : Array Obj) ↦
 wok h_3 (Array.size h_2) (0 : Nat) (53 : Nat) ∧
 Vc.Bind
 (TV.put h_3 (Array.size h_2) (0 : Nat)
 (TV.agg
 [TV.int IntKind.i64 n, TV.int IntKind.i64 n_1, TV.bytes (32 : Nat) b, TV.int IntKind.i64 n_2, TV.int IntKind.u64 n_3,
 TV.slice s, TV.bytes (16 : Nat) b_1]))
 fun (h_4 : Array Obj) ↦
 Join
 (fun (s_1 : Int) (h_5 : Array Obj) ↦
 Join
 (fun (s_2 : Option Go.Vc.Loc × Int × Bs (32 : Nat) × Int × Bs (32 : Nat) × List UInt8 × Int × Option Go.Vc.Loc × Int)
 (h_6 : Array Obj) ↦
 Nn s_2.snd.snd.snd.snd.snd.snd.snd.fst fun (l : Go.Vc.Loc) ↦
 ∃ (b_3 : Bs (32 : Nat)),
 atBytes h_6 l.b (l.o + (1 : Nat)) (32 : Nat) b_3 ∧
 wok h_6 (Array.size h) (0 : Nat) (32 : Nat) ∧
 Vc.Bind (TV.put h_6 (Array.size h) (0 : Nat) (TV.bytes (32 : Nat) b_3)) fun (h_7 : Array Obj) ↦
 ∃ (b_4 : Bs (32 : Nat)),
 atBytes h_7 (Array.size h) (0 : Nat) (32 : Nat) b_4 ∧
 R (TV.val (TV.tup [TV.int IntKind.i64 s_2.snd.snd.snd.snd.snd.snd.snd.snd, TV.bytes (32 : Nat) b_4])) h_7)
 fun
 (J :
 Option Go.Vc.Loc × Int × Bs (32 : Nat) × Int × Bs (32 : Nat) × List UInt8 × Int × Option Go.Vc.Loc × Int → Array Obj → Prop) ↦
 ∃ (n : Int),
 at1 h_5 (Array.size h_2) (1 : Nat) (Value.int IntKind.i64 n) ∧
 ∃ (n_4 : Int),
 ∃ (n_5 : Int),
 ∃ (b : Bs (32 : Nat)),
 ∃ (n_6 : Int),
 ∃ (n_7 : Int),
 ∃ (s : Sl),
 ∃ (b_3 : Bs (16 : Nat)),
 (at1 h_5 (Array.size h_2) (0 : Nat) (Value.int IntKind.i64 n_4) ∧
 at1 h_5 (Array.size h_2) (1 : Nat) (Value.int IntKind.i64 n_5) ∧
 atBytes h_5 (Array.size h_2) (2 : Nat) (32 : Nat) b ∧
 at1 h_5 (Array.size h_2) (34 : Nat) (Value.int IntKind.i64 n_6) ∧
 at1 h_5 (Array.size h_2) (35 : Nat) (Value.int IntKind.u64 n_7) ∧
 at1 h_5 (Array.size h_2) (36 : Nat) (slVal s) ∧
 atBytes h_5 (Array.size h_2) (37 : Nat) (16 : Nat) b_3) ∧
 ∃ (b_4 : Bs (32 : Nat)),
 atBytes h_5 (Array.size h_2) (2 : Nat) (32 : Nat) b_4 ∧
 (CallsH Tryz.prog (22 : Nat)
 (TVs.vals
 [TV.agg
 [TV.int IntKind.i64 n_4, TV.int IntKind.i64 n_5, TV.bytes (32 : Nat) b,
 TV.int IntKind.i64 n_6, TV.int IntKind.u64 n_7, TV.slice s, TV.bytes (16 : Nat) b_3]])
 h_5 fun (v : Value) (h : Array Obj) ↦
 ∃ (b : Bs (32 : Nat)),
 v = TV.val (TV.bytes (32 : Nat) b) ∧
 Ext h_5 h ∧
 (CallsH Tryz.prog (51 : Nat)
 (TVs.vals
 [TV.ptr p,
 TV.agg
 [TV.int IntKind.i64 n, TV.bytes (32 : Nat) b, TV.int IntKind.i64 peer,
 TV.bytes (32 : Nat) b_4, TV.str text]])
 h fun (v : Value) (h : Array Obj) ↦
 ∃ (n_8 : Int),
 ∃ (n_9 : Int),
 ∃ (b_5 : Bs (32 : Nat)),
 ∃ (n_10 : Int),
 ∃ (b_6 : Bs (32 : Nat)),
 ∃ (s : List UInt8),
 v =
 TV.val
 (TV.tup
 [TV.int IntKind.i64 n_8,
 TV.agg
 [TV.int IntKind.i64 n_9, TV.bytes (32 : Nat) b_5,
 TV.int IntKind.i64 n_10, TV.bytes (32 : Nat) b_6,
 TV.str s]]) ∧
 Vc.Bind
 (newTV h
 (TV.agg
 [TV.int IntKind.i64 (0 : Int),
 TV.bytes (32 : Nat) (Bs.zero (32 : Nat)),
 TV.int IntKind.i64 (0 : Int),
 TV.bytes (32 : Nat) (Bs.zero (32 : Nat)), TV.str []])
 (50 : Nat))
 fun (h_6 : Array Obj) ↦
 Ext h h_6 ∧
 wok h_6 (Array.size h) (0 : Nat) (67 : Nat) ∧
 Vc.Bind
 (TV.put h_6 (Array.size h) (0 : Nat)
 (TV.agg
 [TV.int IntKind.i64 n_9, TV.bytes (32 : Nat) b_5,
 TV.int IntKind.i64 n_10, TV.bytes (32 : Nat) b_6,
 TV.str s]))
 fun (h_7 : Array Obj) ↦
 J
 (p, n, b, peer, b_4, text, n_8,
 some (Loc.mk (Array.size h) (0 : Nat)), n_8)
 h_7) ∧
 Vc.Bind
 (newTV h
 (TV.agg
 [TV.int IntKind.i64 (0 : Int), TV.bytes (32 : Nat) (Bs.zero (32 : Nat)),
 TV.int IntKind.i64 (0 : Int), TV.bytes (32 : Nat) (Bs.zero (32 : Nat)),
 TV.str []])
 (50 : Nat))
 fun (h_6 : Array Obj) ↦
 Ext h h_6 ∧
 CallsH Tryz.prog (51 : Nat)
 (TVs.vals
 [TV.ptr p,
 TV.agg
 [TV.int IntKind.i64 n, TV.bytes (32 : Nat) b, TV.int IntKind.i64 peer,
 TV.bytes (32 : Nat) b_4, TV.str text]])
 h_6 fun (v : Value) (h_7 : Array Obj) ↦
 ∃ (n_8 : Int),
 ∃ (n_9 : Int),
 ∃ (b_5 : Bs (32 : Nat)),
 ∃ (n_10 : Int),
 ∃ (b_6 : Bs (32 : Nat)),
 ∃ (s : List UInt8),
 v =
 TV.val
 (TV.tup
 [TV.int IntKind.i64 n_8,
 TV.agg
 [TV.int IntKind.i64 n_9, TV.bytes (32 : Nat) b_5,
 TV.int IntKind.i64 n_10, TV.bytes (32 : Nat) b_6,
 TV.str s]]) ∧
 wok h_7 (Array.size h) (0 : Nat) (67 : Nat) ∧
 Vc.Bind
 (TV.put h_7 (Array.size h) (0 : Nat)
 (TV.agg
 [TV.int IntKind.i64 n_9, TV.bytes (32 : Nat) b_5,
 TV.int IntKind.i64 n_10, TV.bytes (32 : Nat) b_6,
 TV.str s]))
 fun (h_8 : Array Obj) ↦
 J
 (p, n, b, peer, b_4, text, n_8,
 some (Loc.mk (Array.size h) (0 : Nat)), n_8)
 h_8) ∧
 Vc.Bind
 (newTV h_5
 (TV.agg
 [TV.int IntKind.i64 (0 : Int), TV.bytes (32 : Nat) (Bs.zero (32 : Nat)),
 TV.int IntKind.i64 (0 : Int), TV.bytes (32 : Nat) (Bs.zero (32 : Nat)), TV.str []])
 (50 : Nat))
 fun (h : Array Obj) ↦
 Ext h_5 h ∧
 CallsH Tryz.prog (22 : Nat)
 (TVs.vals
 [TV.agg
 [TV.int IntKind.i64 n_4, TV.int IntKind.i64 n_5, TV.bytes (32 : Nat) b,
 TV.int IntKind.i64 n_6, TV.int IntKind.u64 n_7, TV.slice s, TV.bytes (16 : Nat) b_3]])
 h fun (v : Value) (h_6 : Array Obj) ↦
 ∃ (b : Bs (32 : Nat)),
 v = TV.val (TV.bytes (32 : Nat) b) ∧
 Ext h h_6 ∧
 CallsH Tryz.prog (51 : Nat)
 (TVs.vals
 [TV.ptr p,
 TV.agg
 [TV.int IntKind.i64 n, TV.bytes (32 : Nat) b, TV.int IntKind.i64 peer,
 TV.bytes (32 : Nat) b_4, TV.str text]])
 h_6 fun (v : Value) (h : Array Obj) ↦
 ∃ (n_8 : Int),
 ∃ (n_9 : Int),
 ∃ (b_5 : Bs (32 : Nat)),
 ∃ (n_10 : Int),
 ∃ (b_6 : Bs (32 : Nat)),
 ∃ (s : List UInt8),
 v =
 TV.val
 (TV.tup
 [TV.int IntKind.i64 n_8,
 TV.agg
 [TV.int IntKind.i64 n_9, TV.bytes (32 : Nat) b_5,
 TV.int IntKind.i64 n_10, TV.bytes (32 : Nat) b_6,
 TV.str s]]) ∧
 wok h (Array.size h_5) (0 : Nat) (67 : Nat) ∧
 Vc.Bind
 (TV.put h (Array.size h_5) (0 : Nat)
 (TV.agg
 [TV.int IntKind.i64 n_9, TV.bytes (32 : Nat) b_5,
 TV.int IntKind.i64 n_10, TV.bytes (32 : Nat) b_6, TV.str s]))
 fun (h : Array Obj) ↦
 J
 (p, n, b, peer, b_4, text, n_8,
 some (Loc.mk (Array.size h_5) (0 : Nat)), n_8)
 h)
 fun (J : Int → Array Obj → Prop) ↦
 If (!b_2)
 (wok h_4 (Array.size h) (0 : Nat) (32 : Nat) ∧
 Vc.Bind (TV.put h_4 (Array.size h) (0 : Nat) (TV.bytes (32 : Nat) (Bs.zero (32 : Nat)))) fun (h_5 : Array Obj) ↦
 ∃ (b : Bs (32 : Nat)),
 atBytes h_5 (Array.size h) (0 : Nat) (32 : Nat) b ∧
 R (TV.val (TV.tup [TV.int IntKind.i64 (5 : Int), TV.bytes (32 : Nat) b])) h_5)
 (∃ (n : Int),
 at1 h_4 (Array.size h_2) (0 : Nat) (Value.int IntKind.i64 n) ∧
 If (!decide (n = (1 : Int)))
 (wok h_4 (Array.size h) (0 : Nat) (32 : Nat) ∧
 Vc.Bind (TV.put h_4 (Array.size h) (0 : Nat) (TV.bytes (32 : Nat) (Bs.zero (32 : Nat)))) fun (h_5 : Array Obj) ↦
 ∃ (b : Bs (32 : Nat)),
 atBytes h_5 (Array.size h) (0 : Nat) (32 : Nat) b ∧
 R (TV.val (TV.tup [TV.int IntKind.i64 (5 : Int), TV.bytes (32 : Nat) b])) h_5)
 (J (0 : Int) h_4))

theorem tollerref16_Put_calls (p : Option Go.Vc.Loc) (peer : Int) (text : List UInt8) (h : Heap) (R : Value → Heap → Prop) (H : tollerref16_Put_vc p peer text h R) : CallsH Tryz.prog 55 (TVs.vals [TV.ptr p, TV.int IntKind.i64 peer, TV.str text]) h R :=
 vcFn_sound (C := ctx) ctx_ok (fn := Tryz.f55) Tryz.func55 ((by kernel_rfl : tollerref16_Put_vc p peer text h R = vcFn ctx Tryz.f55 [TV.ptr p, TV.int IntKind.i64 peer, TV.str text] h R) ▸ H)


def tollerref17_Put_vc (p : Option Go.Vc.Loc) (peer : Int) (text : List UInt8) (h : Heap) (R : Value → Heap → Prop) : Prop :=
 Vc.Bind (newTV h (TV.bytes (32 : Nat) (Bs.zero (32 : Nat))) (24 : Nat)) fun (h_1 : Array Obj) ↦
 CallsH Tryz.prog (48 : Nat) (TVs.vals [TV.str text]) h_1 fun (v : Value) (h_2 : Array Obj) ↦
 ∃ (n : Int),
 ∃ (n_1 : Int),
 ∃ (b : Bs (32 : Nat)),
 ∃ (n_2 : Int),
 ∃ (n_3 : Int),
 ∃ (s : Sl),
 ∃ (b_1 : Bs (16 : Nat)),
 ∃ (b_2 : Bool),
 v =
 TV.val
 (TV.tup
 [TV.agg
 [TV.int IntKind.i64 n, TV.int IntKind.i64 n_1, TV.bytes (32 : Nat) b, TV.int IntKind.i64 n_2, TV.int IntKind.u64 n_3,
 TV.slice s, TV.bytes (16 : Nat) b_1],
 TV.bool b_2]) ∧
 Vc.Bind
 (newTV h_2
 (TV.agg
 [TV.int IntKind.i64 (0 : Int), TV.int IntKind.i64 (0 : Int), TV.bytes (32 : Nat) (Bs.zero (32 : Nat)), TV.int IntKind.i64 (0 : Int),
 TV.int IntKind.u64 (0 : Int), TV.slice Sl.nil, TV.bytes (16 : Nat) (Bs.zero (16 : Nat))])
 (58 : Nat))
 fun (h_3 : Array Obj) ↦
 wok h_3 (Array.size h_2) (0 : Nat) (53 : Nat) ∧
 Vc.Bind
 (TV.put h_3 (Array.size h_2) (0 : Nat)
 (TV.agg
 [TV.int IntKind.i64 n, TV.int IntKind.i64 n_1, TV.bytes (32 : Nat) b, TV.int IntKind.i64 n_2, TV.int IntKind.u64 n_3,
 TV.slice s, TV.bytes (16 : Nat) b_1]))
 fun (h_4 : Array Obj) ↦
 Join
 (fun (s_1 : Int) (h_5 : Array Obj) ↦
 Join
 (fun (s_2 : Option Go.Vc.Loc × Int × Bs (32 : Nat) × Int × Bs (32 : Nat) × List UInt8 × Int × Option Go.Vc.Loc × Int)
 (h_6 : Array Obj) ↦
 Nn s_2.snd.snd.snd.snd.snd.snd.snd.fst fun (l : Go.Vc.Loc) ↦
 ∃ (b_3 : Bs (32 : Nat)),
 atBytes h_6 l.b (l.o + (1 : Nat)) (32 : Nat) b_3 ∧
 wok h_6 (Array.size h) (0 : Nat) (32 : Nat) ∧
 Vc.Bind (TV.put h_6 (Array.size h) (0 : Nat) (TV.bytes (32 : Nat) b_3)) fun (h_7 : Array Obj) ↦
 ∃ (b_4 : Bs (32 : Nat)),
 atBytes h_7 (Array.size h) (0 : Nat) (32 : Nat) b_4 ∧
 R (TV.val (TV.tup [TV.int IntKind.i64 s_2.snd.snd.snd.snd.snd.snd.snd.snd, TV.bytes (32 : Nat) b_4])) h_7)
 fun
 (J :
 Option Go.Vc.Loc × Int × Bs (32 : Nat) × Int × Bs (32 : Nat) × List UInt8 × Int × Option Go.Vc.Loc × Int → Array Obj → Prop) ↦
 ∃ (n : Int),
 at1 h_5 (Array.size h_2) (1 : Nat) (Value.int IntKind.i64 n) ∧
 ∃ (n_4 : Int),
 ∃ (n_5 : Int),
 ∃ (b : Bs (32 : Nat)),
 ∃ (n_6 : Int),
 ∃ (n_7 : Int),
 ∃ (s : Sl),
 ∃ (b_3 : Bs (16 : Nat)),
 (at1 h_5 (Array.size h_2) (0 : Nat) (Value.int IntKind.i64 n_4) ∧
 at1 h_5 (Array.size h_2) (1 : Nat) (Value.int IntKind.i64 n_5) ∧
 atBytes h_5 (Array.size h_2) (2 : Nat) (32 : Nat) b ∧
 at1 h_5 (Array.size h_2) (34 : Nat) (Value.int IntKind.i64 n_6) ∧
 at1 h_5 (Array.size h_2) (35 : Nat) (Value.int IntKind.u64 n_7) ∧
 at1 h_5 (Array.size h_2) (36 : Nat) (slVal s) ∧
 atBytes h_5 (Array.size h_2) (37 : Nat) (16 : Nat) b_3) ∧
 ∃ (b_4 : Bs (32 : Nat)),
 atBytes h_5 (Array.size h_2) (2 : Nat) (32 : Nat) b_4 ∧
 (CallsH Tryz.prog (22 : Nat)
 (TVs.vals
 [TV.agg
 [TV.int IntKind.i64 n_4, TV.int IntKind.i64 n_5, TV.bytes (32 : Nat) b,
 TV.int IntKind.i64 n_6, TV.int IntKind.u64 n_7, TV.slice s, TV.bytes (16 : Nat) b_3]])
 h_5 fun (v : Value) (h : Array Obj) ↦
 ∃ (b : Bs (32 : Nat)),
 v = TV.val (TV.bytes (32 : Nat) b) ∧
 Ext h_5 h ∧
 (CallsH Tryz.prog (51 : Nat)
 (TVs.vals
 [TV.ptr p,
 TV.agg
 [TV.int IntKind.i64 n, TV.bytes (32 : Nat) b, TV.int IntKind.i64 peer,
 TV.bytes (32 : Nat) b_4, TV.str text]])
 h fun (v : Value) (h : Array Obj) ↦
 ∃ (n_8 : Int),
 ∃ (n_9 : Int),
 ∃ (b_5 : Bs (32 : Nat)),
 ∃ (n_10 : Int),
 ∃ (b_6 : Bs (32 : Nat)),
 ∃ (s : List UInt8),
 v =
 TV.val
 (TV.tup
 [TV.int IntKind.i64 n_8,
 TV.agg
 [TV.int IntKind.i64 n_9, TV.bytes (32 : Nat) b_5,
 TV.int IntKind.i64 n_10, TV.bytes (32 : Nat) b_6,
 TV.str s]]) ∧
 Vc.Bind
 (newTV h
 (TV.agg
 [TV.int IntKind.i64 (0 : Int),
 TV.bytes (32 : Nat) (Bs.zero (32 : Nat)),
 TV.int IntKind.i64 (0 : Int),
 TV.bytes (32 : Nat) (Bs.zero (32 : Nat)), TV.str []])
 (50 : Nat))
 fun (h_6 : Array Obj) ↦
 Ext h h_6 ∧
 wok h_6 (Array.size h) (0 : Nat) (67 : Nat) ∧
 Vc.Bind
 (TV.put h_6 (Array.size h) (0 : Nat)
 (TV.agg
 [TV.int IntKind.i64 n_9, TV.bytes (32 : Nat) b_5,
 TV.int IntKind.i64 n_10, TV.bytes (32 : Nat) b_6,
 TV.str s]))
 fun (h_7 : Array Obj) ↦
 J
 (p, n, b, peer, b_4, text, n_8,
 some (Loc.mk (Array.size h) (0 : Nat)), n_8)
 h_7) ∧
 Vc.Bind
 (newTV h
 (TV.agg
 [TV.int IntKind.i64 (0 : Int), TV.bytes (32 : Nat) (Bs.zero (32 : Nat)),
 TV.int IntKind.i64 (0 : Int), TV.bytes (32 : Nat) (Bs.zero (32 : Nat)),
 TV.str []])
 (50 : Nat))
 fun (h_6 : Array Obj) ↦
 Ext h h_6 ∧
 CallsH Tryz.prog (51 : Nat)
 (TVs.vals
 [TV.ptr p,
 TV.agg
 [TV.int IntKind.i64 n, TV.bytes (32 : Nat) b, TV.int IntKind.i64 peer,
 TV.bytes (32 : Nat) b_4, TV.str text]])
 h_6 fun (v : Value) (h_7 : Array Obj) ↦
 ∃ (n_8 : Int),
 ∃ (n_9 : Int),
 ∃ (b_5 : Bs (32 : Nat)),
 ∃ (n_10 : Int),
 ∃ (b_6 : Bs (32 : Nat)),
 ∃ (s : List UInt8),
 v =
 TV.val
 (TV.tup
 [TV.int IntKind.i64 n_8,
 TV.agg
 [TV.int IntKind.i64 n_9, TV.bytes (32 : Nat) b_5,
 TV.int IntKind.i64 n_10, TV.bytes (32 : Nat) b_6,
 TV.str s]]) ∧
 wok h_7 (Array.size h) (0 : Nat) (67 : Nat) ∧
 Vc.Bind
 (TV.put h_7 (Array.size h) (0 : Nat)
 (TV.agg
 [TV.int IntKind.i64 n_9, TV.bytes (32 : Nat) b_5,
 TV.int IntKind.i64 n_10, TV.bytes (32 : Nat) b_6,
 TV.str s]))
 fun (h_8 : Array Obj) ↦
 J
 (p, n, b, peer, b_4, text, n_8,
 some (Loc.mk (Array.size h) (0 : Nat)), n_8)
 h_8) ∧
 Vc.Bind
 (newTV h_5
 (TV.agg
 [TV.int IntKind.i64 (0 : Int), TV.bytes (32 : Nat) (Bs.zero (32 : Nat)),
 TV.int IntKind.i64 (0 : Int), TV.bytes (32 : Nat) (Bs.zero (32 : Nat)), TV.str []])
 (50 : Nat))
 fun (h : Array Obj) ↦
 Ext h_5 h ∧
 CallsH Tryz.prog (22 : Nat)
 (TVs.vals
 [TV.agg
 [TV.int IntKind.i64 n_4, TV.int IntKind.i64 n_5, TV.bytes (32 : Nat) b,
 TV.int IntKind.i64 n_6, TV.int IntKind.u64 n_7, TV.slice s, TV.bytes (16 : Nat) b_3]])
 h fun (v : Value) (h_6 : Array Obj) ↦
 ∃ (b : Bs (32 : Nat)),
 v = TV.val (TV.bytes (32 : Nat) b) ∧
 Ext h h_6 ∧
 CallsH Tryz.prog (51 : Nat)
 (TVs.vals
 [TV.ptr p,
 TV.agg
 [TV.int IntKind.i64 n, TV.bytes (32 : Nat) b, TV.int IntKind.i64 peer,
 TV.bytes (32 : Nat) b_4, TV.str text]])
 h_6 fun (v : Value) (h : Array Obj) ↦
 ∃ (n_8 : Int),
 ∃ (n_9 : Int),
 ∃ (b_5 : Bs (32 : Nat)),
 ∃ (n_10 : Int),
 ∃ (b_6 : Bs (32 : Nat)),
 ∃ (s : List UInt8),
 v =
 TV.val
 (TV.tup
 [TV.int IntKind.i64 n_8,
 TV.agg
 [TV.int IntKind.i64 n_9, TV.bytes (32 : Nat) b_5,
 TV.int IntKind.i64 n_10, TV.bytes (32 : Nat) b_6,
 TV.str s]]) ∧
 wok h (Array.size h_5) (0 : Nat) (67 : Nat) ∧
 Vc.Bind
 (TV.put h (Array.size h_5) (0 : Nat)
 (TV.agg
 [TV.int IntKind.i64 n_9, TV.bytes (32 : Nat) b_5,
 TV.int IntKind.i64 n_10, TV.bytes (32 : Nat) b_6, TV.str s]))
 fun (h : Array Obj) ↦
 J
 (p, n, b, peer, b_4, text, n_8,
 some (Loc.mk (Array.size h_5) (0 : Nat)), n_8)
 h)
 fun (J : Int → Array Obj → Prop) ↦
 If (!b_2)
 (wok h_4 (Array.size h) (0 : Nat) (32 : Nat) ∧
 Vc.Bind (TV.put h_4 (Array.size h) (0 : Nat) (TV.bytes (32 : Nat) (Bs.zero (32 : Nat)))) fun (h_5 : Array Obj) ↦
 ∃ (b : Bs (32 : Nat)),
 atBytes h_5 (Array.size h) (0 : Nat) (32 : Nat) b ∧
 R (TV.val (TV.tup [TV.int IntKind.i64 (5 : Int), TV.bytes (32 : Nat) b])) h_5)
 (∃ (n : Int),
 at1 h_4 (Array.size h_2) (0 : Nat) (Value.int IntKind.i64 n) ∧
 If (decide (n = (1 : Int)))
 (wok h_4 (Array.size h) (0 : Nat) (32 : Nat) ∧
 Vc.Bind (TV.put h_4 (Array.size h) (0 : Nat) (TV.bytes (32 : Nat) (Bs.zero (32 : Nat)))) fun (h_5 : Array Obj) ↦
 ∃ (b : Bs (32 : Nat)),
 atBytes h_5 (Array.size h) (0 : Nat) (32 : Nat) b ∧
 R (TV.val (TV.tup [TV.int IntKind.i64 (5 : Int), TV.bytes (32 : Nat) b])) h_5)
 (J (0 : Int) h_4))

theorem tollerref17_Put_calls (p : Option Go.Vc.Loc) (peer : Int) (text : List UInt8) (h : Heap) (R : Value → Heap → Prop) (H : tollerref17_Put_vc p peer text h R) : CallsH Tryz.prog 19 (TVs.vals [TV.ptr p, TV.int IntKind.i64 peer, TV.str text]) h R :=
 vcFn_sound (C := ctx) ctx_ok (fn := Tryz.f19) Tryz.func19 ((by kernel_rfl : tollerref17_Put_vc p peer text h R = vcFn ctx Tryz.f19 [TV.ptr p, TV.int IntKind.i64 peer, TV.str text] h R) ▸ H)


def tollerref16_Of_vc (p : Option Go.Vc.Loc) (parent : Bs (32 : Nat)) (h : Heap) (R : Value → Heap → Prop) : Prop :=
 Vc.Bind (newTV h (TV.bytes (32 : Nat) parent) (24 : Nat)) fun (h_1 : Array Obj) ↦
 Nn p fun (l : Go.Vc.Loc) ↦
 ∃ (s : Sl),
 at1 h_1 l.b l.o (slVal s) ∧
 Go.Vc.Loop (Sl.mk none (0 : Nat) (0 : Nat), Sl.mk none (0 : Nat) (0 : Nat), (0 : Int)) h_1
 fun (s_1 : Sl × Sl × Int) (h_2 : Array Obj) (K : Sl × Sl × Int → Array Obj → Prop) ↦
 If (decide (s_1.snd.snd < (↑s.len : Int)))
 ((0 : Int) ≤ s_1.snd.snd ∧
 s_1.snd.snd < (↑s.len : Int) ∧
 Nn s.a fun (l_1 : Go.Vc.Loc) ↦
 ∃ (n : Int),
 ∃ (b : Bs (32 : Nat)),
 ∃ (n_1 : Int),
 ∃ (b_1 : Bs (32 : Nat)),
 ∃ (s_2 : List UInt8),
 (at1 h_2 l_1.b (l_1.o + Int.toNat s_1.snd.snd * (67 : Nat)) (Value.int IntKind.i64 n) ∧
 atBytes h_2 l_1.b (l_1.o + Int.toNat s_1.snd.snd * (67 : Nat) + (1 : Nat)) (32 : Nat) b ∧
 at1 h_2 l_1.b (l_1.o + Int.toNat s_1.snd.snd * (67 : Nat) + (1 : Nat) + (32 : Nat)) (Value.int IntKind.i64 n_1) ∧
 atBytes h_2 l_1.b (l_1.o + Int.toNat s_1.snd.snd * (67 : Nat) + (1 : Nat) + (32 : Nat) + (1 : Nat)) (32 : Nat) b_1 ∧
 at1 h_2 l_1.b (l_1.o + Int.toNat s_1.snd.snd * (67 : Nat) + (1 : Nat) + (32 : Nat) + (1 : Nat) + (32 : Nat))
 (Value.string (ByteArray.mk (List.toArray s_2)))) ∧
 Vc.Bind
 (newTV h_2
 (TV.agg
 [TV.int IntKind.i64 (0 : Int), TV.bytes (32 : Nat) (Bs.zero (32 : Nat)), TV.int IntKind.i64 (0 : Int),
 TV.bytes (32 : Nat) (Bs.zero (32 : Nat)), TV.str []])
 (50 : Nat))
 fun (h_3 : Array Obj) ↦
 wok h_3 (Array.size h_2) (0 : Nat) (67 : Nat) ∧
 Vc.Bind
 (TV.put h_3 (Array.size h_2) (0 : Nat)
 (TV.agg [TV.int IntKind.i64 n, TV.bytes (32 : Nat) b, TV.int IntKind.i64 n_1, TV.bytes (32 : Nat) b_1, TV.str s_2]))
 fun (h_4 : Array Obj) ↦
 ∃ (b : Bs (32 : Nat)),
 atBytes h_4 (Array.size h_2) (34 : Nat) (32 : Nat) b ∧
 ∃ (b_2 : Bs (32 : Nat)),
 atBytes h_4 (Array.size h) (0 : Nat) (32 : Nat) b_2 ∧
 If (decide (b.l = b_2.l))
 (∃ (n : Int),
 ∃ (b : Bs (32 : Nat)),
 ∃ (n_2 : Int),
 ∃ (b_3 : Bs (32 : Nat)),
 ∃ (s_3 : List UInt8),
 (at1 h_4 (Array.size h_2) (0 : Nat) (Value.int IntKind.i64 n) ∧
 atBytes h_4 (Array.size h_2) (1 : Nat) (32 : Nat) b ∧
 at1 h_4 (Array.size h_2) (33 : Nat) (Value.int IntKind.i64 n_2) ∧
 atBytes h_4 (Array.size h_2) (34 : Nat) (32 : Nat) b_3 ∧
 at1 h_4 (Array.size h_2) (66 : Nat) (Value.string (ByteArray.mk (List.toArray s_3)))) ∧
 ∃ (new : List Value),
 slAt
 (Array.push h_4
 (row
 (TVs.cells
 [TV.agg
 [TV.int IntKind.i64 n, TV.bytes (32 : Nat) b, TV.int IntKind.i64 n_2,
 TV.bytes (32 : Nat) b_3, TV.str s_3]])
 (50 : Nat)))
 (Sl.mk (some (Loc.mk (Array.size h_4) (0 : Nat))) (1 : Nat) (1 : Nat)) (67 : Nat) new ∧
 (∀ (v : Value), v ∈ new → isOne v = true) ∧
 vcAppend YtldocdpdjdekiaaGreat.ctx (50 : Nat) s_1.fst (1 : Nat) new
 (Array.push h_4
 (row
 (TVs.cells
 [TV.agg
 [TV.int IntKind.i64 n, TV.bytes (32 : Nat) b, TV.int IntKind.i64 n_2,
 TV.bytes (32 : Nat) b_3, TV.str s_3]])
 (50 : Nat)))
 fun (s_4 : Sl) (h : Array Obj) ↦
 K (s_4, s_1.snd.fst, IntKind.wrap IntKind.i64 (s_1.snd.snd + (1 : Int))) h)
 (∃ (n : Int),
 ∃ (b : Bs (32 : Nat)),
 ∃ (n_2 : Int),
 ∃ (b_3 : Bs (32 : Nat)),
 ∃ (s_3 : List UInt8),
 (at1 h_4 (Array.size h_2) (0 : Nat) (Value.int IntKind.i64 n) ∧
 atBytes h_4 (Array.size h_2) (1 : Nat) (32 : Nat) b ∧
 at1 h_4 (Array.size h_2) (33 : Nat) (Value.int IntKind.i64 n_2) ∧
 atBytes h_4 (Array.size h_2) (34 : Nat) (32 : Nat) b_3 ∧
 at1 h_4 (Array.size h_2) (66 : Nat) (Value.string (ByteArray.mk (List.toArray s_3)))) ∧
 ∃ (new : List Value),
 slAt
 (Array.push h_4
 (row
 (TVs.cells
 [TV.agg
 [TV.int IntKind.i64 n, TV.bytes (32 : Nat) b, TV.int IntKind.i64 n_2,
 TV.bytes (32 : Nat) b_3, TV.str s_3]])
 (50 : Nat)))
 (Sl.mk (some (Loc.mk (Array.size h_4) (0 : Nat))) (1 : Nat) (1 : Nat)) (67 : Nat) new ∧
 (∀ (v : Value), v ∈ new → isOne v = true) ∧
 vcAppend YtldocdpdjdekiaaGreat.ctx (50 : Nat) s_1.snd.fst (1 : Nat) new
 (Array.push h_4
 (row
 (TVs.cells
 [TV.agg
 [TV.int IntKind.i64 n, TV.bytes (32 : Nat) b, TV.int IntKind.i64 n_2,
 TV.bytes (32 : Nat) b_3, TV.str s_3]])
 (50 : Nat)))
 fun (s_4 : Sl) (h : Array Obj) ↦
 K (s_1.fst, s_4, IntKind.wrap IntKind.i64 (s_1.snd.snd + (1 : Int))) h))
 (Nn p fun (l_1 : Go.Vc.Loc) ↦
 wok h_2 l_1.b l_1.o (1 : Nat) ∧ Vc.Bind (TV.put h_2 l_1.b l_1.o (TV.slice s_1.snd.fst)) fun (h : Array Obj) ↦ R (TV.val (TV.slice s_1.fst)) h)

theorem tollerref16_Of_calls (p : Option Go.Vc.Loc) (parent : Bs (32 : Nat)) (h : Heap) (R : Value → Heap → Prop) (H : tollerref16_Of_vc p parent h R) : CallsH Tryz.prog 54 (TVs.vals [TV.ptr p, TV.bytes (32 : Nat) parent]) h R :=
 vcFn_sound (C := ctx) ctx_ok (fn := Tryz.f54) Tryz.func54 ((by kernel_rfl : tollerref16_Of_vc p parent h R = vcFn ctx Tryz.f54 [TV.ptr p, TV.bytes (32 : Nat) parent] h R) ▸ H)


def tollerref16_Drop_vc (p : Option Go.Vc.Loc) (slot : Int) (h : Heap) (R : Value → Heap → Prop) : Prop :=
 Nn p fun (l : Go.Vc.Loc) ↦
 ∃ (s : Sl),
 at1 h l.b l.o (slVal s) ∧
 Go.Vc.Loop (Sl.mk none (0 : Nat) (0 : Nat), (0 : Int), (0 : Int)) h fun (s_1 : Sl × Int × Int) (h : Array Obj) (K : Sl × Int × Int → Array Obj → Prop) ↦
 If (decide (s_1.snd.snd < (↑s.len : Int)))
 ((0 : Int) ≤ s_1.snd.snd ∧
 s_1.snd.snd < (↑s.len : Int) ∧
 Nn s.a fun (l_1 : Go.Vc.Loc) ↦
 ∃ (n : Int),
 ∃ (b : Bs (32 : Nat)),
 ∃ (n_1 : Int),
 ∃ (b_1 : Bs (32 : Nat)),
 ∃ (s_2 : List UInt8),
 (at1 h l_1.b (l_1.o + Int.toNat s_1.snd.snd * (67 : Nat)) (Value.int IntKind.i64 n) ∧
 atBytes h l_1.b (l_1.o + Int.toNat s_1.snd.snd * (67 : Nat) + (1 : Nat)) (32 : Nat) b ∧
 at1 h l_1.b (l_1.o + Int.toNat s_1.snd.snd * (67 : Nat) + (1 : Nat) + (32 : Nat)) (Value.int IntKind.i64 n_1) ∧
 atBytes h l_1.b (l_1.o + Int.toNat s_1.snd.snd * (67 : Nat) + (1 : Nat) + (32 : Nat) + (1 : Nat)) (32 : Nat) b_1 ∧
 at1 h l_1.b (l_1.o + Int.toNat s_1.snd.snd * (67 : Nat) + (1 : Nat) + (32 : Nat) + (1 : Nat) + (32 : Nat))
 (Value.string (ByteArray.mk (List.toArray s_2)))) ∧
 Vc.Bind
 (newTV h
 (TV.agg
 [TV.int IntKind.i64 (0 : Int), TV.bytes (32 : Nat) (Bs.zero (32 : Nat)), TV.int IntKind.i64 (0 : Int),
 TV.bytes (32 : Nat) (Bs.zero (32 : Nat)), TV.str []])
 (50 : Nat))
 fun (h_1 : Array Obj) ↦
 wok h_1 (Array.size h) (0 : Nat) (67 : Nat) ∧
 Vc.Bind
 (TV.put h_1 (Array.size h) (0 : Nat)
 (TV.agg [TV.int IntKind.i64 n, TV.bytes (32 : Nat) b, TV.int IntKind.i64 n_1, TV.bytes (32 : Nat) b_1, TV.str s_2]))
 fun (h_2 : Array Obj) ↦
 ∃ (n : Int),
 at1 h_2 (Array.size h) (0 : Nat) (Value.int IntKind.i64 n) ∧
 If (decide (slot < n))
 (∃ (n : Int),
 ∃ (b : Bs (32 : Nat)),
 ∃ (n_2 : Int),
 ∃ (b_2 : Bs (32 : Nat)),
 ∃ (s_3 : List UInt8),
 (at1 h_2 (Array.size h) (0 : Nat) (Value.int IntKind.i64 n) ∧
 atBytes h_2 (Array.size h) (1 : Nat) (32 : Nat) b ∧
 at1 h_2 (Array.size h) (33 : Nat) (Value.int IntKind.i64 n_2) ∧
 atBytes h_2 (Array.size h) (34 : Nat) (32 : Nat) b_2 ∧
 at1 h_2 (Array.size h) (66 : Nat) (Value.string (ByteArray.mk (List.toArray s_3)))) ∧
 ∃ (new : List Value),
 slAt
 (Array.push h_2
 (row
 (TVs.cells
 [TV.agg
 [TV.int IntKind.i64 n, TV.bytes (32 : Nat) b, TV.int IntKind.i64 n_2,
 TV.bytes (32 : Nat) b_2, TV.str s_3]])
 (50 : Nat)))
 (Sl.mk (some (Loc.mk (Array.size h_2) (0 : Nat))) (1 : Nat) (1 : Nat)) (67 : Nat) new ∧
 (∀ (v : Value), v ∈ new → isOne v = true) ∧
 vcAppend YtldocdpdjdekiaaGreat.ctx (50 : Nat) s_1.fst (1 : Nat) new
 (Array.push h_2
 (row
 (TVs.cells
 [TV.agg
 [TV.int IntKind.i64 n, TV.bytes (32 : Nat) b, TV.int IntKind.i64 n_2,
 TV.bytes (32 : Nat) b_2, TV.str s_3]])
 (50 : Nat)))
 fun (s_4 : Sl) (h : Array Obj) ↦
 K (s_4, s_1.snd.fst, IntKind.wrap IntKind.i64 (s_1.snd.snd + (1 : Int))) h)
 (K (s_1.fst, IntKind.wrap IntKind.i64 (s_1.snd.fst + (1 : Int)), IntKind.wrap IntKind.i64 (s_1.snd.snd + (1 : Int)))
 h_2))
 (Nn p fun (l_1 : Go.Vc.Loc) ↦
 wok h l_1.b l_1.o (1 : Nat) ∧ Vc.Bind (TV.put h l_1.b l_1.o (TV.slice s_1.fst)) fun (h : Array Obj) ↦ R (TV.val (TV.int IntKind.i64 s_1.snd.fst)) h)

theorem tollerref16_Drop_calls (p : Option Go.Vc.Loc) (slot : Int) (h : Heap) (R : Value → Heap → Prop) (H : tollerref16_Drop_vc p slot h R) : CallsH Tryz.prog 29 (TVs.vals [TV.ptr p, TV.int IntKind.i64 slot]) h R :=
 vcFn_sound (C := ctx) ctx_ok (fn := Tryz.f29) Tryz.func29 ((by kernel_rfl : tollerref16_Drop_vc p slot h R = vcFn ctx Tryz.f29 [TV.ptr p, TV.int IntKind.i64 slot] h R) ▸ H)


def tollerref16_Roots_vc (p : Option Go.Vc.Loc) (h : Heap) (R : Value → Heap → Prop) : Prop :=
 Nn p fun (l : Go.Vc.Loc) ↦
 ∃ (s : Sl),
 at1 h l.b l.o (slVal s) ∧
 Go.Vc.Loop (Sl.mk none (0 : Nat) (0 : Nat), (0 : Int)) h fun (s_1 : Sl × Int) (h : Array Obj) (K : Sl × Int → Array Obj → Prop) ↦
 If (decide (s_1.snd < (↑s.len : Int)))
 ((0 : Int) ≤ s_1.snd ∧
 s_1.snd < (↑s.len : Int) ∧
 Nn s.a fun (l : Go.Vc.Loc) ↦
 ∃ (n : Int),
 ∃ (b : Bs (32 : Nat)),
 ∃ (n_1 : Int),
 ∃ (b_1 : Bs (32 : Nat)),
 ∃ (s : List UInt8),
 (at1 h l.b (l.o + Int.toNat s_1.snd * (67 : Nat)) (Value.int IntKind.i64 n) ∧
 atBytes h l.b (l.o + Int.toNat s_1.snd * (67 : Nat) + (1 : Nat)) (32 : Nat) b ∧
 at1 h l.b (l.o + Int.toNat s_1.snd * (67 : Nat) + (1 : Nat) + (32 : Nat)) (Value.int IntKind.i64 n_1) ∧
 atBytes h l.b (l.o + Int.toNat s_1.snd * (67 : Nat) + (1 : Nat) + (32 : Nat) + (1 : Nat)) (32 : Nat) b_1 ∧
 at1 h l.b (l.o + Int.toNat s_1.snd * (67 : Nat) + (1 : Nat) + (32 : Nat) + (1 : Nat) + (32 : Nat))
 (Value.string (ByteArray.mk (List.toArray s)))) ∧
 Vc.Bind
 (newTV h
 (TV.agg
 [TV.int IntKind.i64 (0 : Int), TV.bytes (32 : Nat) (Bs.zero (32 : Nat)), TV.int IntKind.i64 (0 : Int),
 TV.bytes (32 : Nat) (Bs.zero (32 : Nat)), TV.str []])
 (50 : Nat))
 fun (h_1 : Array Obj) ↦
 wok h_1 (Array.size h) (0 : Nat) (67 : Nat) ∧
 Vc.Bind
 (TV.put h_1 (Array.size h) (0 : Nat)
 (TV.agg [TV.int IntKind.i64 n, TV.bytes (32 : Nat) b, TV.int IntKind.i64 n_1, TV.bytes (32 : Nat) b_1, TV.str s]))
 fun (h_2 : Array Obj) ↦
 ∃ (b : Bs (32 : Nat)),
 atBytes h_2 (Array.size h) (1 : Nat) (32 : Nat) b ∧
 ∃ (new : List Value),
 slAt (Array.push h_2 (row (TVs.cells [TV.bytes (32 : Nat) b]) (24 : Nat)))
 (Sl.mk (some (Loc.mk (Array.size h_2) (0 : Nat))) (1 : Nat) (1 : Nat)) (32 : Nat) new ∧
 (∀ (v : Value), v ∈ new → isOne v = true) ∧
 vcAppend YtldocdpdjdekiaaGreat.ctx (24 : Nat) s_1.fst (1 : Nat) new
 (Array.push h_2 (row (TVs.cells [TV.bytes (32 : Nat) b]) (24 : Nat))) fun (s : Sl) (h : Array Obj) ↦
 K (s, IntKind.wrap IntKind.i64 (s_1.snd + (1 : Int))) h)
 (R (TV.val (TV.slice s_1.fst)) h)

theorem tollerref16_Roots_calls (p : Option Go.Vc.Loc) (h : Heap) (R : Value → Heap → Prop) (H : tollerref16_Roots_vc p h R) : CallsH Tryz.prog 38 (TVs.vals [TV.ptr p]) h R :=
 vcFn_sound (C := ctx) ctx_ok (fn := Tryz.f38) Tryz.func38 ((by kernel_rfl : tollerref16_Roots_vc p h R = vcFn ctx Tryz.f38 [TV.ptr p] h R) ▸ H)


def tollerref10_Same_vc (a : Sl) (b : Sl) (h : Heap) (R : Value → Heap → Prop) : Prop :=
 If (!decide ((↑a.len : Int) = (↑b.len : Int))) (R (TV.val (TV.bool false)) h)
 (Go.Vc.Loop (false, (0 : Int)) h fun (s : Bool × Int) (h : Array Obj) (K : Bool × Int → Array Obj → Prop) ↦
 If (decide (s.snd < (↑a.len : Int)))
 ((0 : Int) ≤ s.snd ∧
 s.snd < (↑a.len : Int) ∧
 Nn a.a fun (l : Go.Vc.Loc) ↦
 ∃ (b_1 : Bs (32 : Nat)),
 atBytes h l.b (l.o + Int.toNat s.snd * (32 : Nat)) (32 : Nat) b_1 ∧
 (0 : Int) ≤ s.snd ∧
 s.snd < (↑b.len : Int) ∧
 Nn b.a fun (l : Go.Vc.Loc) ↦
 ∃ (b : Bs (32 : Nat)),
 atBytes h l.b (l.o + Int.toNat s.snd * (32 : Nat)) (32 : Nat) b ∧
 If (!decide (b_1.l = b.l)) (R (TV.val (TV.bool false)) h) (K (s.fst, IntKind.wrap IntKind.i64 (s.snd + (1 : Int))) h))
 (R (TV.val (TV.bool true)) h))

theorem tollerref10_Same_calls (a : Sl) (b : Sl) (h : Heap) (R : Value → Heap → Prop) (H : tollerref10_Same_vc a b h R) : CallsH Tryz.prog 35 (TVs.vals [TV.slice a, TV.slice b]) h R :=
 vcFn_sound (C := ctx) ctx_ok (fn := Tryz.f35) Tryz.func35 ((by kernel_rfl : tollerref10_Same_vc a b h R = vcFn ctx Tryz.f35 [TV.slice a, TV.slice b] h R) ▸ H)


end Go.Proofs.YtldocdpdjdekiaaGreat
end

section
/- Blocks and votes that wait, in the document. -/
namespace Go.Proofs.YtldocdpdjdekiaaGreat.Pool
open Go Go.Vc
open Board (Dm Ms decF nameF zeroM ms_at put_n mssz mssz1 docdecode_spec docroot_spec BodyOk bsz bools take_snoc dec_good msame_spec)

/-- The number that a block has is one of 64 bits. -/
theorem chk_body {d e : Dm} (h : Board.chk d = some e) (hb : 0 ≤ d.body ∧ d.body < 18446744073709551616) : 0 ≤ e.body ∧ e.body < 18446744073709551616 := by
  obtain ⟨rfl, _⟩ := Board.chk_some h
  exact hb

theorem dec_body {s : List UInt8} {d : Dm} (h : decF s = some d) (b : Sl) : BodyOk (d.ms b) := by
  show 0 ≤ d.body ∧ d.body < _
  have hz : (0 : Int) ≤ 0 ∧ (0 : Int) < 18446744073709551616 := by decide
  unfold decF at h
  split at h
  · cases h
  split at h
  · split at h
    · have := Board.num_lt8 (s := (s.drop 39).take 8) (by rw [List.length_take]; omega)
      exact chk_body h ⟨by dsimp only; omega, by dsimp only; omega⟩
    · cases h
  split at h
  · split at h
    · exact chk_body h hz
    · cases h
  split at h
  · split at h
    · cases h
    · exact chk_body h hz
  · cases h

section
variable {R : Value → Heap → Prop} {h : Heap} {m : Nat} {A : Sl} {M L : List It} {most quota : Int}

theorem docdecode2_spec {s : List UInt8} (hs : s.length < 1000) (hr : ∀ h' b ok, Elems 1 h' b (bools (dmOf s).row) → Ext h h' → (∀ l, b.a = some l → h.size ≤ l.b ∧ l.b < h'.size) → R (TV.tup [((dmOf s).ms b).tv, .bool ok]).val h') :
    CallsH Tryz.prog 48 (TVs.vals [.str s]) h R := by
  refine docdecode_spec hs (fun hn h' x => ?_) fun d h' b hd e x loc => ?_
  · have := hr h' Sl.nil false
    rw [dmOf_none hn] at this
    exact this (Elems.nil_ 1 h') x fun l hl => by cases hl
  · have := hr h' b true
    rw [dmOf_some hd] at this
    exact this e x loc

/-- What changes when the document's pool does. -/
structure GrownR (m : Nat) (A : Sl) (h : Heap) (A' : Sl) (h' : Heap) : Prop where
  only : Only (· = m) h h'
  new : ∀ l, A'.a = some l → (∃ l', A.a = some l' ∧ l'.b = l.b) ∨ h.size ≤ l.b

theorem GrownR.of_ext {h' : Heap} (x : Ext h h') : GrownR m A h A h' := ⟨Only.of_ext x, fun l hl => .inl ⟨l, hl, rfl⟩⟩
theorem GrownR.trans {A' A2 : Sl} {h' h2 : Heap} (g : GrownR m A h A' h') (k : GrownR m A' h' A2 h2) : GrownR m A h A2 h2 := by
  refine ⟨g.only.trans k.only, fun l hl => ?_⟩
  have := g.only.size
  rcases k.new l hl with ⟨l', h1, h2⟩ | h1
  · rcases g.new l' h1 with ⟨l2, h3, h4⟩ | h3
    · exact .inl ⟨l2, h3, by omega⟩
    · exact .inr (by omega)
  · exact .inr (by omega)


set_option maxRecDepth 100000 in
theorem docoput_spec (r : RL h m A M most quota) {peer : Int} {text : List UInt8} (hm : 1 ≤ most) (hmm : most ≤ 64) (hlen : (M.length : Int) ≤ most) (ht : text.length < 1000)
    (hr : ∀ h' A', RL h' m A' (putW (fun k => decide (k = 1)) most quota peer text M).2.2 most quota → GrownR m A h A' h' → R (TV.tup [.int .i64 (putW (fun k => decide (k = 1)) most quota peer text M).1, .bytes 32 (putW (fun k => decide (k = 1)) most quota peer text M).2.1]).val h') :
    CallsH Tryz.prog 55 (TVs.vals [.ptr (some ⟨m, 0⟩), .int .i64 peer, .str text]) h R := by
  apply tollerref16_Put_calls
  unfold tollerref16_Put_vc
  have hmlt := r.var.lt
  refine newTV_in fun h1 v1 x1 s1 => ?_
  have bad : ∀ hh, Ext h1 hh → putW (fun k => decide (k = 1)) most quota peer text M = (5, Bs.zero 32, M) →
      wok hh h.size 0 32 ∧ Bind (TV.put hh h.size 0 (TV.bytes 32 (Bs.zero 32))) fun (h_5 : Heap) => ∃ (b : Bs 32), atBytes h_5 h.size 0 32 b ∧ R (TV.tup [.int .i64 5, .bytes 32 b]).val h_5 := by
    intro hh xx he
    refine put_n (v1.ext xx) (t := .bytes 32 (Bs.zero 32)) rfl rfl fun h5 v5 f5 s5 => ⟨_, v5.bytes, ?_⟩
    rw [he] at hr
    have x5 : Ext h h5 := Only.cut (x1.trans xx) f5 fun i hi => by omega
    exact hr h5 A (r.ext x5) (.of_ext x5)
  refine docdecode_spec (by omega) (fun hno h2 x2 => ?_) fun d h2 bs hd e2 x2 _ => ?_
  · refine ⟨_, _, _, _, _, _, _, _, rfl, newTV_in fun h3 v3 x3 s3 => put_n (t0 := zeroM.tv) v3 (t := zeroM.tv) mssz1 mssz fun h4 v4 f4 s4 => ?_⟩
    have x24 : Ext h2 h4 := Only.cut x3 f4 fun i hi => by omega
    intro J HJ
    exact If.yes (bad h4 (x2.trans x24) (putW_none hno))
  refine ⟨_, _, _, _, _, _, _, _, rfl, newTV_in fun h3 v3 x3 s3 => put_n (t0 := zeroM.tv) v3 (t := (d.ms bs).tv) mssz1 mssz fun h4 v4 f4 s4 => ?_⟩
  have x24 : Ext h2 h4 := Only.cut x3 f4 fun i hi => by omega
  have x14 := x2.trans x24
  have x04 := x1.trans x14
  intro J HJ
  have z24 := x24.size
  have z2 := x2.size
  have z1 := x1.size
  refine If.no ⟨d.kind, v4.at1 rfl, If.split (fun hk => ?_) fun hk => ?_⟩
  · have hk' : d.kind ≠ 1 := by simpa using hk
    exact bad h4 x14 (putW_no hd (decide_eq_false hk'))
  have hwant : decide (d.kind = 1) = true := by simpa using hk
  refine HJ 0 h4 ?_
  clear HJ bad
  intro J2 HJ2
  have hput := putW_yes (most := most) (quota := quota) (peer := peer) (S := M) (want := fun k => decide (k = 1)) hd hwant
  have fin : ∀ (hh : Heap) (q : Nat) (A' : Sl) (a : Option Vc.Loc × Int × Bs 32 × Int × Bs 32 × List UInt8 × Int × Option Vc.Loc × Int), a.2.2.2.2.2.2.2 = (some ⟨q, 0⟩, (putS most quota (itemOf d peer text) M).1) →
      Var 50 hh q (putS most quota (itemOf d peer text) M).2.1.tv → RL hh m A' (putS most quota (itemOf d peer text) M).2.2 most quota → GrownR m A h4 A' hh → J2 a hh := by
    intro hh q A' a ha vq p g
    refine HJ2 a hh ?_
    dsimp only
    rw [ha]
    refine ⟨_, v_root vq, ?_⟩
    have v1h : Var 24 hh h.size (.bytes 32 (Bs.zero 32)) := (v1.ext x14).only g.only (by omega)
    refine put_n v1h (t := .bytes 32 (putS most quota (itemOf d peer text) M).2.1.root) rfl bsz fun h5 v5 f5 s5 => ⟨_, v5.bytes, ?_⟩
    have new : ∀ l, A'.a = some l → (∃ l', A.a = some l' ∧ l'.b = l.b) ∨ h4.size ≤ l.b := g.new
    have g5 : GrownR m A h A' h5 := ⟨⟨by have := g.only.size; omega, fun i hi hn => by
      rw [f5.same i (by have := g.only.size; omega) (by omega), g.only.same i (by omega) hn, x04.same i hi]⟩, fun l hl => by
      rcases new l hl with h9 | h9
      · exact .inl h9
      · exact .inr (by omega)⟩
    have hA : ∀ l, A'.a = some l → l.b ≠ h.size := fun l hl => by
      rcases new l hl with ⟨l', h9, h10⟩ | h9
      · have := r.low l' h9; omega
      · omega
    have p5 : RL h5 m A' (putS most quota (itemOf d peer text) M).2.2 most quota := ⟨p.var.only f5 (by omega), p.el.only f5 hA, p.cap, p.apart, fun l hl => by have := p.low l hl; omega, p.few⟩
    have := hr h5 A' (by rw [hput]; exact p5) g5
    rw [hput] at this
    exact this
  have hrow := dm_row hd
  have hkind := Board.good_kind (dec_good hd)
  have hbody := dec_body hd bs
  have e4 := e2.ext x24
  have v4 : Var 58 h4 h2.size (d.ms bs).tv := v4
  refine ⟨d.slot, v4.at1 rfl, ms_at v4 ⟨d.target, v4.at.2.2.1, ⟨?_, ?_⟩⟩⟩
  · refine docroot_spec (m := d.ms bs) e4 hrow hkind hbody fun h5 x5 => ⟨_, rfl, x5, ⟨?_, ?_⟩⟩
    · refine docput_spec (x := itemOf d peer text) ((r.ext x04).ext x5) hm hmm hlen fun h6 A' p6 f6 n6 => ⟨_, _, _, _, _, _, rfl, ?_⟩
      refine newTV_in fun h7 v7 x7 s7 => ⟨x7, put_n (t0 := It.zero.tv) v7 (t := (putS most quota (itemOf d peer text) M).2.1.tv) (It.size _).symm rfl fun h8 v8 f8 s8 => ?_⟩
      have x68 : Ext h6 h8 := Only.cut x7 f8 fun i hi => by omega
      exact fin h8 _ A' _ rfl v8 (p6.ext x68) ((GrownR.of_ext x5).trans (GrownR.trans ⟨f6, n6⟩ (.of_ext x68)))
    · refine newTV_in fun h6 v6 x6 s6 => ⟨x6, ?_⟩
      refine docput_spec (x := itemOf d peer text) (((r.ext x04).ext x5).ext x6) hm hmm hlen fun h7 A' p7 f7 n7 => ⟨_, _, _, _, _, _, rfl, ?_⟩
      have z5 := x5.size
      have hA : ∀ l, A'.a = some l → l.b ≠ h5.size := fun l hl => by
        rcases n7 l hl with ⟨l', h9, h10⟩ | h9
        · have := r.low l' h9; omega
        · omega
      refine put_n (t0 := It.zero.tv) (v6.only f7 (by omega)) (t := (putS most quota (itemOf d peer text) M).2.1.tv) (It.size _).symm rfl fun h8 v8 f8 s8 => ?_
      have p8 : RL h8 m A' (putS most quota (itemOf d peer text) M).2.2 most quota := ⟨p7.var.only f8 (by omega), p7.el.only f8 hA, p7.cap, p7.apart, fun l hl => by have := p7.low l hl; omega, p7.few⟩
      refine fin h8 _ A' _ rfl v8 p8 ((GrownR.of_ext x5).trans ⟨⟨by have := f7.size; omega, fun i hi hn => ?_⟩, fun l hl => ?_⟩)
      · have := f7.size
        rw [f8.same i (by omega) (by omega), f7.same i (by omega) hn, x6.same i hi]
      · rcases n7 l hl with h9 | h9
        · exact .inl h9
        · exact .inr (by omega)
  · refine newTV_in fun h5 v5 x5 s5 => ⟨x5, ?_⟩
    refine docroot_spec (m := d.ms bs) (e4.ext x5) hrow hkind hbody fun h6 x6 => ⟨_, rfl, x6, ?_⟩
    have z6 := x6.size
    refine docput_spec (x := itemOf d peer text) (((r.ext x04).ext x5).ext x6) hm hmm hlen fun h7 A' p7 f7 n7 => ⟨_, _, _, _, _, _, rfl, ?_⟩
    have hA : ∀ l, A'.a = some l → l.b ≠ h4.size := fun l hl => by
      rcases n7 l hl with ⟨l', h9, h10⟩ | h9
      · have := r.low l' h9; omega
      · omega
    refine put_n (t0 := It.zero.tv) ((v5.ext x6).only f7 (by omega)) (t := (putS most quota (itemOf d peer text) M).2.1.tv) (It.size _).symm rfl fun h8 v8 f8 s8 => ?_
    have p8 : RL h8 m A' (putS most quota (itemOf d peer text) M).2.2 most quota := ⟨p7.var.only f8 (by omega), p7.el.only f8 hA, p7.cap, p7.apart, fun l hl => by have := p7.low l hl; omega, p7.few⟩
    refine fin h8 _ A' _ rfl v8 p8 ⟨⟨by have := f7.size; omega, fun i hi hn => ?_⟩, fun l hl => ?_⟩
    · have := f7.size
      rw [f8.same i (by omega) (by omega), f7.same i (by omega) hn, x6.same i (by omega), x5.same i hi]
    · rcases n7 l hl with h9 | h9
      · exact .inl h9
      · exact .inr (by omega)


set_option maxRecDepth 100000 in
theorem doceput_spec (r : RL h m A M most quota) {peer : Int} {text : List UInt8} (hm : 1 ≤ most) (hmm : most ≤ 64) (hlen : (M.length : Int) ≤ most) (ht : text.length < 1000)
    (hr : ∀ h' A', RL h' m A' (putW (fun k => !decide (k = 1)) most quota peer text M).2.2 most quota → GrownR m A h A' h' → R (TV.tup [.int .i64 (putW (fun k => !decide (k = 1)) most quota peer text M).1, .bytes 32 (putW (fun k => !decide (k = 1)) most quota peer text M).2.1]).val h') :
    CallsH Tryz.prog 19 (TVs.vals [.ptr (some ⟨m, 0⟩), .int .i64 peer, .str text]) h R := by
  apply tollerref17_Put_calls
  unfold tollerref17_Put_vc
  have hmlt := r.var.lt
  refine newTV_in fun h1 v1 x1 s1 => ?_
  have bad : ∀ hh, Ext h1 hh → putW (fun k => !decide (k = 1)) most quota peer text M = (5, Bs.zero 32, M) →
      wok hh h.size 0 32 ∧ Bind (TV.put hh h.size 0 (TV.bytes 32 (Bs.zero 32))) fun (h_5 : Heap) => ∃ (b : Bs 32), atBytes h_5 h.size 0 32 b ∧ R (TV.tup [.int .i64 5, .bytes 32 b]).val h_5 := by
    intro hh xx he
    refine put_n (v1.ext xx) (t := .bytes 32 (Bs.zero 32)) rfl rfl fun h5 v5 f5 s5 => ⟨_, v5.bytes, ?_⟩
    rw [he] at hr
    have x5 : Ext h h5 := Only.cut (x1.trans xx) f5 fun i hi => by omega
    exact hr h5 A (r.ext x5) (.of_ext x5)
  refine docdecode_spec (by omega) (fun hno h2 x2 => ?_) fun d h2 bs hd e2 x2 _ => ?_
  · refine ⟨_, _, _, _, _, _, _, _, rfl, newTV_in fun h3 v3 x3 s3 => put_n (t0 := zeroM.tv) v3 (t := zeroM.tv) mssz1 mssz fun h4 v4 f4 s4 => ?_⟩
    have x24 : Ext h2 h4 := Only.cut x3 f4 fun i hi => by omega
    intro J HJ
    exact If.yes (bad h4 (x2.trans x24) (putW_none hno))
  refine ⟨_, _, _, _, _, _, _, _, rfl, newTV_in fun h3 v3 x3 s3 => put_n (t0 := zeroM.tv) v3 (t := (d.ms bs).tv) mssz1 mssz fun h4 v4 f4 s4 => ?_⟩
  have x24 : Ext h2 h4 := Only.cut x3 f4 fun i hi => by omega
  have x14 := x2.trans x24
  have x04 := x1.trans x14
  intro J HJ
  have z24 := x24.size
  have z2 := x2.size
  have z1 := x1.size
  refine If.no ⟨d.kind, v4.at1 rfl, If.split (fun hk => ?_) fun hk => ?_⟩
  · exact bad h4 x14 (putW_no hd (by rw [hk]; rfl))
  have hwant : (!decide (d.kind = 1)) = true := by rw [hk]; rfl
  refine HJ 0 h4 ?_
  clear HJ bad
  intro J2 HJ2
  have hput := putW_yes (most := most) (quota := quota) (peer := peer) (S := M) (want := fun k => !decide (k = 1)) hd hwant
  have fin : ∀ (hh : Heap) (q : Nat) (A' : Sl) (a : Option Vc.Loc × Int × Bs 32 × Int × Bs 32 × List UInt8 × Int × Option Vc.Loc × Int), a.2.2.2.2.2.2.2 = (some ⟨q, 0⟩, (putS most quota (itemOf d peer text) M).1) →
      Var 50 hh q (putS most quota (itemOf d peer text) M).2.1.tv → RL hh m A' (putS most quota (itemOf d peer text) M).2.2 most quota → GrownR m A h4 A' hh → J2 a hh := by
    intro hh q A' a ha vq p g
    refine HJ2 a hh ?_
    dsimp only
    rw [ha]
    refine ⟨_, v_root vq, ?_⟩
    have v1h : Var 24 hh h.size (.bytes 32 (Bs.zero 32)) := (v1.ext x14).only g.only (by omega)
    refine put_n v1h (t := .bytes 32 (putS most quota (itemOf d peer text) M).2.1.root) rfl bsz fun h5 v5 f5 s5 => ⟨_, v5.bytes, ?_⟩
    have new : ∀ l, A'.a = some l → (∃ l', A.a = some l' ∧ l'.b = l.b) ∨ h4.size ≤ l.b := g.new
    have g5 : GrownR m A h A' h5 := ⟨⟨by have := g.only.size; omega, fun i hi hn => by
      rw [f5.same i (by have := g.only.size; omega) (by omega), g.only.same i (by omega) hn, x04.same i hi]⟩, fun l hl => by
      rcases new l hl with h9 | h9
      · exact .inl h9
      · exact .inr (by omega)⟩
    have hA : ∀ l, A'.a = some l → l.b ≠ h.size := fun l hl => by
      rcases new l hl with ⟨l', h9, h10⟩ | h9
      · have := r.low l' h9; omega
      · omega
    have p5 : RL h5 m A' (putS most quota (itemOf d peer text) M).2.2 most quota := ⟨p.var.only f5 (by omega), p.el.only f5 hA, p.cap, p.apart, fun l hl => by have := p.low l hl; omega, p.few⟩
    have := hr h5 A' (by rw [hput]; exact p5) g5
    rw [hput] at this
    exact this
  have hrow := dm_row hd
  have hkind := Board.good_kind (dec_good hd)
  have hbody := dec_body hd bs
  have e4 := e2.ext x24
  have v4 : Var 58 h4 h2.size (d.ms bs).tv := v4
  refine ⟨d.slot, v4.at1 rfl, ms_at v4 ⟨d.target, v4.at.2.2.1, ⟨?_, ?_⟩⟩⟩
  · refine docroot_spec (m := d.ms bs) e4 hrow hkind hbody fun h5 x5 => ⟨_, rfl, x5, ⟨?_, ?_⟩⟩
    · refine docput_spec (x := itemOf d peer text) ((r.ext x04).ext x5) hm hmm hlen fun h6 A' p6 f6 n6 => ⟨_, _, _, _, _, _, rfl, ?_⟩
      refine newTV_in fun h7 v7 x7 s7 => ⟨x7, put_n (t0 := It.zero.tv) v7 (t := (putS most quota (itemOf d peer text) M).2.1.tv) (It.size _).symm rfl fun h8 v8 f8 s8 => ?_⟩
      have x68 : Ext h6 h8 := Only.cut x7 f8 fun i hi => by omega
      exact fin h8 _ A' _ rfl v8 (p6.ext x68) ((GrownR.of_ext x5).trans (GrownR.trans ⟨f6, n6⟩ (.of_ext x68)))
    · refine newTV_in fun h6 v6 x6 s6 => ⟨x6, ?_⟩
      refine docput_spec (x := itemOf d peer text) (((r.ext x04).ext x5).ext x6) hm hmm hlen fun h7 A' p7 f7 n7 => ⟨_, _, _, _, _, _, rfl, ?_⟩
      have z5 := x5.size
      have hA : ∀ l, A'.a = some l → l.b ≠ h5.size := fun l hl => by
        rcases n7 l hl with ⟨l', h9, h10⟩ | h9
        · have := r.low l' h9; omega
        · omega
      refine put_n (t0 := It.zero.tv) (v6.only f7 (by omega)) (t := (putS most quota (itemOf d peer text) M).2.1.tv) (It.size _).symm rfl fun h8 v8 f8 s8 => ?_
      have p8 : RL h8 m A' (putS most quota (itemOf d peer text) M).2.2 most quota := ⟨p7.var.only f8 (by omega), p7.el.only f8 hA, p7.cap, p7.apart, fun l hl => by have := p7.low l hl; omega, p7.few⟩
      refine fin h8 _ A' _ rfl v8 p8 ((GrownR.of_ext x5).trans ⟨⟨by have := f7.size; omega, fun i hi hn => ?_⟩, fun l hl => ?_⟩)
      · have := f7.size
        rw [f8.same i (by omega) (by omega), f7.same i (by omega) hn, x6.same i hi]
      · rcases n7 l hl with h9 | h9
        · exact .inl h9
        · exact .inr (by omega)
  · refine newTV_in fun h5 v5 x5 s5 => ⟨x5, ?_⟩
    refine docroot_spec (m := d.ms bs) (e4.ext x5) hrow hkind hbody fun h6 x6 => ⟨_, rfl, x6, ?_⟩
    have z6 := x6.size
    refine docput_spec (x := itemOf d peer text) (((r.ext x04).ext x5).ext x6) hm hmm hlen fun h7 A' p7 f7 n7 => ⟨_, _, _, _, _, _, rfl, ?_⟩
    have hA : ∀ l, A'.a = some l → l.b ≠ h4.size := fun l hl => by
      rcases n7 l hl with ⟨l', h9, h10⟩ | h9
      · have := r.low l' h9; omega
      · omega
    refine put_n (t0 := It.zero.tv) ((v5.ext x6).only f7 (by omega)) (t := (putS most quota (itemOf d peer text) M).2.1.tv) (It.size _).symm rfl fun h8 v8 f8 s8 => ?_
    have p8 : RL h8 m A' (putS most quota (itemOf d peer text) M).2.2 most quota := ⟨p7.var.only f8 (by omega), p7.el.only f8 hA, p7.cap, p7.apart, fun l hl => by have := p7.low l hl; omega, p7.few⟩
    refine fin h8 _ A' _ rfl v8 p8 ⟨⟨by have := f7.size; omega, fun i hi hn => ?_⟩, fun l hl => ?_⟩
    · have := f7.size
      rw [f8.same i (by omega) (by omega), f7.same i (by omega) hn, x6.same i (by omega), x5.same i hi]
    · rcases n7 l hl with h9 | h9
      · exact .inl h9
      · exact .inr (by omega)

/-! ### What comes out -/

theorem bytes50 : (ctx.ti 50).bytes = 96 := by kernel_rfl
theorem size50 : (ctx.ti 50).size = 67 := by kernel_rfl
theorem zsize50 : (ctx.ti 50).z.size = 67 := by kernel_rfl

theorem filter_snoc {i : Nat} {x : It} (pred : It → Bool) (hx : L[i]? = some x) : (L.take (i + 1)).filter pred = (L.take i).filter pred ++ if pred x = true then [x] else [] := by
  rw [take_snoc hx, List.filter_append]
  congr 1
  cases h : pred x <;> simp [List.filter, h]

theorem app50 {s : Sl} {x : It} {K : Sl → Heap → Prop} (o : Own 50 67 h s (its L)) (hl : L.length < 1000)
    (hk : ∀ s' h', Own 50 67 h' s' (its (L ++ [x])) → Only (In s) h h' → (∀ l, s'.a = some l → (∃ l', s.a = some l' ∧ l'.b = l.b) ∨ h.size ≤ l.b) → K s' h') :
    ∃ new, slAt (h.push (Vc.row (TVs.cells [x.tv]) 50)) (Sl.mk (some (Vc.Loc.mk h.size 0)) 1 1) 67 new ∧ (∀ v ∈ new, isOne v = true) ∧ vcAppend ctx 50 s 1 new (h.push (Vc.row (TVs.cells [x.tv]) 50)) K := by
  have tl := o.len
  rw [List.length_map] at tl
  refine append1 (C := ctx) (T := 50) (sz := 67) (x := x.tv) size50 zsize50 (by rw [bytes50]; decide) (by rw [bytes50]; omega) o (It.size x) (It.plain x) fun s' h' o' f' b' => hk s' h' ?_ f' b'
  rw [its, List.map_append]
  exact o'

theorem rput_end (r : RL h m A M most quota) {t : Sl} (o : Own 50 67 h t (its L)) (hl : L.length < 900) (ht : ∀ l, t.a = some l → l.b ≠ m) {K : Heap → Prop}
    (hk : ∀ h', RL h' m t L most quota → Only (· = m) h h' → K h') : wok h m 0 1 ∧ Bind (TV.put h m 0 (TV.slice t)) K := by
  refine field_in (i := 0) (t := .slice t) (t0 := .slice A) r.var rfl rfl rfl rfl fun h' v' f' s' => hk h' ⟨v', o.elems.only f' ht, o.cap, ht, fun l hl => by have := o.lt l hl; omega, hl⟩ f'

theorem docof_spec (r : RL h m A M most quota) {k : Bs 32} (hr : ∀ h' A' t, RL h' m A' (M.filter fun x => !decide (x.fr = k)) most quota → GrownR m A h A' h' → Own 50 67 h' t (its (M.filter fun x => decide (x.fr = k))) → (∀ l, t.a = some l → h.size ≤ l.b) → R (TV.slice t).val h') :
    CallsH Tryz.prog 54 (TVs.vals [.ptr (some ⟨m, 0⟩), .bytes 32 k]) h R := by
  apply tollerref16_Of_calls
  unfold tollerref16_Of_vc
  have few := r.few
  have hm := r.var.lt
  refine newTV_in fun h1 v1 x1 s1 => ⟨A, (r.var.ext x1).at1 rfl, ?_⟩
  have r1 := r.ext x1
  have el := r1.el.len
  rw [List.length_map] at el
  refine ⟨fun σ hh => 0 ≤ σ.2.2 ∧ σ.2.2 ≤ M.length ∧ Ext h1 hh ∧ (∀ l, σ.1.a = some l → h1.size ≤ l.b) ∧ (∀ l, σ.2.1.a = some l → h1.size ≤ l.b) ∧ (∀ i, In σ.1 i → ¬ In σ.2.1 i) ∧ Own 50 67 hh σ.1 (its ((M.take σ.2.2.toNat).filter fun x => decide (x.fr = k))) ∧ Own 50 67 hh σ.2.1 (its ((M.take σ.2.2.toNat).filter fun x => !decide (x.fr = k))),
    fun σ _ => ((M.length : Int) - σ.2.2).toNat, ⟨Int.le_refl 0, by first | omega | (dsimp only; omega), Ext.refl _, (fun l hl => by cases hl), (fun l hl => by cases hl), (fun i ⟨l, hl, _⟩ => by cases hl), Own.nil _ _ _, Own.nil _ _ _⟩, ?_⟩
  rintro ⟨t, u, i⟩ h2 ⟨i0, i1, x2, ft, fu, ap, ot, ou⟩
  dsimp only at i0 i1 x2 ft fu ap ot ou ⊢
  have z2 := x2.size
  refine If.dec.2 ⟨fun hi => ?_, fun hi => ?_⟩
  · refine its_at (r1.el.ext x2) i0 (by omega) fun l x _ hx => ?_
    refine newTV_in fun h3 v3 x3 s3 => put_in v3 (t := x.tv) rfl fun h4 v4 f4 s4 => ?_
    have x24 : Ext h2 h4 := Only.cut x3 f4 fun i hi => by omega
    have z24 := x24.size
    refine ⟨x.fr, v_fr v4, k, ((v1.ext x2).ext x24).bytes, ?_⟩
    have hfr : decide (x.fr.1 = k.1) = decide (x.fr = k) := decide_eq_decide.2 ⟨fun e => Bs.ext' e, fun e => by rw [e]⟩
    rw [hfr]
    have hi1 : (i + 1).toNat = i.toNat + 1 := by omega
    have hf1 := filter_snoc (fun x => decide (x.fr = k)) hx
    have hf2 := filter_snoc (fun x => !decide (x.fr = k)) hx
    have hl1 : ((M.take i.toNat).filter fun x => decide (x.fr = k)).length ≤ M.length := Nat.le_trans (List.length_filter_le ..) (by rw [List.length_take]; omega)
    have hl2 : ((M.take i.toNat).filter fun x => !decide (x.fr = k)).length ≤ M.length := Nat.le_trans (List.length_filter_le ..) (by rw [List.length_take]; omega)
    have inlt : ∀ {s : Sl} {L : List It}, Own 50 67 h4 s (its L) → ∀ i, In s i → i < h4.size := fun o i ⟨l, hl, hi⟩ => by have := o.lt l hl; omega
    refine If.split (fun hb => ?_) fun hb => ?_
    · rw [if_pos hb] at hf1
      rw [if_neg (by rw [hb]; decide), List.append_nil] at hf2
      refine v_it v4 (app50 (ot.ext x24) (by omega) fun s8 h8 o8 f8 b8 => ?_)
      rw [wrap_i64 (n := i + 1) (by omega) (by omega)]
      have inn : ∀ i, In s8 i → In t i ∨ h4.size ≤ i := fun i ⟨l, hl, hi⟩ => by
        rcases b8 l hl with ⟨l', h1', h2'⟩ | h1'
        · exact .inl ⟨l', h1', by omega⟩
        · exact .inr (by omega)
      refine ⟨⟨by first | omega | (dsimp only; omega), by first | omega | (dsimp only; omega), Only.cut (x2.trans x24) f8 fun j ⟨l, hl, hj⟩ => by have := ft l hl; omega, fun l hl => ?_, fu, fun i hi hx => ?_, ?_, ?_⟩, by first | omega | (dsimp only; omega)⟩
      · rcases b8 l hl with ⟨l', h1', h2'⟩ | h1'
        · have := ft l' h1'; omega
        · omega
      · rcases inn i hi with h9 | h9
        · exact ap i h9 hx
        · have := inlt (ou.ext x24) i hx; omega
      · try dsimp only
        rw [hi1, hf1]
        exact o8
      · try dsimp only
        rw [hi1, hf2]
        exact (ou.ext x24).only f8 fun l hl hx => ap _ hx ⟨l, hl, rfl⟩
    · rw [if_neg (by rw [hb]; decide), List.append_nil] at hf1
      rw [if_pos (by rw [hb]; rfl)] at hf2
      refine v_it v4 (app50 (ou.ext x24) (by omega) fun s8 h8 o8 f8 b8 => ?_)
      rw [wrap_i64 (n := i + 1) (by omega) (by omega)]
      have inn : ∀ i, In s8 i → In u i ∨ h4.size ≤ i := fun i ⟨l, hl, hi⟩ => by
        rcases b8 l hl with ⟨l', h1', h2'⟩ | h1'
        · exact .inl ⟨l', h1', by omega⟩
        · exact .inr (by omega)
      refine ⟨⟨by first | omega | (dsimp only; omega), by first | omega | (dsimp only; omega), Only.cut (x2.trans x24) f8 fun j ⟨l, hl, hj⟩ => by have := fu l hl; omega, ft, fun l hl => ?_, fun i hi hx => ?_, ?_, ?_⟩, by first | omega | (dsimp only; omega)⟩
      · rcases b8 l hl with ⟨l', h1', h2'⟩ | h1'
        · have := fu l' h1'; omega
        · omega
      · rcases inn i hx with h9 | h9
        · exact ap i hi h9
        · have := inlt (ot.ext x24) i hi; omega
      · try dsimp only
        rw [hi1, hf1]
        exact (ot.ext x24).only f8 fun l hl hx => ap _ ⟨l, hl, rfl⟩ hx
      · try dsimp only
        rw [hi1, hf2]
        exact o8
  · have hin : i.toNat = M.length := by omega
    rw [hin, List.take_length] at ot ou
    have hlf : (M.filter fun x => !decide (x.fr = k)).length ≤ M.length := List.length_filter_le ..
    refine rput_end (r1.ext x2) ou (by omega) (fun l hl => by have := fu l hl; have := x1.size; omega) fun h3 r3 f3 => ?_
    refine hr h3 u t r3 ⟨(Only.of_ext (x1.trans x2)).trans f3, fun l hl => .inr (by have := fu l hl; have := x1.size; omega)⟩ (ot.only f3 fun l hl => by have := ft l hl; have := x1.size; omega) fun l hl => by have := ft l hl; have := x1.size; omega

theorem docdrop_spec (r : RL h m A M most quota) {n : Int} (hr : ∀ h' A', RL h' m A' (M.filter fun x => !decide (x.slot ≤ n)) most quota → GrownR m A h A' h' → R (TV.int .i64 ((M.filter fun x => decide (x.slot ≤ n)).length : Int)).val h') :
    CallsH Tryz.prog 29 (TVs.vals [.ptr (some ⟨m, 0⟩), .int .i64 n]) h R := by
  apply tollerref16_Drop_calls
  unfold tollerref16_Drop_vc
  have few := r.few
  have hm := r.var.lt
  refine ⟨A, r.var.at1 rfl, ?_⟩
  have el := r.el.len
  rw [List.length_map] at el
  refine ⟨fun σ hh => 0 ≤ σ.2.2 ∧ σ.2.2 ≤ M.length ∧ Ext h hh ∧ (∀ l, σ.1.a = some l → h.size ≤ l.b) ∧ σ.2.1 = ((((M.take σ.2.2.toNat).filter fun x => decide (x.slot ≤ n)).length : Nat) : Int) ∧ Own 50 67 hh σ.1 (its ((M.take σ.2.2.toNat).filter fun x => !decide (x.slot ≤ n))),
    fun σ _ => ((M.length : Int) - σ.2.2).toNat, ⟨Int.le_refl 0, by first | omega | (dsimp only; omega), Ext.refl _, (fun l hl => by cases hl), rfl, Own.nil _ _ _⟩, ?_⟩
  rintro ⟨u, c, i⟩ h2 ⟨i0, i1, x2, fu, hc, ou⟩
  dsimp only at i0 i1 x2 fu hc ou ⊢
  have z2 := x2.size
  refine If.dec.2 ⟨fun hi => ?_, fun hi => ?_⟩
  · refine its_at (r.el.ext x2) i0 (by omega) fun l x _ hx => ?_
    refine newTV_in fun h3 v3 x3 s3 => put_in v3 (t := x.tv) rfl fun h4 v4 f4 s4 => ?_
    have x24 : Ext h2 h4 := Only.cut x3 f4 fun i hi => by omega
    have z24 := x24.size
    have hi1 : (i + 1).toNat = i.toNat + 1 := by omega
    have hf1 := filter_snoc (fun x => decide (x.slot ≤ n)) hx
    have hf2 := filter_snoc (fun x => !decide (x.slot ≤ n)) hx
    have hl1 : ((M.take i.toNat).filter fun x => decide (x.slot ≤ n)).length ≤ M.length := Nat.le_trans (List.length_filter_le ..) (by rw [List.length_take]; omega)
    have hl2 : ((M.take i.toNat).filter fun x => !decide (x.slot ≤ n)).length ≤ M.length := Nat.le_trans (List.length_filter_le ..) (by rw [List.length_take]; omega)
    refine ⟨x.slot, v_slot v4, If.dec.2 ⟨fun hb => ?_, fun hb => ?_⟩⟩
    · rw [if_neg (by simp; omega), List.append_nil] at hf1
      rw [if_pos (by simp; omega)] at hf2
      refine v_it v4 (app50 (ou.ext x24) (by omega) fun s8 h8 o8 f8 b8 => ?_)
      rw [wrap_i64 (n := i + 1) (by omega) (by omega)]
      refine ⟨⟨by first | omega | (dsimp only; omega), by first | omega | (dsimp only; omega), Only.cut (x2.trans x24) f8 fun j ⟨l, hl, hj⟩ => by have := fu l hl; omega, fun l hl => ?_, ?_, ?_⟩, by first | omega | (dsimp only; omega)⟩
      · rcases b8 l hl with ⟨l', h1', h2'⟩ | h1'
        · have := fu l' h1'; omega
        · omega
      · try dsimp only
        rw [hi1, hf1, hc]
      · try dsimp only
        rw [hi1, hf2]
        exact o8
    · rw [if_pos (by simp; omega)] at hf1
      rw [if_neg (by simp; omega), List.append_nil] at hf2
      rw [wrap_i64 (n := i + 1) (by omega) (by omega), wrap_i64 (n := c + 1) (by omega) (by omega)]
      refine ⟨⟨by first | omega | (dsimp only; omega), by first | omega | (dsimp only; omega), x2.trans x24, fu, ?_, ?_⟩, by first | omega | (dsimp only; omega)⟩
      · try dsimp only
        rw [hi1, hf1, hc, List.length_append, List.length_singleton]
        omega
      · try dsimp only
        rw [hi1, hf2]
        exact ou.ext x24
  · have hin : i.toNat = M.length := by omega
    rw [hin, List.take_length] at hc ou
    have hlf : (M.filter fun x => !decide (x.slot ≤ n)).length ≤ M.length := List.length_filter_le ..
    refine rput_end (r.ext x2) ou (by omega) (fun l hl => by have := fu l hl; omega) fun h3 r3 f3 => ?_
    rw [hc]
    exact hr h3 u r3 ⟨(Only.of_ext x2).trans f3, fun l hl => .inr (fu l hl)⟩

theorem docroots_spec (r : RL h m A M most quota) (hr : ∀ h' t, Own 24 32 h' t (rts (M.map It.root)) → Ext h h' → Fresh h t → R (TV.slice t).val h') : CallsH Tryz.prog 38 (TVs.vals [.ptr (some ⟨m, 0⟩)]) h R := by
  apply tollerref16_Roots_calls
  unfold tollerref16_Roots_vc
  have few := r.few
  refine ⟨A, r.var.at1 rfl, ?_⟩
  have el := r.el.len
  rw [List.length_map] at el
  refine ⟨fun σ hh => 0 ≤ σ.2 ∧ σ.2 ≤ M.length ∧ Ext h hh ∧ (∀ l, σ.1.a = some l → h.size ≤ l.b) ∧ Own 24 32 hh σ.1 (rts ((M.take σ.2.toNat).map It.root)), fun σ _ => ((M.length : Int) - σ.2).toNat,
    ⟨Int.le_refl 0, by first | omega | (dsimp only; omega), Ext.refl _, (fun l hl => by cases hl), Own.nil _ _ _⟩, ?_⟩
  rintro ⟨t, i⟩ h2 ⟨i0, i1, x2, fr2, o2⟩
  dsimp only at i0 i1 x2 fr2 o2 ⊢
  refine If.dec.2 ⟨fun hi => ?_, fun hi => ?_⟩
  · refine its_at (r.el.ext x2) i0 (by omega) fun l x _ hx => ?_
    refine newTV_in fun h3 v3 x3 s3 => put_in v3 (t := x.tv) rfl fun h4 v4 f4 s4 => ?_
    have x24 : Ext h2 h4 := Only.cut x3 f4 fun i hi => by omega
    refine ⟨x.root, v_root v4, ?_⟩
    have tl := o2.len
    rw [List.length_map, List.length_map, List.length_take] at tl
    refine append1 (C := ctx) (T := 24) (sz := 32) (x := .bytes 32 x.root) size24 zsize24 (by rw [bytes24]; decide) (by rw [bytes24]; omega) (o2.ext x24) b32 p32 fun t8 h8 o8 f8 b8 => ?_
    rw [wrap_i64 (n := i + 1) (by omega) (by omega)]
    have x8 : Ext h h8 := Only.cut (x2.trans x24) f8 fun j ⟨l, hl, hj⟩ => by have := fr2 l hl; omega
    have z2 := x2.size
    have z24 := x24.size
    refine ⟨⟨by first | omega | (dsimp only; omega), by first | omega | (dsimp only; omega), x8, fun l hl => ?_, ?_⟩, by first | omega | (dsimp only; omega)⟩
    · rcases b8 l hl with ⟨l', h1', h2'⟩ | h1'
      · have := fr2 l' h1'; omega
      · omega
    · try dsimp only
      rw [show (i + 1).toNat = i.toNat + 1 by omega, take_snoc hx, List.map_append]
      simpa [rts] using o8
  · have hin : i.toNat = M.length := by omega
    rw [hin, List.take_length] at o2
    exact hr h2 t o2 x2 fr2

theorem same10_spec {s t : Sl} {L K : List (Bs 32)} (e : Elems 32 h s (rts L)) (k : Elems 32 h t (rts K)) (hl : L.length < 100000) (hr : R (TV.bool (decide (L = K))).val h) : CallsH Tryz.prog 35 (TVs.vals [.slice s, .slice t]) h R := by
  apply tollerref10_Same_calls
  unfold tollerref10_Same_vc
  have es : L.length = s.len := by have := e.len; rwa [List.length_map] at this
  have et : K.length = t.len := by have := k.len; rwa [List.length_map] at this
  refine If.split (fun hb => ?_) fun hb => ?_
  · have hne : L ≠ K := fun he => by
      have : s.len = t.len := by rw [← es, ← et, he]
      rw [this] at hb
      simp at hb
    rw [decide_eq_false hne] at hr
    exact hr
  have hlen : L.length = K.length := by
    have : ((s.len : Nat) : Int) = ((t.len : Nat) : Int) := by simpa using hb
    omega
  refine ⟨fun σ hh => 0 ≤ σ.2 ∧ σ.2 ≤ s.len ∧ hh = h ∧ L.take σ.2.toNat = K.take σ.2.toNat, fun σ _ => ((s.len : Int) - σ.2).toNat, ⟨Int.le_refl 0, by first | omega | (dsimp only; omega), rfl, rfl⟩, ?_⟩
  rintro ⟨f, i⟩ hh ⟨i0, i1, rfl, hp⟩
  dsimp only at i0 i1 hp ⊢
  refine If.dec.2 ⟨fun hi => ?_, fun hi => ?_⟩
  · refine e.read i0 hi fun l1 t1 ha1 ht1 at1' => ?_
    rw [List.getElem?_map] at ht1
    obtain ⟨x, hx, rfl⟩ := Option.map_eq_some_iff.1 ht1
    refine ⟨x, at1', k.read i0 (by omega) fun l2 t2 ha2 ht2 at2' => ?_⟩
    rw [List.getElem?_map] at ht2
    obtain ⟨y, hy, rfl⟩ := Option.map_eq_some_iff.1 ht2
    refine ⟨y, at2', ?_⟩
    refine If.split (fun hb => ?_) fun hb => ?_
    · have hxy : x ≠ y := fun he => by rw [he] at hb; simp at hb
      have hne : L ≠ K := fun he => by rw [he, hy] at hx; exact hxy (Option.some.inj hx).symm
      rw [decide_eq_false hne] at hr
      exact hr
    · have hxy : x = y := Bs.ext' (by simpa using hb)
      rw [wrap_i64 (n := i + 1) (by omega) (by omega)]
      refine ⟨⟨by first | omega | (dsimp only; omega), by first | omega | (dsimp only; omega), rfl, ?_⟩, by first | omega | (dsimp only; omega)⟩
      try dsimp only
      rw [show (i + 1).toNat = i.toNat + 1 by omega, take_snoc hx, take_snoc hy, hp, hxy]
  · have h1 : i.toNat = L.length := by omega
    have h2 : i.toNat = K.length := by omega
    rw [h1, List.take_length, hlen, List.take_length] at hp
    rw [decide_eq_true hp] at hr
    exact hr

end
end Go.Proofs.YtldocdpdjdekiaaGreat.Pool
end

section
/- Both kinds of what waits, side by side. -/
namespace Go.Proofs.YtldocdpdjdekiaaGreat.Pool
open Go Go.Vc
open Board (Dm decF nameF)

theorem putS_mem {most quota : Int} {x : It} {S : List It} {y : It} (h : y ∈ (putS most quota x S).2.2) : y = x ∨ y ∈ S := by
  unfold putS at h
  split at h
  · exact .inr h
  split at h
  · exact .inr h
  split at h
  · exact List.mem_cons.1 ((insIt_perm x S).mem_iff.1 h)
  split at h
  · exact .inr h
  · split at h
    · rcases List.mem_cons.1 ((insIt_perm x _).mem_iff.1 h) with h1 | h1
      · exact .inl h1
      · exact .inr (List.dropLast_subset _ h1)
    · exact .inr h

theorem putS_len {most quota : Int} {x : It} {S : List It} (h : (S.length : Int) ≤ most) : ((putS most quota x S).2.2.length : Int) ≤ most := by
  unfold putS
  split
  · exact h
  split
  · exact h
  split
  · rename_i h3
    simp only [insIt_length]
    omega
  split
  · exact h
  · rename_i y hy
    split
    · simp only [insIt_length, List.length_dropLast]
      have : S ≠ [] := fun e => by rw [e] at hy; cases hy
      have := List.length_pos_iff.2 this
      omega
    · exact h

/-- An item is that of its own bytes. -/
def Fit (want : Int → Bool) (x : It) : Prop := x.text.length < 1000 ∧ ∃ d, decF x.text = some d ∧ want d.kind = true ∧ x = itemOf d x.peer x.text

theorem putW_mem {want : Int → Bool} {most quota peer : Int} {text : List UInt8} {S : List It} (ht : text.length < 1000) (hS : ∀ x ∈ S, Fit want x) : ∀ y ∈ (putW want most quota peer text S).2.2, Fit want y := by
  intro y hy
  unfold putW at hy
  split at hy
  · exact hS y hy
  · rename_i d hd
    split at hy
    · rename_i hw
      rcases putS_mem hy with rfl | h1
      · exact ⟨ht, d, hd, hw, rfl⟩
      · exact hS y h1
    · exact hS y hy

theorem putW_len {want : Int → Bool} {most quota peer : Int} {text : List UInt8} {S : List It} (h : (S.length : Int) ≤ most) : ((putW want most quota peer text S).2.2.length : Int) ≤ most := by
  unfold putW
  split
  · exact h
  · split
    · exact putS_len h
    · exact h

section
variable {h0 h h' : Heap} {o b m : Nat} {A B A' B' : Sl} {S M S' M' : List It} {most quota : Int} {T : TypeId} {want : Int → Bool}

/-- One of the program's. -/
structure One1 (T : TypeId) (want : Int → Bool) (h0 h : Heap) (o b : Nat) (A : Sl) (S : List It) (most quota : Int) : Prop where
  wl : WL T h o b A S most quota
  low : h0.size ≤ o ∧ ∀ i, Mine b A i → h0.size ≤ i
  old : Ext h0 h
  len : (S.length : Int) ≤ most
  fit : ∀ x ∈ S, Fit want x
  ok : Ok64 most quota

theorem One1.more (p : One1 T want h0 h o b A S most quota) (x : Ext h h') : One1 T want h0 h' o b A S most quota := ⟨p.wl.ext x, p.low, p.old.trans x, p.len, p.fit, p.ok⟩
theorem One1.step (p : One1 T want h0 h o b A S most quota) (w : WL T h' o b A' S' most quota) (g : Grown b A h A' h') (hl : (S'.length : Int) ≤ most) (hf : ∀ x ∈ S', Fit want x) : One1 T want h0 h' o b A' S' most quota :=
  ⟨w, ⟨p.low.1, fun i hi => by
    rcases g.new i hi with h1 | h1
    · exact p.low.2 i h1
    · have := p.old.size; omega⟩, Only.cut p.old g.only p.low.2, hl, hf, p.ok⟩
theorem One1.text (p : One1 T want h0 h o b A S most quota) : ∀ x ∈ S, x.text.length < 1000 := fun x hx => (p.fit x hx).1

/-- Both of them, with the document's. -/
structure Pr (T : TypeId) (want : Int → Bool) (h0 h : Heap) (o b m : Nat) (A B : Sl) (S M : List It) (most quota : Int) : Prop where
  one : One1 T want h0 h o b A S most quota
  rl : RL h m B M most quota
  ne : o ≠ m
  ap : ¬ Mine b A m
  bo : ∀ l, B.a = some l → l.b ≠ o ∧ ¬ Mine b A l.b
  lowm : h0.size ≤ m
  lenM : (M.length : Int) ≤ most

theorem Pr.more (p : Pr T want h0 h o b m A B S M most quota) (x : Ext h h') : Pr T want h0 h' o b m A B S M most quota := ⟨p.one.more x, p.rl.ext x, p.ne, p.ap, p.bo, p.lowm, p.lenM⟩
theorem Pr.stepP (p : Pr T want h0 h o b m A B S M most quota) (w : WL T h' o b A' S' most quota) (g : Grown b A h A' h') (hl : (S'.length : Int) ≤ most) (hf : ∀ x ∈ S', Fit want x) : Pr T want h0 h' o b m A' B S' M most quota := by
  have hm := p.rl.var.lt
  have new : ∀ i, i < h.size → ¬ Mine b A i → ¬ Mine b A' i := fun i hi hn hx => by
    rcases g.new i hx with h1 | h1
    · exact hn h1
    · omega
  have hz := g.only.size
  exact ⟨p.one.step w g hl hf, ⟨p.rl.var.only g.only p.ap, p.rl.el.only g.only fun l hl => (p.bo l hl).2, p.rl.cap, p.rl.apart, fun l hl => by have := p.rl.low l hl; omega, p.rl.few⟩, p.ne, new m hm p.ap, fun l hl => ⟨(p.bo l hl).1, new _ (p.rl.low l hl) (p.bo l hl).2⟩, p.lowm, p.lenM⟩
theorem Pr.stepR (p : Pr T want h0 h o b m A B S M most quota) (r : RL h' m B' M' most quota) (g : GrownR m B h B' h') (hl : (M'.length : Int) ≤ most) : Pr T want h0 h' o b m A B' S M' most quota := by
  have hA : ∀ i, Mine b A i → i < h.size := fun i hi => p.one.wl.pl.lt hi
  have ho := p.one.wl.var.lt
  refine ⟨⟨p.one.wl.only g.only p.ne fun i hi hx => p.ap (hx ▸ hi), p.one.low, Only.cut p.one.old g.only fun i hi => hi ▸ p.lowm, p.one.len, p.one.fit, p.one.ok⟩, r, p.ne, p.ap, fun l hl => ?_, p.lowm, hl⟩
  rcases g.new l hl with ⟨l', h1, h2⟩ | h1
  · rw [← h2]; exact p.bo l' h1
  · exact ⟨by omega, fun hx => by have := hA _ hx; omega⟩
end
end Go.Proofs.YtldocdpdjdekiaaGreat.Pool
end

section
/- The conditions of functions, as the generator reckons them out, each with the proof that it is that. -/
namespace Go.Proofs.YtldocdpdjdekiaaGreat
open Go Go.Vc
set_option maxRecDepth 100000
set_option linter.unusedVariables false

def tollerlaw16_Call_text_vc (c_Kind : Int) (c_Peer : Int) (c_Text : List UInt8) (c_N : Int) (c_Slot : Int) (c_Body : Int) (h : Heap) (R : Value → Heap → Prop) : Prop :=
 Vc.Bind
 (newTV h
 (TV.agg [TV.int IntKind.i64 c_Kind, TV.int IntKind.i64 c_Peer, TV.str c_Text, TV.int IntKind.i64 c_N, TV.int IntKind.i64 c_Slot, TV.int IntKind.u64 c_Body])
 (66 : Nat))
 fun (h_1 : Array Obj) ↦
 Join
 (fun (s : Int × Int × Bs (32 : Nat) × Int × Option Go.Vc.Loc) (h_2 : Array Obj) ↦
 ∃ (n : Int),
 at1 h_2 (Array.size h) (0 : Nat) (Value.int IntKind.i64 n) ∧
 If (decide (n = (3 : Int)))
 (Nn s.snd.snd.snd.snd fun (l : Go.Vc.Loc) ↦
 ∃ (n : Int),
 ∃ (n_1 : Int),
 ∃ (b : Bs (32 : Nat)),
 ∃ (n_2 : Int),
 ∃ (n_3 : Int),
 ∃ (s_1 : Sl),
 ∃ (b_1 : Bs (16 : Nat)),
 (at1 h_2 l.b l.o (Value.int IntKind.i64 n) ∧
 at1 h_2 l.b (l.o + (1 : Nat)) (Value.int IntKind.i64 n_1) ∧
 atBytes h_2 l.b (l.o + (1 : Nat) + (1 : Nat)) (32 : Nat) b ∧
 at1 h_2 l.b (l.o + (1 : Nat) + (1 : Nat) + (32 : Nat)) (Value.int IntKind.i64 n_2) ∧
 at1 h_2 l.b (l.o + (1 : Nat) + (1 : Nat) + (32 : Nat) + (1 : Nat)) (Value.int IntKind.u64 n_3) ∧
 at1 h_2 l.b (l.o + (1 : Nat) + (1 : Nat) + (32 : Nat) + (1 : Nat) + (1 : Nat)) (slVal s_1) ∧
 atBytes h_2 l.b (l.o + (1 : Nat) + (1 : Nat) + (32 : Nat) + (1 : Nat) + (1 : Nat) + (1 : Nat)) (16 : Nat) b_1) ∧
 CallsH Tryz.prog (49 : Nat)
 (TVs.vals
 [TV.agg
 [TV.int IntKind.i64 n, TV.int IntKind.i64 n_1, TV.bytes (32 : Nat) b, TV.int IntKind.i64 n_2, TV.int IntKind.u64 n_3,
 TV.slice s_1, TV.bytes (16 : Nat) b_1]])
 h_2 fun (v : Value) (h_3 : Array Obj) ↦
 ∃ (b : Bool),
 v = TV.val (TV.bool b) ∧
 If b
 (Nn s.snd.snd.snd.snd fun (l : Go.Vc.Loc) ↦
 ∃ (n : Int),
 ∃ (n_4 : Int),
 ∃ (b : Bs (32 : Nat)),
 ∃ (n_5 : Int),
 ∃ (n_6 : Int),
 ∃ (s : Sl),
 ∃ (b_2 : Bs (16 : Nat)),
 (at1 h_3 l.b l.o (Value.int IntKind.i64 n) ∧
 at1 h_3 l.b (l.o + (1 : Nat)) (Value.int IntKind.i64 n_4) ∧
 atBytes h_3 l.b (l.o + (1 : Nat) + (1 : Nat)) (32 : Nat) b ∧
 at1 h_3 l.b (l.o + (1 : Nat) + (1 : Nat) + (32 : Nat)) (Value.int IntKind.i64 n_5) ∧
 at1 h_3 l.b (l.o + (1 : Nat) + (1 : Nat) + (32 : Nat) + (1 : Nat)) (Value.int IntKind.u64 n_6) ∧
 at1 h_3 l.b (l.o + (1 : Nat) + (1 : Nat) + (32 : Nat) + (1 : Nat) + (1 : Nat)) (slVal s) ∧
 atBytes h_3 l.b
 (l.o + (1 : Nat) + (1 : Nat) + (32 : Nat) + (1 : Nat) + (1 : Nat) + (1 : Nat)) (16 : Nat)
 b_2) ∧
 CallsH Tryz.prog (50 : Nat)
 (TVs.vals
 [TV.agg
 [TV.int IntKind.i64 n, TV.int IntKind.i64 n_4, TV.bytes (32 : Nat) b, TV.int IntKind.i64 n_5,
 TV.int IntKind.u64 n_6, TV.slice s, TV.bytes (16 : Nat) b_2]])
 h_3 fun (v : Value) (h : Array Obj) ↦
 ∃ (s : List UInt8), v = TV.val (TV.str s) ∧ R (TV.val (TV.str s)) h)
 (∃ (s : List UInt8),
 at1 h_3 (Array.size h) (2 : Nat) (Value.string (ByteArray.mk (List.toArray s))) ∧ R (TV.val (TV.str s)) h_3))
 (∃ (s : List UInt8), at1 h_2 (Array.size h) (2 : Nat) (Value.string (ByteArray.mk (List.toArray s))) ∧ R (TV.val (TV.str s)) h_2))
 fun (J : Int × Int × Bs (32 : Nat) × Int × Option Go.Vc.Loc → Array Obj → Prop) ↦
 ∃ (n : Int),
 at1 h_1 (Array.size h) (4 : Nat) (Value.int IntKind.i64 n) ∧
 ∃ (n_1 : Int),
 at1 h_1 (Array.size h) (3 : Nat) (Value.int IntKind.i64 n_1) ∧
 ∃ (n_2 : Int),
 at1 h_1 (Array.size h) (5 : Nat) (Value.int IntKind.u64 n_2) ∧
 (CallsH Tryz.prog (31 : Nat) (TVs.vals [TV.int IntKind.i64 n_1]) h_1 fun (v : Value) (h : Array Obj) ↦
 ∃ (b : Bs (32 : Nat)),
 v = TV.val (TV.bytes (32 : Nat) b) ∧
 Ext h_1 h ∧
 Vc.Bind
 (newTV h
 (TV.agg
 [TV.int IntKind.i64 (0 : Int), TV.int IntKind.i64 (0 : Int), TV.bytes (32 : Nat) (Bs.zero (32 : Nat)),
 TV.int IntKind.i64 (0 : Int), TV.int IntKind.u64 (0 : Int), TV.slice Sl.nil, TV.bytes (16 : Nat) (Bs.zero (16 : Nat))])
 (58 : Nat))
 fun (h_2 : Array Obj) ↦
 Ext h h_2 ∧
 wok h_2 (Array.size h) (0 : Nat) (53 : Nat) ∧
 Vc.Bind
 (TV.put h_2 (Array.size h) (0 : Nat)
 (TV.agg
 [TV.int IntKind.i64 (1 : Int), TV.int IntKind.i64 n, TV.bytes (32 : Nat) b, TV.int IntKind.i64 (0 : Int),
 TV.int IntKind.u64 n_2, TV.slice Sl.nil, TV.bytes (16 : Nat) (Bs.zero (16 : Nat))]))
 fun (h_3 : Array Obj) ↦ J (n, n_1, b, n_2, some (Loc.mk (Array.size h) (0 : Nat))) h_3) ∧
 Vc.Bind
 (newTV h_1
 (TV.agg
 [TV.int IntKind.i64 (0 : Int), TV.int IntKind.i64 (0 : Int), TV.bytes (32 : Nat) (Bs.zero (32 : Nat)), TV.int IntKind.i64 (0 : Int),
 TV.int IntKind.u64 (0 : Int), TV.slice Sl.nil, TV.bytes (16 : Nat) (Bs.zero (16 : Nat))])
 (58 : Nat))
 fun (h : Array Obj) ↦
 Ext h_1 h ∧
 CallsH Tryz.prog (31 : Nat) (TVs.vals [TV.int IntKind.i64 n_1]) h fun (v : Value) (h_2 : Array Obj) ↦
 ∃ (b : Bs (32 : Nat)),
 v = TV.val (TV.bytes (32 : Nat) b) ∧
 Ext h h_2 ∧
 wok h_2 (Array.size h_1) (0 : Nat) (53 : Nat) ∧
 Vc.Bind
 (TV.put h_2 (Array.size h_1) (0 : Nat)
 (TV.agg
 [TV.int IntKind.i64 (1 : Int), TV.int IntKind.i64 n, TV.bytes (32 : Nat) b, TV.int IntKind.i64 (0 : Int),
 TV.int IntKind.u64 n_2, TV.slice Sl.nil, TV.bytes (16 : Nat) (Bs.zero (16 : Nat))]))
 fun (h : Array Obj) ↦ J (n, n_1, b, n_2, some (Loc.mk (Array.size h_1) (0 : Nat))) h

theorem tollerlaw16_Call_text_calls (c_Kind : Int) (c_Peer : Int) (c_Text : List UInt8) (c_N : Int) (c_Slot : Int) (c_Body : Int) (h : Heap) (R : Value → Heap → Prop) (H : tollerlaw16_Call_text_vc c_Kind c_Peer c_Text c_N c_Slot c_Body h R) : CallsH Tryz.prog 34 (TVs.vals [TV.agg [TV.int IntKind.i64 c_Kind, TV.int IntKind.i64 c_Peer, TV.str c_Text, TV.int IntKind.i64 c_N, TV.int IntKind.i64 c_Slot, TV.int IntKind.u64 c_Body]]) h R :=
 vcFn_sound (C := ctx) ctx_ok (fn := Tryz.f34) Tryz.func34 ((by kernel_rfl : tollerlaw16_Call_text_vc c_Kind c_Peer c_Text c_N c_Slot c_Body h R = vcFn ctx Tryz.f34 [TV.agg [TV.int IntKind.i64 c_Kind, TV.int IntKind.i64 c_Peer, TV.str c_Text, TV.int IntKind.i64 c_N, TV.int IntKind.i64 c_Slot, TV.int IntKind.u64 c_Body]] h R) ▸ H)


def tollerlaw16_great_vc (script : Sl) (h : Heap) (R : Value → Heap → Prop) : Prop :=
 If (decide ((80 : Int) < (↑script.len : Int))) (R (TV.val (TV.bool true)) h)
 (Go.Vc.Loop (false, (0 : Int)) h fun (s : Bool × Int) (h : Array Obj) (K : Bool × Int → Array Obj → Prop) ↦
 If (decide (s.snd < (↑script.len : Int)))
 ((0 : Int) ≤ s.snd ∧
 s.snd < (↑script.len : Int) ∧
 Nn script.a fun (l : Go.Vc.Loc) ↦
 ∃ (n : Int),
 ∃ (n_1 : Int),
 ∃ (s_1 : List UInt8),
 ∃ (n_2 : Int),
 ∃ (n_3 : Int),
 ∃ (n_4 : Int),
 (at1 h l.b (l.o + Int.toNat s.snd * (6 : Nat)) (Value.int IntKind.i64 n) ∧
 at1 h l.b (l.o + Int.toNat s.snd * (6 : Nat) + (1 : Nat)) (Value.int IntKind.i64 n_1) ∧
 at1 h l.b (l.o + Int.toNat s.snd * (6 : Nat) + (1 : Nat) + (1 : Nat)) (Value.string (ByteArray.mk (List.toArray s_1))) ∧
 at1 h l.b (l.o + Int.toNat s.snd * (6 : Nat) + (1 : Nat) + (1 : Nat) + (1 : Nat)) (Value.int IntKind.i64 n_2) ∧
 at1 h l.b (l.o + Int.toNat s.snd * (6 : Nat) + (1 : Nat) + (1 : Nat) + (1 : Nat) + (1 : Nat)) (Value.int IntKind.i64 n_3) ∧
 at1 h l.b (l.o + Int.toNat s.snd * (6 : Nat) + (1 : Nat) + (1 : Nat) + (1 : Nat) + (1 : Nat) + (1 : Nat))
 (Value.int IntKind.u64 n_4)) ∧
 Vc.Bind
 (newTV h
 (TV.agg
 [TV.int IntKind.i64 (0 : Int), TV.int IntKind.i64 (0 : Int), TV.str [], TV.int IntKind.i64 (0 : Int),
 TV.int IntKind.i64 (0 : Int), TV.int IntKind.u64 (0 : Int)])
 (66 : Nat))
 fun (h_1 : Array Obj) ↦
 wok h_1 (Array.size h) (0 : Nat) (6 : Nat) ∧
 Vc.Bind
 (TV.put h_1 (Array.size h) (0 : Nat)
 (TV.agg
 [TV.int IntKind.i64 n, TV.int IntKind.i64 n_1, TV.str s_1, TV.int IntKind.i64 n_2, TV.int IntKind.i64 n_3,
 TV.int IntKind.u64 n_4]))
 fun (h_2 : Array Obj) ↦
 ∃ (s_2 : List UInt8),
 at1 h_2 (Array.size h) (2 : Nat) (Value.string (ByteArray.mk (List.toArray s_2))) ∧
 If (decide ((300 : Int) < (↑(List.length s_2) : Int))) (R (TV.val (TV.bool true)) h_2)
 (K (s.fst, IntKind.wrap IntKind.i64 (s.snd + (1 : Int))) h_2))
 (R (TV.val (TV.bool false)) h))

theorem tollerlaw16_great_calls (script : Sl) (h : Heap) (R : Value → Heap → Prop) (H : tollerlaw16_great_vc script h R) : CallsH Tryz.prog 24 (TVs.vals [TV.slice script]) h R :=
 vcFn_sound (C := ctx) ctx_ok (fn := Tryz.f24) Tryz.func24 ((by kernel_rfl : tollerlaw16_great_vc script h R = vcFn ctx Tryz.f24 [TV.slice script] h R) ▸ H)


def tollerlaw16_alive_vc (h : Heap) (R : Value → Heap → Prop) : Prop :=
 CallsH Tryz.prog (25 : Nat) (TVs.vals [TV.int IntKind.i64 (2 : Int), TV.int IntKind.i64 (2 : Int)]) h fun (v : Value) (h : Heap) ↦
 ∃ (p : Option Go.Vc.Loc),
 v = TV.val (TV.ptr p) ∧
 Vc.Bind
 (newTV h
 (TV.agg
 [TV.int IntKind.i64 (0 : Int), TV.int IntKind.i64 (0 : Int), TV.str [], TV.int IntKind.i64 (0 : Int), TV.int IntKind.i64 (0 : Int),
 TV.int IntKind.u64 (0 : Int)])
 (66 : Nat))
 fun (h_1 : Array Obj) ↦
 wok h_1 (Array.size h) (0 : Nat) (6 : Nat) ∧
 Vc.Bind
 (TV.put h_1 (Array.size h) (0 : Nat)
 (TV.agg
 [TV.int IntKind.i64 (3 : Int), TV.int IntKind.i64 (0 : Int), TV.str [], TV.int IntKind.i64 (5 : Int), TV.int IntKind.i64 (7 : Int),
 TV.int IntKind.u64 (0 : Int)]))
 fun (h_2 : Array Obj) ↦
 ∃ (n : Int),
 ∃ (n_1 : Int),
 ∃ (s : List UInt8),
 ∃ (n_2 : Int),
 ∃ (n_3 : Int),
 ∃ (n_4 : Int),
 (at1 h_2 (Array.size h) (0 : Nat) (Value.int IntKind.i64 n) ∧
 at1 h_2 (Array.size h) (1 : Nat) (Value.int IntKind.i64 n_1) ∧
 at1 h_2 (Array.size h) (2 : Nat) (Value.string (ByteArray.mk (List.toArray s))) ∧
 at1 h_2 (Array.size h) (3 : Nat) (Value.int IntKind.i64 n_2) ∧
 at1 h_2 (Array.size h) (4 : Nat) (Value.int IntKind.i64 n_3) ∧ at1 h_2 (Array.size h) (5 : Nat) (Value.int IntKind.u64 n_4)) ∧
 CallsH Tryz.prog (34 : Nat)
 (TVs.vals
 [TV.agg
 [TV.int IntKind.i64 n, TV.int IntKind.i64 n_1, TV.str s, TV.int IntKind.i64 n_2, TV.int IntKind.i64 n_3,
 TV.int IntKind.u64 n_4]])
 h_2 fun (v : Value) (h : Array Obj) ↦
 ∃ (s : List UInt8),
 v = TV.val (TV.str s) ∧
 CallsH Tryz.prog (33 : Nat) (TVs.vals [TV.ptr p, TV.int IntKind.i64 (1 : Int), TV.str s]) h fun (v : Value) (h : Array Obj) ↦
 ∃ (n : Int),
 ∃ (b : Bs (32 : Nat)),
 v = TV.val (TV.tup [TV.int IntKind.i64 n, TV.bytes (32 : Nat) b]) ∧
 Vc.Bind (newTV h (TV.bytes (32 : Nat) (Bs.zero (32 : Nat))) (24 : Nat)) fun (h_3 : Array Obj) ↦
 wok h_3 (Array.size h) (0 : Nat) (32 : Nat) ∧
 Vc.Bind (TV.put h_3 (Array.size h) (0 : Nat) (TV.bytes (32 : Nat) b)) fun (h : Array Obj) ↦
 CallsH Tryz.prog (33 : Nat)
 (TVs.vals [TV.ptr p, TV.int IntKind.i64 (1 : Int), TV.str (ByteArray.mk #[(120 : UInt8)]).data.toList]) h
 fun (v : Value) (h : Array Obj) ↦
 ∃ (n_5 : Int),
 ∃ (b : Bs (32 : Nat)),
 v = TV.val (TV.tup [TV.int IntKind.i64 n_5, TV.bytes (32 : Nat) b]) ∧
 Vc.Bind (newTV h (TV.bytes (32 : Nat) (Bs.zero (32 : Nat))) (24 : Nat)) fun (h_4 : Array Obj) ↦
 wok h_4 (Array.size h) (0 : Nat) (32 : Nat) ∧
 Vc.Bind (TV.put h_4 (Array.size h) (0 : Nat) (TV.bytes (32 : Nat) b)) fun (h : Array Obj) ↦
 CallsH Tryz.prog (31 : Nat) (TVs.vals [TV.int IntKind.i64 (5 : Int)]) h
 fun (v : Value) (h : Array Obj) ↦
 ∃ (b : Bs (32 : Nat)),
 v = TV.val (TV.bytes (32 : Nat) b) ∧
 CallsH Tryz.prog (30 : Nat) (TVs.vals [TV.ptr p, TV.bytes (32 : Nat) b]) h
 fun (v : Value) (h : Array Obj) ↦
 ∃ (s : Sl),
 v = TV.val (TV.slice s) ∧
 If (decide (n = (1 : Int)))
 (If (decide (n_5 = (5 : Int)))
 (If (decide ((↑s.len : Int) = (1 : Int)))
 ((0 : Int) ≤ (0 : Int) ∧
 (0 : Int) < (↑s.len : Int) ∧
 Nn s.a fun (l : Go.Vc.Loc) ↦
 ∃ (n : Int),
 at1 h l.b
 (l.o + Int.toNat (0 : Int) * (85 : Nat) + (32 : Nat) + (1 : Nat))
 (Value.int IntKind.i64 n) ∧
 If (decide (n = (7 : Int)))
 (CallsH Tryz.prog (27 : Nat) (TVs.vals [TV.ptr p]) h
 fun (v : Value) (h : Array Obj) ↦
 ∃ (n : Int),
 v = TV.val (TV.int IntKind.i64 n) ∧
 R (TV.val (TV.bool (decide (n = (0 : Int))))) h)
 (R (TV.val (TV.bool false)) h))
 (R (TV.val (TV.bool false)) h))
 (R (TV.val (TV.bool false)) h))
 (R (TV.val (TV.bool false)) h)

theorem tollerlaw16_alive_calls (h : Heap) (R : Value → Heap → Prop) (H : tollerlaw16_alive_vc h R) : CallsH Tryz.prog 23 (TVs.vals []) h R :=
 vcFn_sound (C := ctx) ctx_ok (fn := Tryz.f23) Tryz.func23 ((by kernel_rfl : tollerlaw16_alive_vc h R = vcFn ctx Tryz.f23 [] h R) ▸ H)


def tollerlaw16_do_vc (o : Option Go.Vc.Loc) (m : Option Go.Vc.Loc) (c_Kind : Int) (c_Peer : Int) (c_Text : List UInt8) (c_N : Int) (c_Slot : Int) (c_Body : Int) (h : Heap) (R : Value → Heap → Prop) : Prop :=
 Vc.Bind
 (newTV h
 (TV.agg [TV.int IntKind.i64 c_Kind, TV.int IntKind.i64 c_Peer, TV.str c_Text, TV.int IntKind.i64 c_N, TV.int IntKind.i64 c_Slot, TV.int IntKind.u64 c_Body])
 (66 : Nat))
 fun (h_1 : Array Obj) ↦
 ∃ (n : Int),
 at1 h_1 (Array.size h) (0 : Nat) (Value.int IntKind.i64 n) ∧
 If (decide (n = (1 : Int)))
 (∃ (h0 : Array Obj),
 Vc.Sub h0 h_1 ∧
 ∃ (n : Int),
 at1 h0 (Array.size h) (3 : Nat) (Value.int IntKind.i64 n) ∧
 ∃ (n_1 : Int),
 at1 h0 (Array.size h) (3 : Nat) (Value.int IntKind.i64 n_1) ∧
 CallsH Tryz.prog (31 : Nat) (TVs.vals [TV.int IntKind.i64 n]) h_1 fun (v : Value) (h : Array Obj) ↦
 ∃ (b : Bs (32 : Nat)),
 v = TV.val (TV.bytes (32 : Nat) b) ∧
 Vc.Sub h0 h ∧
 CallsH Tryz.prog (30 : Nat) (TVs.vals [TV.ptr o, TV.bytes (32 : Nat) b]) h fun (v : Value) (h : Array Obj) ↦
 ∃ (s : Sl),
 v = TV.val (TV.slice s) ∧
 Vc.Sub h0 h ∧
 CallsH Tryz.prog (31 : Nat) (TVs.vals [TV.int IntKind.i64 n_1]) h fun (v : Value) (h : Array Obj) ↦
 ∃ (b : Bs (32 : Nat)),
 v = TV.val (TV.bytes (32 : Nat) b) ∧
 CallsH Tryz.prog (54 : Nat) (TVs.vals [TV.ptr m, TV.bytes (32 : Nat) b]) h fun (v : Value) (h : Array Obj) ↦
 ∃ (s_1 : Sl),
 v = TV.val (TV.slice s_1) ∧
 CallsH Tryz.prog (53 : Nat) (TVs.vals [TV.slice s, TV.slice s_1]) h fun (v : Value) (h : Array Obj) ↦
 ∃ (b : Bool), v = TV.val (TV.bool b) ∧ R (TV.val (TV.bool b)) h)
 (If (decide (n = (2 : Int)))
 (∃ (h0 : Array Obj),
 Vc.Sub h0 h_1 ∧
 ∃ (n : Int),
 at1 h0 (Array.size h) (4 : Nat) (Value.int IntKind.i64 n) ∧
 ∃ (n_1 : Int),
 at1 h0 (Array.size h) (4 : Nat) (Value.int IntKind.i64 n_1) ∧
 CallsH Tryz.prog (28 : Nat) (TVs.vals [TV.ptr o, TV.int IntKind.i64 n]) h_1 fun (v : Value) (h : Array Obj) ↦
 ∃ (n : Int),
 v = TV.val (TV.int IntKind.i64 n) ∧
 Vc.Sub h0 h ∧
 CallsH Tryz.prog (29 : Nat) (TVs.vals [TV.ptr m, TV.int IntKind.i64 n_1]) h fun (v : Value) (h : Array Obj) ↦
 ∃ (n_2 : Int), v = TV.val (TV.int IntKind.i64 n_2) ∧ R (TV.val (TV.bool (decide (n = n_2)))) h)
 (Join
 (fun (s : Option Go.Vc.Loc × Int × List UInt8 × Int × Bs (32 : Nat) × Option Go.Vc.Loc × Int) (h_2 : Array Obj) ↦
 Join
 (fun (s_1 : Option Go.Vc.Loc × Int × List UInt8 × Int × Bs (32 : Nat) × Option Go.Vc.Loc × Int) (h_3 : Array Obj) ↦
 If (decide (s.snd.snd.snd.snd.snd.snd = s_1.snd.snd.snd.snd.snd.snd))
 (Nn s.snd.snd.snd.snd.snd.fst fun (l : Go.Vc.Loc) ↦
 ∃ (b : Bs (32 : Nat)),
 atBytes h_3 l.b l.o (32 : Nat) b ∧
 Nn s_1.snd.snd.snd.snd.snd.fst fun (l : Go.Vc.Loc) ↦
 ∃ (b_1 : Bs (32 : Nat)), atBytes h_3 l.b l.o (32 : Nat) b_1 ∧ R (TV.val (TV.bool (decide (b.l = b_1.l)))) h_3)
 (R (TV.val (TV.bool false)) h_3))
 fun (J : Option Go.Vc.Loc × Int × List UInt8 × Int × Bs (32 : Nat) × Option Go.Vc.Loc × Int → Array Obj → Prop) ↦
 ∃ (h0 : Array Obj),
 Vc.Sub h0 h_2 ∧
 ∃ (n : Int),
 at1 h0 (Array.size h) (1 : Nat) (Value.int IntKind.i64 n) ∧
 ∃ (n_1 : Int),
 ∃ (n_2 : Int),
 ∃ (s : List UInt8),
 ∃ (n_3 : Int),
 ∃ (n_4 : Int),
 ∃ (n_5 : Int),
 (at1 h0 (Array.size h) (0 : Nat) (Value.int IntKind.i64 n_1) ∧
 at1 h0 (Array.size h) (1 : Nat) (Value.int IntKind.i64 n_2) ∧
 at1 h0 (Array.size h) (2 : Nat) (Value.string (ByteArray.mk (List.toArray s))) ∧
 at1 h0 (Array.size h) (3 : Nat) (Value.int IntKind.i64 n_3) ∧
 at1 h0 (Array.size h) (4 : Nat) (Value.int IntKind.i64 n_4) ∧
 at1 h0 (Array.size h) (5 : Nat) (Value.int IntKind.u64 n_5)) ∧
 (CallsH Tryz.prog (34 : Nat)
 (TVs.vals
 [TV.agg
 [TV.int IntKind.i64 n_1, TV.int IntKind.i64 n_2, TV.str s, TV.int IntKind.i64 n_3, TV.int IntKind.i64 n_4,
 TV.int IntKind.u64 n_5]])
 h_2 fun (v : Value) (h : Array Obj) ↦
 ∃ (s : List UInt8),
 v = TV.val (TV.str s) ∧
 Vc.Sub h0 h ∧
 (CallsH Tryz.prog (55 : Nat) (TVs.vals [TV.ptr m, TV.int IntKind.i64 n, TV.str s]) h
 fun (v : Value) (h : Array Obj) ↦
 ∃ (n_6 : Int),
 ∃ (b : Bs (32 : Nat)),
 v = TV.val (TV.tup [TV.int IntKind.i64 n_6, TV.bytes (32 : Nat) b]) ∧
 Vc.Bind (newTV h (TV.bytes (32 : Nat) (Bs.zero (32 : Nat))) (24 : Nat)) fun (h_3 : Array Obj) ↦
 Vc.Sub h0 h_3 ∧
 wok h_3 (Array.size h) (0 : Nat) (32 : Nat) ∧
 Vc.Bind (TV.put h_3 (Array.size h) (0 : Nat) (TV.bytes (32 : Nat) b)) fun (h_4 : Array Obj) ↦
 J (m, n, s, n_6, b, some (Loc.mk (Array.size h) (0 : Nat)), n_6) h_4) ∧
 Vc.Bind (newTV h (TV.bytes (32 : Nat) (Bs.zero (32 : Nat))) (24 : Nat)) fun (h_3 : Array Obj) ↦
 Vc.Sub h0 h_3 ∧
 CallsH Tryz.prog (55 : Nat) (TVs.vals [TV.ptr m, TV.int IntKind.i64 n, TV.str s]) h_3
 fun (v : Value) (h_4 : Array Obj) ↦
 ∃ (n_6 : Int),
 ∃ (b : Bs (32 : Nat)),
 v = TV.val (TV.tup [TV.int IntKind.i64 n_6, TV.bytes (32 : Nat) b]) ∧
 wok h_4 (Array.size h) (0 : Nat) (32 : Nat) ∧
 Vc.Bind (TV.put h_4 (Array.size h) (0 : Nat) (TV.bytes (32 : Nat) b)) fun (h_5 : Array Obj) ↦
 J (m, n, s, n_6, b, some (Loc.mk (Array.size h) (0 : Nat)), n_6) h_5) ∧
 Vc.Bind (newTV h_2 (TV.bytes (32 : Nat) (Bs.zero (32 : Nat))) (24 : Nat)) fun (h : Array Obj) ↦
 Vc.Sub h0 h ∧
 CallsH Tryz.prog (34 : Nat)
 (TVs.vals
 [TV.agg
 [TV.int IntKind.i64 n_1, TV.int IntKind.i64 n_2, TV.str s, TV.int IntKind.i64 n_3, TV.int IntKind.i64 n_4,
 TV.int IntKind.u64 n_5]])
 h fun (v : Value) (h : Array Obj) ↦
 ∃ (s : List UInt8),
 v = TV.val (TV.str s) ∧
 Vc.Sub h0 h ∧
 CallsH Tryz.prog (55 : Nat) (TVs.vals [TV.ptr m, TV.int IntKind.i64 n, TV.str s]) h
 fun (v : Value) (h : Array Obj) ↦
 ∃ (n_6 : Int),
 ∃ (b : Bs (32 : Nat)),
 v = TV.val (TV.tup [TV.int IntKind.i64 n_6, TV.bytes (32 : Nat) b]) ∧
 wok h (Array.size h_2) (0 : Nat) (32 : Nat) ∧
 Vc.Bind (TV.put h (Array.size h_2) (0 : Nat) (TV.bytes (32 : Nat) b)) fun (h : Array Obj) ↦
 J (m, n, s, n_6, b, some (Loc.mk (Array.size h_2) (0 : Nat)), n_6) h)
 fun (J : Option Go.Vc.Loc × Int × List UInt8 × Int × Bs (32 : Nat) × Option Go.Vc.Loc × Int → Array Obj → Prop) ↦
 ∃ (h0 : Array Obj),
 Vc.Sub h0 h_1 ∧
 ∃ (n : Int),
 at1 h0 (Array.size h) (1 : Nat) (Value.int IntKind.i64 n) ∧
 ∃ (n_1 : Int),
 ∃ (n_2 : Int),
 ∃ (s : List UInt8),
 ∃ (n_3 : Int),
 ∃ (n_4 : Int),
 ∃ (n_5 : Int),
 (at1 h0 (Array.size h) (0 : Nat) (Value.int IntKind.i64 n_1) ∧
 at1 h0 (Array.size h) (1 : Nat) (Value.int IntKind.i64 n_2) ∧
 at1 h0 (Array.size h) (2 : Nat) (Value.string (ByteArray.mk (List.toArray s))) ∧
 at1 h0 (Array.size h) (3 : Nat) (Value.int IntKind.i64 n_3) ∧
 at1 h0 (Array.size h) (4 : Nat) (Value.int IntKind.i64 n_4) ∧
 at1 h0 (Array.size h) (5 : Nat) (Value.int IntKind.u64 n_5)) ∧
 (CallsH Tryz.prog (34 : Nat)
 (TVs.vals
 [TV.agg
 [TV.int IntKind.i64 n_1, TV.int IntKind.i64 n_2, TV.str s, TV.int IntKind.i64 n_3, TV.int IntKind.i64 n_4,
 TV.int IntKind.u64 n_5]])
 h_1 fun (v : Value) (h : Array Obj) ↦
 ∃ (s : List UInt8),
 v = TV.val (TV.str s) ∧
 Vc.Sub h0 h ∧
 (CallsH Tryz.prog (33 : Nat) (TVs.vals [TV.ptr o, TV.int IntKind.i64 n, TV.str s]) h
 fun (v : Value) (h : Array Obj) ↦
 ∃ (n_6 : Int),
 ∃ (b : Bs (32 : Nat)),
 v = TV.val (TV.tup [TV.int IntKind.i64 n_6, TV.bytes (32 : Nat) b]) ∧
 Vc.Bind (newTV h (TV.bytes (32 : Nat) (Bs.zero (32 : Nat))) (24 : Nat)) fun (h_2 : Array Obj) ↦
 Vc.Sub h0 h_2 ∧
 wok h_2 (Array.size h) (0 : Nat) (32 : Nat) ∧
 Vc.Bind (TV.put h_2 (Array.size h) (0 : Nat) (TV.bytes (32 : Nat) b)) fun (h_3 : Array Obj) ↦
 J (o, n, s, n_6, b, some (Loc.mk (Array.size h) (0 : Nat)), n_6) h_3) ∧
 Vc.Bind (newTV h (TV.bytes (32 : Nat) (Bs.zero (32 : Nat))) (24 : Nat)) fun (h_2 : Array Obj) ↦
 Vc.Sub h0 h_2 ∧
 CallsH Tryz.prog (33 : Nat) (TVs.vals [TV.ptr o, TV.int IntKind.i64 n, TV.str s]) h_2
 fun (v : Value) (h_3 : Array Obj) ↦
 ∃ (n_6 : Int),
 ∃ (b : Bs (32 : Nat)),
 v = TV.val (TV.tup [TV.int IntKind.i64 n_6, TV.bytes (32 : Nat) b]) ∧
 wok h_3 (Array.size h) (0 : Nat) (32 : Nat) ∧
 Vc.Bind (TV.put h_3 (Array.size h) (0 : Nat) (TV.bytes (32 : Nat) b)) fun (h_4 : Array Obj) ↦
 J (o, n, s, n_6, b, some (Loc.mk (Array.size h) (0 : Nat)), n_6) h_4) ∧
 Vc.Bind (newTV h_1 (TV.bytes (32 : Nat) (Bs.zero (32 : Nat))) (24 : Nat)) fun (h : Array Obj) ↦
 Vc.Sub h0 h ∧
 CallsH Tryz.prog (34 : Nat)
 (TVs.vals
 [TV.agg
 [TV.int IntKind.i64 n_1, TV.int IntKind.i64 n_2, TV.str s, TV.int IntKind.i64 n_3, TV.int IntKind.i64 n_4,
 TV.int IntKind.u64 n_5]])
 h fun (v : Value) (h : Array Obj) ↦
 ∃ (s : List UInt8),
 v = TV.val (TV.str s) ∧
 Vc.Sub h0 h ∧
 CallsH Tryz.prog (33 : Nat) (TVs.vals [TV.ptr o, TV.int IntKind.i64 n, TV.str s]) h
 fun (v : Value) (h : Array Obj) ↦
 ∃ (n_6 : Int),
 ∃ (b : Bs (32 : Nat)),
 v = TV.val (TV.tup [TV.int IntKind.i64 n_6, TV.bytes (32 : Nat) b]) ∧
 wok h (Array.size h_1) (0 : Nat) (32 : Nat) ∧
 Vc.Bind (TV.put h (Array.size h_1) (0 : Nat) (TV.bytes (32 : Nat) b)) fun (h : Array Obj) ↦
 J (o, n, s, n_6, b, some (Loc.mk (Array.size h_1) (0 : Nat)), n_6) h))

theorem tollerlaw16_do_calls (o : Option Go.Vc.Loc) (m : Option Go.Vc.Loc) (c_Kind : Int) (c_Peer : Int) (c_Text : List UInt8) (c_N : Int) (c_Slot : Int) (c_Body : Int) (h : Heap) (R : Value → Heap → Prop) (H : tollerlaw16_do_vc o m c_Kind c_Peer c_Text c_N c_Slot c_Body h R) : CallsH Tryz.prog 26 (TVs.vals [TV.ptr o, TV.ptr m, TV.agg [TV.int IntKind.i64 c_Kind, TV.int IntKind.i64 c_Peer, TV.str c_Text, TV.int IntKind.i64 c_N, TV.int IntKind.i64 c_Slot, TV.int IntKind.u64 c_Body]]) h R :=
 vcFn_sound (C := ctxL) ctxL_ok (fn := Tryz.f26) Tryz.func26 ((by kernel_rfl : tollerlaw16_do_vc o m c_Kind c_Peer c_Text c_N c_Slot c_Body h R = vcFn ctxL Tryz.f26 [TV.ptr o, TV.ptr m, TV.agg [TV.int IntKind.i64 c_Kind, TV.int IntKind.i64 c_Peer, TV.str c_Text, TV.int IntKind.i64 c_N, TV.int IntKind.i64 c_Slot, TV.int IntKind.u64 c_Body]] h R) ▸ H)


def tollerlaw16_blocks_vc (l_ : Sl) (want : Sl) (h : Heap) (R : Value → Heap → Prop) : Prop :=
 If (!decide ((↑l_.len : Int) = (↑want.len : Int))) (R (TV.val (TV.bool false)) h)
 (Go.Vc.Loop (false, (0 : Int)) h fun (s : Bool × Int) (h : Array Obj) (K : Bool × Int → Array Obj → Prop) ↦
 If (decide (s.snd < (↑l_.len : Int)))
 ((0 : Int) ≤ s.snd ∧
 s.snd < (↑l_.len : Int) ∧
 Nn l_.a fun (l : Go.Vc.Loc) ↦
 ∃ (b : Bs (32 : Nat)),
 ∃ (n : Int),
 ∃ (n_1 : Int),
 ∃ (b_1 : Bs (32 : Nat)),
 ∃ (n_2 : Int),
 ∃ (n_3 : Int),
 ∃ (s_1 : Sl),
 ∃ (b_2 : Bs (16 : Nat)),
 (atBytes h l.b (l.o + Int.toNat s.snd * (85 : Nat)) (32 : Nat) b ∧
 at1 h l.b (l.o + Int.toNat s.snd * (85 : Nat) + (32 : Nat)) (Value.int IntKind.i64 n) ∧
 at1 h l.b (l.o + Int.toNat s.snd * (85 : Nat) + (32 : Nat) + (1 : Nat)) (Value.int IntKind.i64 n_1) ∧
 atBytes h l.b (l.o + Int.toNat s.snd * (85 : Nat) + (32 : Nat) + (1 : Nat) + (1 : Nat)) (32 : Nat) b_1 ∧
 at1 h l.b (l.o + Int.toNat s.snd * (85 : Nat) + (32 : Nat) + (1 : Nat) + (1 : Nat) + (32 : Nat))
 (Value.int IntKind.i64 n_2) ∧
 at1 h l.b (l.o + Int.toNat s.snd * (85 : Nat) + (32 : Nat) + (1 : Nat) + (1 : Nat) + (32 : Nat) + (1 : Nat))
 (Value.int IntKind.u64 n_3) ∧
 at1 h l.b
 (l.o + Int.toNat s.snd * (85 : Nat) + (32 : Nat) + (1 : Nat) + (1 : Nat) + (32 : Nat) + (1 : Nat) + (1 : Nat))
 (slVal s_1) ∧
 atBytes h l.b
 (l.o + Int.toNat s.snd * (85 : Nat) + (32 : Nat) + (1 : Nat) + (1 : Nat) + (32 : Nat) + (1 : Nat) + (1 : Nat) +
 (1 : Nat))
 (16 : Nat) b_2) ∧
 Vc.Bind
 (newTV h
 (TV.agg
 [TV.bytes (32 : Nat) (Bs.zero (32 : Nat)),
 TV.agg
 [TV.int IntKind.i64 (0 : Int), TV.int IntKind.i64 (0 : Int), TV.bytes (32 : Nat) (Bs.zero (32 : Nat)),
 TV.int IntKind.i64 (0 : Int), TV.int IntKind.u64 (0 : Int), TV.slice Sl.nil,
 TV.bytes (16 : Nat) (Bs.zero (16 : Nat))]])
 (74 : Nat))
 fun (h_1 : Array Obj) ↦
 wok h_1 (Array.size h) (0 : Nat) (85 : Nat) ∧
 Vc.Bind
 (TV.put h_1 (Array.size h) (0 : Nat)
 (TV.agg
 [TV.bytes (32 : Nat) b,
 TV.agg
 [TV.int IntKind.i64 n, TV.int IntKind.i64 n_1, TV.bytes (32 : Nat) b_1, TV.int IntKind.i64 n_2,
 TV.int IntKind.u64 n_3, TV.slice s_1, TV.bytes (16 : Nat) b_2]]))
 fun (h_2 : Array Obj) ↦
 (0 : Int) ≤ s.snd ∧
 s.snd < (↑want.len : Int) ∧
 Nn want.a fun (l : Go.Vc.Loc) ↦
 ∃ (s_2 : List UInt8),
 at1 h_2 l.b (l.o + Int.toNat s.snd * (67 : Nat) + (66 : Nat)) (Value.string (ByteArray.mk (List.toArray s_2))) ∧
 CallsH Tryz.prog (48 : Nat) (TVs.vals [TV.str s_2]) h_2 fun (v : Value) (h_3 : Array Obj) ↦
 ∃ (n : Int),
 ∃ (n_4 : Int),
 ∃ (b : Bs (32 : Nat)),
 ∃ (n_5 : Int),
 ∃ (n_6 : Int),
 ∃ (s_3 : Sl),
 ∃ (b_3 : Bs (16 : Nat)),
 ∃ (b_4 : Bool),
 v =
 TV.val
 (TV.tup
 [TV.agg
 [TV.int IntKind.i64 n, TV.int IntKind.i64 n_4, TV.bytes (32 : Nat) b,
 TV.int IntKind.i64 n_5, TV.int IntKind.u64 n_6, TV.slice s_3,
 TV.bytes (16 : Nat) b_3],
 TV.bool b_4]) ∧
 Vc.Bind
 (newTV h_3
 (TV.agg
 [TV.int IntKind.i64 (0 : Int), TV.int IntKind.i64 (0 : Int),
 TV.bytes (32 : Nat) (Bs.zero (32 : Nat)), TV.int IntKind.i64 (0 : Int),
 TV.int IntKind.u64 (0 : Int), TV.slice Sl.nil,
 TV.bytes (16 : Nat) (Bs.zero (16 : Nat))])
 (58 : Nat))
 fun (h_4 : Array Obj) ↦
 wok h_4 (Array.size h_3) (0 : Nat) (53 : Nat) ∧
 Vc.Bind
 (TV.put h_4 (Array.size h_3) (0 : Nat)
 (TV.agg
 [TV.int IntKind.i64 n, TV.int IntKind.i64 n_4, TV.bytes (32 : Nat) b,
 TV.int IntKind.i64 n_5, TV.int IntKind.u64 n_6, TV.slice s_3,
 TV.bytes (16 : Nat) b_3]))
 fun (h_5 : Array Obj) ↦
 ∃ (b : Bs (32 : Nat)),
 atBytes h_5 (Array.size h) (0 : Nat) (32 : Nat) b ∧
 (0 : Int) ≤ s.snd ∧
 s.snd < (↑want.len : Int) ∧
 Nn want.a fun (l : Go.Vc.Loc) ↦
 ∃ (b_5 : Bs (32 : Nat)),
 atBytes h_5 l.b (l.o + Int.toNat s.snd * (67 : Nat) + (1 : Nat)) (32 : Nat)
 b_5 ∧
 If (!decide (b.l = b_5.l)) (R (TV.val (TV.bool false)) h_5)
 (∃ (n : Int),
 ∃ (n_7 : Int),
 ∃ (b : Bs (32 : Nat)),
 ∃ (n_8 : Int),
 ∃ (n_9 : Int),
 ∃ (s_4 : Sl),
 ∃ (b_6 : Bs (16 : Nat)),
 (at1 h_5 (Array.size h) (32 : Nat)
 (Value.int IntKind.i64 n) ∧
 at1 h_5 (Array.size h) (33 : Nat)
 (Value.int IntKind.i64 n_7) ∧
 atBytes h_5 (Array.size h) (34 : Nat) (32 : Nat) b ∧
 at1 h_5 (Array.size h) (66 : Nat)
 (Value.int IntKind.i64 n_8) ∧
 at1 h_5 (Array.size h) (67 : Nat)
 (Value.int IntKind.u64 n_9) ∧
 at1 h_5 (Array.size h) (68 : Nat)
 (slVal s_4) ∧
 atBytes h_5 (Array.size h) (69 : Nat)
 (16 : Nat) b_6) ∧
 ∃ (n_10 : Int),
 ∃ (n_11 : Int),
 ∃ (b_7 : Bs (32 : Nat)),
 ∃ (n_12 : Int),
 ∃ (n_13 : Int),
 ∃ (s_5 : Sl),
 ∃ (b_8 : Bs (16 : Nat)),
 (at1 h_5 (Array.size h_3) (0 : Nat)
 (Value.int IntKind.i64 n_10) ∧
 at1 h_5 (Array.size h_3) (1 : Nat)
 (Value.int IntKind.i64 n_11) ∧
 atBytes h_5 (Array.size h_3)
 (2 : Nat) (32 : Nat) b_7 ∧
 at1 h_5 (Array.size h_3)
 (34 : Nat)
 (Value.int IntKind.i64 n_12) ∧
 at1 h_5 (Array.size h_3)
 (35 : Nat)
 (Value.int IntKind.u64
 n_13) ∧
 at1 h_5 (Array.size h_3)
 (36 : Nat) (slVal s_5) ∧
 atBytes h_5 (Array.size h_3)
 (37 : Nat) (16 : Nat)
 b_8) ∧
 CallsH Tryz.prog (47 : Nat)
 (TVs.vals
 [TV.agg
 [TV.int IntKind.i64 n,
 TV.int IntKind.i64 n_7,
 TV.bytes (32 : Nat) b,
 TV.int IntKind.i64 n_8,
 TV.int IntKind.u64 n_9,
 TV.slice s_4,
 TV.bytes (16 : Nat) b_6],
 TV.agg
 [TV.int IntKind.i64 n_10,
 TV.int IntKind.i64 n_11,
 TV.bytes (32 : Nat) b_7,
 TV.int IntKind.i64 n_12,
 TV.int IntKind.u64 n_13,
 TV.slice s_5,
 TV.bytes (16 : Nat) b_8]])
 h_5 fun (v : Value) (h : Array Obj) ↦
 ∃ (b : Bool),
 v = TV.val (TV.bool b) ∧
 If (!b)
 (R (TV.val (TV.bool false)) h)
 (K
 (s.fst,
 IntKind.wrap IntKind.i64
 (s.snd + (1 : Int)))
 h)))
 (R (TV.val (TV.bool true)) h))

theorem tollerlaw16_blocks_calls (l_ : Sl) (want : Sl) (h : Heap) (R : Value → Heap → Prop) (H : tollerlaw16_blocks_vc l_ want h R) : CallsH Tryz.prog 53 (TVs.vals [TV.slice l_, TV.slice want]) h R :=
 vcFn_sound (C := ctx) ctx_ok (fn := Tryz.f53) Tryz.func53 ((by kernel_rfl : tollerlaw16_blocks_vc l_ want h R = vcFn ctx Tryz.f53 [TV.slice l_, TV.slice want] h R) ▸ H)


end Go.Proofs.YtldocdpdjdekiaaGreat
end

section
/- Laws of blocks that wait: a call as bytes, that something is done at all, both do the same. -/
namespace Go.Proofs.YtldocdpdjdekiaaGreat.Pool
open Go Go.Vc
open Board (Dm Ms decF nameF zeroM ms_at put_n mssz mssz1 docgood_spec docbytes_spec BodyOk bsz bools take_snoc bytesF bytesF_len good_kind msame_spec goodF read_bool)

/-- A call of the laws. -/
structure Oc where
  kind : Int
  peer : Int
  text : List UInt8
  n : Int
  slot : Int
  body : Int
  hb : 0 ≤ body ∧ body < 18446744073709551616
def Oc.tv (c : Oc) : TV := .agg [.int .i64 c.kind, .int .i64 c.peer, .str c.text, .int .i64 c.n, .int .i64 c.slot, .int .u64 c.body]
instance : Inhabited Oc := ⟨⟨0, 0, [], 0, 0, 0, by decide⟩⟩
def Oc.zero : Oc := default
def Oc.ms (c : Oc) : Ms := ⟨1, c.slot, name c.n, 0, c.body, Sl.nil, Bs.zero 16⟩
def Oc.bytes (c : Oc) : List UInt8 := if c.kind = 3 ∧ goodF c.ms [] = true then bytesF c.ms [] else c.text
abbrev ocs (l : List Oc) : List TV := l.map Oc.tv
theorem Oc.size (c : Oc) : c.tv.size = 6 := rfl
def wantO (k : Int) : Bool := decide (k = 1)

theorem Oc.bytes_len {c : Oc} (h : c.text.length ≤ 300) : c.bytes.length < 1000 := by
  unfold Oc.bytes
  split
  · have := bytesF_len c.ms []
    simp only [List.length_nil] at this
    omega
  · omega

section
variable {R : Value → Heap → Prop} {h : Heap}

theorem oc_at {s : Sl} {l : List Oc} {i : Int} (e : Elems 6 h s (ocs l)) (i0 : 0 ≤ i) (i1 : i < l.length) {K : Vc.Loc → Int → Int → List UInt8 → Int → Int → Int → Prop}
    (hk : ∀ p x, s.a = some p → l[i.toNat]? = some x → K p x.kind x.peer x.text x.n x.slot x.body) :
    0 ≤ i ∧ i < (s.len : Int) ∧ Nn s.a fun (p : Vc.Loc) => ∃ (n : Int), ∃ (n_1 : Int), ∃ (t : List UInt8), ∃ (n_2 : Int), ∃ (n_3 : Int), ∃ (n_4 : Int), (at1 h p.b (p.o + i.toNat * 6) (.int .i64 n) ∧ at1 h p.b (p.o + i.toNat * 6 + 1) (.int .i64 n_1) ∧ at1 h p.b (p.o + i.toNat * 6 + 1 + 1) (.string (ByteArray.mk (List.toArray t))) ∧ at1 h p.b (p.o + i.toNat * 6 + 1 + 1 + 1) (.int .i64 n_2) ∧ at1 h p.b (p.o + i.toNat * 6 + 1 + 1 + 1 + 1) (.int .i64 n_3) ∧ at1 h p.b (p.o + i.toNat * 6 + 1 + 1 + 1 + 1 + 1) (.int .u64 n_4)) ∧ K p n n_1 t n_2 n_3 n_4 := by
  have hl := e.len
  rw [List.length_map] at hl
  refine e.read i0 (by omega) fun p t hla ht ha => ?_
  rw [List.getElem?_map] at ht
  obtain ⟨x, hx, rfl⟩ := Option.map_eq_some_iff.1 ht
  exact ⟨_, _, _, _, _, _, ha, hk p x hla hx⟩

theorem v_oc {T : TypeId} {b : Nat} {c : Oc} (v : Var T h b c.tv) {K : Int → Int → List UInt8 → Int → Int → Int → Prop} (hk : K c.kind c.peer c.text c.n c.slot c.body) :
    ∃ (n : Int), ∃ (n_1 : Int), ∃ (t : List UInt8), ∃ (n_2 : Int), ∃ (n_3 : Int), ∃ (n_4 : Int), (at1 h b 0 (.int .i64 n) ∧ at1 h b 1 (.int .i64 n_1) ∧ at1 h b 2 (.string (ByteArray.mk (List.toArray t))) ∧ at1 h b 3 (.int .i64 n_2) ∧ at1 h b 4 (.int .i64 n_3) ∧ at1 h b 5 (.int .u64 n_4)) ∧ K n n_1 t n_2 n_3 n_4 :=
  ⟨_, _, _, _, _, _, v.at, hk⟩

theorem text_spec {c : Oc} (hr : ∀ h', Ext h h' → R (TV.str c.bytes).val h') : CallsH Tryz.prog 34 (TVs.vals [c.tv]) h R := by
  apply tollerlaw16_Call_text_calls c.kind c.peer c.text c.n c.slot c.body
  unfold tollerlaw16_Call_text_vc
  refine newTV_in fun h1 v1 x1 s1 => ?_
  have v1 : Var 66 h1 h.size c.tv := v1
  intro J HJ
  have fin : ∀ (hh : Heap) (q : Nat) (a : Int × Int × Bs 32 × Int × Option Vc.Loc), a.2.2.2.2 = some ⟨q, 0⟩ → Ext h1 hh → Var 58 hh q c.ms.tv → J a hh := by
    intro hh q a ha xh vq
    refine HJ a hh ?_
    dsimp only
    rw [ha]
    have x0 := x1.trans xh
    have vh := v1.ext xh
    refine ⟨c.kind, vh.at1 rfl, If.dec.2 ⟨fun k3 => ?_, fun k3 => ?_⟩⟩
    · refine ms_at vq (docgood_spec (m := c.ms) (row := []) (Elems.nil_ 1 hh) (by decide) fun h2 x2 => ⟨_, rfl, ?_⟩)
      cases hg : goodF c.ms [] with
      | true =>
        refine If.yes (ms_at (vq.ext x2) (docbytes_spec (m := c.ms) (row := []) (Elems.nil_ 1 h2) (by decide) (.inl rfl) c.hb fun h3 x3 => ⟨_, rfl, ?_⟩))
        have hb : c.bytes = bytesF c.ms [] := if_pos ⟨k3, hg⟩
        rw [← hb]
        exact hr h3 ((x0.trans x2).trans x3)
      | false =>
        refine If.no ⟨_, (vh.ext x2).at1 rfl, ?_⟩
        have hb : c.bytes = c.text := if_neg (by rw [hg]; rintro ⟨_, h⟩; cases h)
        rw [← hb]
        exact hr h2 (x0.trans x2)
    · refine ⟨_, vh.at1 rfl, ?_⟩
      have hb : c.bytes = c.text := if_neg (fun h => k3 h.1)
      rw [← hb]
      exact hr hh x0
  clear HJ
  refine ⟨_, v1.at1 rfl, _, v1.at1 rfl, _, v1.at1 rfl, ⟨name_spec fun h2 x2 => ⟨_, rfl, x2, newTV_in fun h3 v3 x3 s3 => ⟨x3, put_n (t0 := zeroM.tv) v3 (t := c.ms.tv) mssz1 mssz fun h4 v4 f4 s4 => ?_⟩⟩, newTV_in fun h2 v2 x2 s2 => ⟨x2, name_spec fun h3 x3 => ⟨_, rfl, x3, put_n (t0 := zeroM.tv) (v2.ext x3) (t := c.ms.tv) mssz1 mssz fun h4 v4 f4 s4 => ?_⟩⟩⟩⟩
  · exact fin h4 _ _ rfl (x2.trans (Only.cut x3 f4 fun i hi => by omega)) v4
  · exact fin h4 _ _ rfl (Only.cut (x2.trans x3) f4 fun i hi => by omega) v4

theorem great_spec {s : Sl} {l : List Oc} (e : Elems 6 h s (ocs l)) (hy : ∀ h', Ext h h' → R (TV.bool true).val h') (hn : ∀ h', Ext h h' → l.length ≤ 80 → (∀ c ∈ l, c.text.length ≤ 300) → R (TV.bool false).val h') : CallsH Tryz.prog 24 (TVs.vals [.slice s]) h R := by
  apply tollerlaw16_great_calls
  unfold tollerlaw16_great_vc
  have el := e.len
  rw [List.length_map] at el
  refine If.dec.2 ⟨fun _ => hy h (Ext.refl _), fun h80 => ?_⟩
  refine ⟨fun σ hh => 0 ≤ σ.2 ∧ σ.2 ≤ l.length ∧ Ext h hh ∧ ∀ c ∈ l.take σ.2.toNat, c.text.length ≤ 300, fun σ _ => ((l.length : Int) - σ.2).toNat, ⟨Int.le_refl 0, by first | omega | (dsimp only; omega), Ext.refl _, fun c hc => by simp at hc⟩, ?_⟩
  rintro ⟨f, i⟩ h1 ⟨i0, i1, x1, hall⟩
  dsimp only at i0 i1 hall ⊢
  refine If.dec.2 ⟨fun hi => ?_, fun hi => ?_⟩
  · refine oc_at (e.ext x1) i0 (by omega) fun p c _ hc => ?_
    refine newTV_in fun h2 v2 x2 s2 => put_n (t0 := Oc.zero.tv) v2 (t := c.tv) rfl rfl fun h3 v3 f3 s3 => ⟨c.text, v3.at1 rfl, ?_⟩
    have x3 : Ext h h3 := x1.trans (Only.cut x2 f3 fun i hi => by omega)
    refine If.dec.2 ⟨fun _ => hy h3 x3, fun h300 => ?_⟩
    rw [wrap_i64 (n := i + 1) (by omega) (by omega)]
    refine ⟨⟨by first | omega | (dsimp only; omega), by first | omega | (dsimp only; omega), x3, ?_⟩, by first | omega | (dsimp only; omega)⟩
    try dsimp only
    rw [show (i + 1).toNat = i.toNat + 1 by omega, take_snoc hc]
    intro c' hc'
    rcases List.mem_append.1 hc' with h1' | h1'
    · exact hall c' h1'
    · rw [List.mem_singleton.1 h1']; omega
  · rw [List.take_of_length_le (by omega)] at hall
    exact hn h1 x1 (by omega) hall

/-! ### That something is done -/

def c5 : Oc := ⟨3, 0, [], 5, 7, 0, by decide⟩

set_option maxRecDepth 1000000 in
theorem c5_dec : (decF c5.bytes).map (fun d => (d.kind, d.slot, d.target.l)) = some (1, 7, (name 5).l) := by decide +kernel
theorem x_dec : decF (ByteArray.mk #[(120 : UInt8)]).data.toList = none := by decide +kernel
set_option maxRecDepth 1000000 in
theorem c5_len : c5.bytes.length < 1000 := by decide +kernel

theorem putS_first (x : It) : putS 2 2 x [] = (1, It.zero, [x]) := rfl

set_option maxRecDepth 100000 in
theorem oalive_spec (hr : ∀ h', Ext h h' → R (TV.bool true).val h') : CallsH Tryz.prog 23 (TVs.vals []) h R := by
  apply tollerlaw16_alive_calls
  unfold tollerlaw16_alive_vc
  obtain ⟨d, hd, hk, hs, ht⟩ : ∃ d, decF c5.bytes = some d ∧ d.kind = 1 ∧ d.slot = 7 ∧ d.target = name 5 := by
    have := c5_dec
    cases hx : decF c5.bytes with
    | none => rw [hx] at this; cases this
    | some d =>
      rw [hx] at this
      have := Option.some.inj this
      injection this with h1 h2
      injection h2 with h2 h3
      exact ⟨d, rfl, h1, h2, Bs.ext' h3⟩
  have hput : putW (fun k => decide (k = 1)) 2 2 1 c5.bytes [] = (1, Bs.zero 32, [itemOf d 1 c5.bytes]) := by
    rw [putW_yes hd (by rw [hk]; rfl), putS_first]
    rfl
  have hput2 : putW (fun k => decide (k = 1)) 2 2 1 (ByteArray.mk #[(120 : UInt8)]).data.toList [itemOf d 1 c5.bytes] = (5, Bs.zero 32, [itemOf d 1 c5.bytes]) := putW_none x_dec
  refine onew_spec (fun hn => absurd (by unfold Ok64; decide) hn) fun hok h1 w1 x1 s1 => ⟨_, rfl, ?_⟩
  refine newTV_in fun h2 v2 x2 s2 => put_n (t0 := Oc.zero.tv) v2 (t := c5.tv) rfl rfl fun h3 v3 f3 s3 => v_oc v3 (text_spec (c := c5) fun h4 x4 => ⟨_, rfl, ?_⟩)
  have x14 : Ext h1 h4 := (Only.cut x2 f3 fun i hi => by omega : Ext h1 h3).trans x4
  have w4 := w1.ext x14
  have z14 := x14.size
  refine oput_spec w4 (by decide) (by decide) (by decide) c5_len fun h5 A5 w5 g5 => ?_
  rw [hput] at w5 ⊢
  refine ⟨_, _, rfl, newTV_in fun h6 v6 x6 s6 => put_n v6 (t := .bytes 32 (Bs.zero 32)) rfl rfl fun h7 v7 f7 s7 => ?_⟩
  have x57 : Ext h5 h7 := Only.cut x6 f7 fun i hi => by omega
  refine oput_spec (w5.ext x57) (by decide) (by decide) (by show ((1 : Nat) : Int) ≤ 2; decide) (by decide) fun h8 A8 w8 g8 => ?_
  rw [hput2] at w8 ⊢
  refine ⟨_, _, rfl, newTV_in fun h9 v9 x9 s9 => put_n v9 (t := .bytes 32 (Bs.zero 32)) rfl rfl fun h10 v10 f10 s10 => ?_⟩
  have x810 : Ext h8 h10 := Only.cut x9 f10 fun i hi => by omega
  have hf1 : [itemOf d 1 c5.bytes].filter (fun x => decide (x.fr = name 5)) = [itemOf d 1 c5.bytes] := by
    have : decide ((itemOf d 1 c5.bytes).fr = name 5) = true := decide_eq_true ht
    simp [List.filter, this]
  have hf2 : [itemOf d 1 c5.bytes].filter (fun x => !decide (x.fr = name 5)) = [] := by
    have : decide ((itemOf d 1 c5.bytes).fr = name 5) = true := decide_eq_true ht
    simp [List.filter, this]
  refine name_spec fun h11 x11 => ⟨_, rfl, ?_⟩
  refine oof_spec ((w8.ext x810).ext x11) (fun x hx => by rw [List.mem_singleton.1 hx]; exact c5_len) fun h12 A12 t bs w12 g12 hbs o12 out12 => ⟨_, rfl, ?_⟩
  rw [hf2] at w12
  rw [hf1] at hbs
  obtain ⟨k, rfl⟩ : ∃ k, bs = [k] := by
    have := congrArg List.length hbs
    rw [List.length_map] at this
    exact List.length_eq_one_iff.1 this
  have tl : 1 = t.len := by have := o12.len; simpa using this
  have hkd : k.d = d := by
    have h1' : (k.r, k.d) = ((itemOf d 1 c5.bytes).root, dmOf c5.bytes) := List.head_eq_of_cons_eq hbs
    injection h1' with h2' h3'
    rw [h3', dmOf_some hd]
  have lowA : ∀ i, Mine h.size Sl.nil i → i = h.size := fun i hi => hi.elim id fun ⟨l, hl, _⟩ => by cases hl
  refine If.yes (If.yes (If.dec.2 ⟨fun _ => ?_, fun hx => absurd (by rw [← tl]; rfl) hx⟩))
  refine o12.elems.read (i := 0) (by decide) (by rw [← tl]; decide) fun l tt hla htt hat => ?_
  obtain rfl : k.tvB = tt := Option.some.inj htt
  refine ⟨k.d.slot, hat.2.2.1, ?_⟩
  rw [hkd, hs]
  refine If.yes (olen_spec w12 ⟨_, rfl, ?_⟩)
  have g1 : One1 100 (fun k => decide (k = 1)) h h1 (h.size + 1) h.size Sl.nil [] 2 2 := ⟨w1, ⟨by omega, fun i hi => by rw [lowA i hi]; exact Nat.le_refl _⟩, x1, by decide, (fun x hx => by cases hx), hok⟩
  have fit : ∀ x ∈ [itemOf d 1 c5.bytes], Fit (fun k => decide (k = 1)) x := fun x hx => by rw [List.mem_singleton.1 hx]; exact ⟨c5_len, d, hd, by rw [hk]; rfl, rfl⟩
  have g5' := (g1.more x14).step w5 g5 (by show ((1 : Nat) : Int) ≤ 2; decide) fit
  have g8' := (g5'.more x57).step w8 g8 (by show ((1 : Nat) : Int) ≤ 2; decide) fit
  have g12' := ((g8'.more x810).more x11).step w12 g12 (by decide) (fun x hx => by cases hx)
  exact hr h12 g12'.old

end
end Go.Proofs.YtldocdpdjdekiaaGreat.Pool
end

section
/- What the laws of both kinds of what waits need. -/
namespace Go.Proofs.YtldocdpdjdekiaaGreat.Pool
open Go Go.Vc
open Board (Dm decF)

section
variable {R : Value → Heap → Prop} {h h0 : Heap} {o b m : Nat} {A B : Sl} {S M : List It} {most quota : Int}

theorem dm_row2 (s : List UInt8) : (dmOf s).row.length < 100000 := by
  cases hd : decF s with
  | none => rw [dmOf_none hd]; decide
  | some d => rw [dmOf_some hd]; have := dm_row hd; omega

theorem Pr.put {T : TypeId} {want : Int → Bool} {h' : Heap} {q : Nat} (p : Pr T want h0 h o b m A B S M most quota) (f : Only (· = q) h h') (h1 : q ≠ o) (h2 : q ≠ m) (h3 : ¬ Mine b A q) (h4 : ∀ l, B.a = some l → l.b ≠ q) (h5 : h0.size ≤ q) : Pr T want h0 h' o b m A B S M most quota :=
  ⟨⟨p.one.wl.only f (fun e => h1 e.symm) (fun i hi e => h3 (e ▸ hi)), p.one.low, Only.cut p.one.old f fun i hi => by omega, p.one.len, p.one.fit, p.one.ok⟩,
   ⟨p.rl.var.only f (fun e => h2 e.symm), p.rl.el.only f h4, p.rl.cap, p.rl.apart, fun l hl => Nat.lt_of_lt_of_le (p.rl.low l hl) f.size, p.rl.few⟩, p.ne, p.ap, p.bo, p.lowm, p.lenM⟩

theorem Pr.start {T : TypeId} {want : Int → Bool} {h1 h2 : Heap} (w : WL T h1 (h.size + 1) h.size Sl.nil [] most quota) (x1 : Ext h h1) (s1 : h1.size = h.size + 2) (r : RL h2 h1.size Sl.nil [] most quota) (x2 : Ext h1 h2) (hok : Ok64 most quota) :
    Pr T want h h2 (h.size + 1) h.size h1.size Sl.nil Sl.nil [] [] most quota := by
  have lowA : ∀ i, Mine h.size Sl.nil i → i = h.size := fun i hi => hi.elim id fun ⟨l, hl, _⟩ => by cases hl
  have h1m := hok.1
  refine ⟨⟨w.ext x2, ⟨by omega, fun i hi => by rw [lowA i hi]; exact Nat.le_refl _⟩, x1.trans x2, by simp; omega, (fun x hx => by cases hx), hok⟩, r, by omega, (fun hi => by have := lowA _ hi; omega), (fun l hl => by cases hl), by omega, by simp; omega⟩

theorem has_of {x : It} {S : List It} (hx : x ∈ S) : has x.root S = true := List.any_eq_true.2 ⟨x, hx, by simp⟩

theorem len_split {p : It → Bool} : ∀ S : List It, ((S.filter fun x => !p x).length : Int) = (S.length : Int) - ((S.filter p).length : Int)
  | [] => rfl
  | x :: S => by
    have := len_split (p := p) S
    cases hp : p x <;> simp [hp] <;> omega

end
end Go.Proofs.YtldocdpdjdekiaaGreat.Pool
end

section
/- Plain laws of what waits: in whatever order it comes. -/
namespace Go.Proofs.YtldocdpdjdekiaaGreat.Pool
open Go Go.Vc
open Board (Dm decF nameF)

def strip (x : It) : It := { x with peer := 0 }

/-- Two texts of one name are one. -/
def Dist (t1 t2 : List UInt8) : Prop := ∀ d1 d2, decF t1 = some d1 → decF t2 = some d2 → nameF (d1.ms Sl.nil) d1.row = nameF (d2.ms Sl.nil) d2.row → t1 = t2
def NoTw (L : List (List UInt8)) : Prop := ∀ a ∈ L, ∀ b ∈ L, Dist a b
theorem Dist.symm {a b : List UInt8} (h : Dist a b) : Dist b a := fun d1 d2 h1 h2 e => (h d2 d1 h2 h1 e.symm).symm
theorem Dist.refl (a : List UInt8) : Dist a a := fun _ _ _ _ _ => rfl

theorem NoTw.snoc {L : List (List UInt8)} {a : List UInt8} (h : NoTw L) (k : ∀ b ∈ L, Dist a b) : NoTw (L ++ [a]) := by
  intro x hx y hy
  rcases List.mem_append.1 hx with h1 | h1
  · rcases List.mem_append.1 hy with h2 | h2
    · exact h x h1 y h2
    · rw [List.mem_singleton.1 h2]; exact (k x h1).symm
  · rw [List.mem_singleton.1 h1]
    rcases List.mem_append.1 hy with h2 | h2
    · exact k y h2
    · rw [List.mem_singleton.1 h2]; exact Dist.refl a

structure Took (want : Int → Bool) (T : List (List UInt8)) (S : List It) : Prop where
  src : ∀ x ∈ S, Fit want x ∧ x.text ∈ T
  all : ∀ t ∈ T, ∀ d, decF t = some d → want d.kind = true → has (nameF (d.ms Sl.nil) d.row) S = true
  len : S.length ≤ T.length

theorem Took.nil (want : Int → Bool) : Took want [] [] := ⟨(fun x hx => by cases hx), (fun t ht => by cases ht), Nat.le_refl _⟩

theorem putS_few2 {x : It} {S : List It} (hl : S.length < 64) : (has x.root S = true ∧ (putS 64 64 x S).2.2 = S) ∨ (putS 64 64 x S).2.2 = insIt x S := by
  have c1 : cnt x.peer S ≤ S.length := List.countP_le_length
  unfold putS
  by_cases hh : has x.root S = true
  · rw [if_pos hh]; exact .inl ⟨hh, rfl⟩
  · rw [if_neg hh, if_neg (by omega), if_pos (by omega)]; exact .inr rfl

theorem has_insIt (r : Bs 32) (x : It) (S : List It) : has r (insIt x S) = (decide (x.root = r) || has r S) := by
  unfold has
  rw [(insIt_perm x S).any_eq, List.any_cons]

theorem Took.step {want : Int → Bool} {T : List (List UInt8)} {S : List It} {text : List UInt8} {peer : Int} (k : Took want T S) (hl : T.length < 64) (ht : text.length < 1000) : Took want (T ++ [text]) (putW want 64 64 peer text S).2.2 := by
  have hS : ∀ x ∈ S, Fit want x := fun x hx => (k.src x hx).1
  have len0 := k.len
  have more : ∀ x ∈ S, Fit want x ∧ x.text ∈ T ++ [text] := fun x hx => ⟨(k.src x hx).1, List.mem_append_left _ (k.src x hx).2⟩
  cases hd : decF text with
  | none =>
    rw [putW_none hd]
    refine ⟨more, fun t h1 d h2 h3 => ?_, by simp; omega⟩
    rcases List.mem_append.1 h1 with h4 | h4
    · exact k.all t h4 d h2 h3
    · rw [List.mem_singleton.1 h4, hd] at h2; cases h2
  | some d =>
    cases hw : want d.kind with
    | false =>
      rw [putW_no hd hw]
      refine ⟨more, fun t h1 e h2 h3 => ?_, by simp; omega⟩
      rcases List.mem_append.1 h1 with h4 | h4
      · exact k.all t h4 e h2 h3
      · rw [List.mem_singleton.1 h4, hd] at h2
        obtain rfl := Option.some.inj h2
        rw [hw] at h3; cases h3
    | true =>
      rw [putW_yes hd hw]
      show Took want (T ++ [text]) (putS 64 64 (itemOf d peer text) S).2.2
      rcases putS_few2 (x := itemOf d peer text) (S := S) (by omega) with ⟨h5, h6⟩ | h6
      · rw [h6]
        refine ⟨more, fun t h1 e h2 h3 => ?_, by simp; omega⟩
        rcases List.mem_append.1 h1 with h4 | h4
        · exact k.all t h4 e h2 h3
        · rw [List.mem_singleton.1 h4, hd] at h2
          obtain rfl := Option.some.inj h2
          exact h5
      · rw [h6]
        refine ⟨fun x hx => ?_, fun t h1 e h2 h3 => ?_, by rw [insIt_length]; simp; omega⟩
        · rcases List.mem_cons.1 ((insIt_perm _ S).mem_iff.1 hx) with rfl | h7
          · exact ⟨⟨ht, d, hd, hw, rfl⟩, List.mem_append_right _ (List.mem_singleton.2 rfl)⟩
          · exact more x h7
        · rw [has_insIt]
          rcases List.mem_append.1 h1 with h4 | h4
          · rw [k.all t h4 e h2 h3, Bool.or_true]
          · rw [List.mem_singleton.1 h4, hd] at h2
            obtain rfl := Option.some.inj h2
            have : decide ((itemOf d peer text).root = nameF (d.ms Sl.nil) d.row) = true := decide_eq_true rfl
            rw [this, Bool.true_or]

theorem srt_strip {S : List It} (h : Srt S) : Srt (S.map strip) := List.Pairwise.map strip (fun _ _ hb => hb) h

theorem Took.sub {want : Int → Bool} {T1 T2 : List (List UInt8)} {S1 S2 : List It} (k1 : Took want T1 S1) (k2 : Took want T2 S2) (hT : ∀ t, t ∈ T1 → t ∈ T2) (hT' : ∀ t, t ∈ T2 → t ∈ T1) (nt : NoTw T1) : ∀ y ∈ S1.map strip, y ∈ S2.map strip := by
  intro y hy
  obtain ⟨x, hx, rfl⟩ := List.mem_map.1 hy
  obtain ⟨⟨_, d, hd, hw, he⟩, ht⟩ := k1.src x hx
  obtain ⟨x', hx', hr⟩ := List.any_eq_true.1 (k2.all x.text (hT _ ht) d hd hw)
  obtain ⟨⟨_, d', hd', hw', he'⟩, ht'⟩ := k2.src x' hx'
  have hr' : x'.root = nameF (d.ms Sl.nil) d.row := of_decide_eq_true hr
  have hn : nameF (d.ms Sl.nil) d.row = nameF (d'.ms Sl.nil) d'.row := by
    rw [← hr', he']
    rfl
  have htt := nt _ ht _ (hT' _ ht') d d' hd hd' hn
  rw [htt, hd'] at hd
  obtain rfl := Option.some.inj hd
  refine List.mem_map.2 ⟨x', hx', ?_⟩
  rw [he, he', htt]
  rfl

theorem Took.eq {want : Int → Bool} {T1 T2 : List (List UInt8)} {S1 S2 : List It} (k1 : Took want T1 S1) (k2 : Took want T2 S2) (hT : ∀ t, t ∈ T1 ↔ t ∈ T2) (nt : NoTw T1) (s1 : Srt S1) (s2 : Srt S2) : S1.map strip = S2.map strip := by
  have nt2 : NoTw T2 := fun a ha b hb => nt a ((hT a).2 ha) b ((hT b).2 hb)
  refine srt_unique (srt_strip s1) (srt_strip s2) ((List.perm_ext_iff_of_nodup (srt_nodup (srt_strip s1)) (srt_nodup (srt_strip s2))).2 fun y => ⟨k1.sub k2 (fun t => (hT t).1) (fun t => (hT t).2) nt y, k2.sub k1 (fun t => (hT t).2) (fun t => (hT t).1) nt2 y⟩)

/-- What is told of items without their peers. -/
theorem filter_strip {S1 S2 : List It} (h : S1.map strip = S2.map strip) {p : It → Bool} (hp : ∀ x, p (strip x) = p x) : (S1.filter p).map strip = (S2.filter p).map strip := by
  have e : ∀ S : List It, (S.filter p).map strip = (S.map strip).filter p := fun S => by
    rw [List.filter_map]
    congr 1
    exact (List.filter_congr fun x _ => by simp [Function.comp, hp x]).symm
  rw [e, e, h]

theorem map_strip {α : Type} {S1 S2 : List It} (h : S1.map strip = S2.map strip) {f : It → α} (hf : ∀ x, f (strip x) = f x) : S1.map f = S2.map f := by
  have e : ∀ S : List It, S.map f = (S.map strip).map f := fun S => by
    rw [List.map_map]
    exact List.map_congr_left fun x _ => (hf x).symm
  exact (e S1).trans ((congrArg _ h).trans (e S2).symm)

end Go.Proofs.YtldocdpdjdekiaaGreat.Pool
end

section
/- Two of the program's side by side; names among what waits. -/
namespace Go.Proofs.YtldocdpdjdekiaaGreat.Pool
open Go Go.Vc
open Board (Dm Ms decF nameF zeroM docdecode_spec docroot_spec bools dec_good good_kind)

section
variable {h0 h h' : Heap} {o1 b1 o2 b2 : Nat} {A1 A2 A' : Sl} {S1 S2 S' : List It} {t : Sl} {T TO : TypeId} {sz : Nat} {want : Int → Bool} {ts : List TV}

/-- Two of the program's, and a row besides. -/
structure Tw (T : TypeId) (want : Int → Bool) (TO : TypeId) (sz : Nat) (h0 h : Heap) (o1 b1 o2 b2 : Nat) (A1 A2 : Sl) (S1 S2 : List It) (t : Sl) (ts : List TV) : Prop where
  one : One1 T want h0 h o1 b1 A1 S1 64 64
  two : One1 T want h0 h o2 b2 A2 S2 64 64
  dj : ∀ i, Mine b1 A1 i → ¬ Mine b2 A2 i
  n1 : ¬ Mine b1 A1 o2
  n2 : ¬ Mine b2 A2 o1
  own : Own TO sz h t ts
  q1 : ∀ i, In t i → ¬ Mine b1 A1 i
  q2 : ∀ i, In t i → ¬ Mine b2 A2 i

theorem Tw.symm (p : Tw T want TO sz h0 h o1 b1 o2 b2 A1 A2 S1 S2 t ts) : Tw T want TO sz h0 h o2 b2 o1 b1 A2 A1 S2 S1 t ts := ⟨p.two, p.one, fun i h2 h1 => p.dj i h1 h2, p.n2, p.n1, p.own, p.q2, p.q1⟩
theorem Tw.more (p : Tw T want TO sz h0 h o1 b1 o2 b2 A1 A2 S1 S2 t ts) (x : Ext h h') : Tw T want TO sz h0 h' o1 b1 o2 b2 A1 A2 S1 S2 t ts := ⟨p.one.more x, p.two.more x, p.dj, p.n1, p.n2, p.own.ext x, p.q1, p.q2⟩
theorem Tw.step (p : Tw T want TO sz h0 h o1 b1 o2 b2 A1 A2 S1 S2 t ts) (w : WL T h' o1 b1 A' S' 64 64) (g : Grown b1 A1 h A' h') (hl : (S'.length : Int) ≤ 64) (hf : ∀ x ∈ S', Fit want x) : Tw T want TO sz h0 h' o1 b1 o2 b2 A' A2 S' S2 t ts := by
  have m2 : ∀ i, Mine b2 A2 i → i < h.size := fun i hi => p.two.wl.pl.lt hi
  have ho2 := p.two.wl.var.lt
  have mt : ∀ i, In t i → i < h.size := fun i ⟨l, hl, hi⟩ => by have := p.own.lt l hl; omega
  have new : ∀ i, i < h.size → ¬ Mine b1 A1 i → ¬ Mine b1 A' i := fun i hi hn hx => by
    rcases g.new i hx with h1 | h1
    · exact hn h1
    · omega
  refine ⟨p.one.step w g hl hf, ⟨p.two.wl.only g.only p.n1 fun i hi hx => p.dj i hx hi, p.two.low, Only.cut p.two.old g.only fun i hi => p.one.low.2 i hi, p.two.len, p.two.fit, p.two.ok⟩, fun i hi hx => ?_, new _ ho2 p.n1, p.n2, p.own.only g.only fun l hl => p.q1 _ ⟨l, hl, rfl⟩, fun i hi => new i (mt i hi) (p.q1 i hi), p.q2⟩
  rcases g.new i hi with h1 | h1
  · exact p.dj i h1 hx
  · have := m2 i hx; omega

theorem turn_lt {n : Nat} (i by_ : Nat) (hn : 0 < n) : n - 1 - (i + by_) % n < n := by omega
theorem turn_all {n by_ k : Nat} (hk : k < n) (hb : by_ < n) : n - 1 - ((n - 1 - k + (n - by_)) % n + by_) % n = k := by
  have : ((n - 1 - k + (n - by_)) % n + by_) % n = n - 1 - k := by
    rw [Nat.mod_add_mod]
    have e1 : n - 1 - k + (n - by_) + by_ = (n - 1 - k) + n := by omega
    rw [e1, Nat.add_mod_right, Nat.mod_eq_of_lt (by omega)]
  rw [this]
  omega

theorem root_inj : ∀ {S : List It}, (S.map It.root).Nodup → ∀ {x z : It}, x ∈ S → z ∈ S → z.root = x.root → z = x
  | y :: S, hn, x, z, hx, hz, e => by
    rw [List.map_cons] at hn
    have hn' := List.nodup_cons.1 hn
    rcases List.mem_cons.1 hx with h1 | h1
    · rcases List.mem_cons.1 hz with h2 | h2
      · rw [h1, h2]
      · exact absurd (by rw [← h1, ← e]; exact List.mem_map_of_mem h2) hn'.1
    · rcases List.mem_cons.1 hz with h2 | h2
      · exact absurd (by rw [← h2, e]; exact List.mem_map_of_mem h1) hn'.1
      · exact root_inj hn'.2 h1 h2 e

end

section
variable {R : Value → Heap → Prop} {h : Heap}

theorem docdecode3_spec {s : List UInt8} (hs : s.length < 1000) (hr : ∀ h' b, Elems 1 h' b (bools (dmOf s).row) → Ext h h' → R (TV.tup [((dmOf s).ms b).tv, .bool (decF s).isSome]).val h') :
    CallsH Tryz.prog 48 (TVs.vals [.str s]) h R := by
  refine docdecode_spec hs (fun hn h' x => ?_) fun d h' b hd e x loc => ?_
  · have := hr h' Sl.nil
    rw [dmOf_none hn, hn] at this
    exact this (Elems.nil_ 1 h') x
  · have := hr h' b
    rw [dmOf_some hd, hd] at this
    exact this e x

theorem dec_name {s : List UInt8} {b : Sl} {u : Bs 32} (hu : u = nameF ((dmOf s).ms Sl.nil) (dmOf s).row) (hs : (decF s).isSome = true) (e : Elems 1 h b (bools (dmOf s).row)) (hr : ∀ h', Ext h h' → R (TV.bytes 32 u).val h') : CallsH Tryz.prog 22 (TVs.vals [((dmOf s).ms b).tv]) h R := by
  obtain ⟨d, hd⟩ := Option.isSome_iff_exists.1 hs
  subst hu
  rw [dmOf_some hd] at e hr ⊢
  exact docroot_spec (m := d.ms b) e (dm_row hd) (good_kind (m := d.ms Sl.nil) (dec_good hd)) (dec_body hd b) fun h' x => hr h' x

end
end Go.Proofs.YtldocdpdjdekiaaGreat.Pool
end

section
/- The conditions of functions, as the generator reckons them out, each with the proof that it is that. -/
namespace Go.Proofs.YtldocdpdjdekiaaGreat
open Go Go.Vc
set_option maxRecDepth 100000
set_option linter.unusedVariables false

def tollerlaw16_twins_vc (script : Sl) (h : Heap) (R : Value → Heap → Prop) : Prop :=
 Go.Vc.Loop (false, (0 : Int)) h fun (s : Bool × Int) (h : Array Obj) (K : Bool × Int → Array Obj → Prop) ↦
 If (decide (s.snd < (↑script.len : Int)))
 ((0 : Int) ≤ s.snd ∧
 s.snd < (↑script.len : Int) ∧
 Nn script.a fun (l : Go.Vc.Loc) ↦
 ∃ (n : Int),
 ∃ (n_1 : Int),
 ∃ (s_1 : List UInt8),
 ∃ (n_2 : Int),
 ∃ (n_3 : Int),
 ∃ (n_4 : Int),
 (at1 h l.b (l.o + Int.toNat s.snd * (6 : Nat)) (Value.int IntKind.i64 n) ∧
 at1 h l.b (l.o + Int.toNat s.snd * (6 : Nat) + (1 : Nat)) (Value.int IntKind.i64 n_1) ∧
 at1 h l.b (l.o + Int.toNat s.snd * (6 : Nat) + (1 : Nat) + (1 : Nat)) (Value.string (ByteArray.mk (List.toArray s_1))) ∧
 at1 h l.b (l.o + Int.toNat s.snd * (6 : Nat) + (1 : Nat) + (1 : Nat) + (1 : Nat)) (Value.int IntKind.i64 n_2) ∧
 at1 h l.b (l.o + Int.toNat s.snd * (6 : Nat) + (1 : Nat) + (1 : Nat) + (1 : Nat) + (1 : Nat)) (Value.int IntKind.i64 n_3) ∧
 at1 h l.b (l.o + Int.toNat s.snd * (6 : Nat) + (1 : Nat) + (1 : Nat) + (1 : Nat) + (1 : Nat) + (1 : Nat))
 (Value.int IntKind.u64 n_4)) ∧
 Vc.Bind
 (newTV h
 (TV.agg
 [TV.int IntKind.i64 (0 : Int), TV.int IntKind.i64 (0 : Int), TV.str [], TV.int IntKind.i64 (0 : Int),
 TV.int IntKind.i64 (0 : Int), TV.int IntKind.u64 (0 : Int)])
 (66 : Nat))
 fun (h_1 : Array Obj) ↦
 wok h_1 (Array.size h) (0 : Nat) (6 : Nat) ∧
 Vc.Bind
 (TV.put h_1 (Array.size h) (0 : Nat)
 (TV.agg
 [TV.int IntKind.i64 n, TV.int IntKind.i64 n_1, TV.str s_1, TV.int IntKind.i64 n_2, TV.int IntKind.i64 n_3,
 TV.int IntKind.u64 n_4]))
 fun (h_2 : Array Obj) ↦
 ∃ (n : Int),
 ∃ (n_5 : Int),
 ∃ (s_2 : List UInt8),
 ∃ (n_6 : Int),
 ∃ (n_7 : Int),
 ∃ (n_8 : Int),
 (at1 h_2 (Array.size h) (0 : Nat) (Value.int IntKind.i64 n) ∧
 at1 h_2 (Array.size h) (1 : Nat) (Value.int IntKind.i64 n_5) ∧
 at1 h_2 (Array.size h) (2 : Nat) (Value.string (ByteArray.mk (List.toArray s_2))) ∧
 at1 h_2 (Array.size h) (3 : Nat) (Value.int IntKind.i64 n_6) ∧
 at1 h_2 (Array.size h) (4 : Nat) (Value.int IntKind.i64 n_7) ∧
 at1 h_2 (Array.size h) (5 : Nat) (Value.int IntKind.u64 n_8)) ∧
 CallsH Tryz.prog (34 : Nat)
 (TVs.vals
 [TV.agg
 [TV.int IntKind.i64 n, TV.int IntKind.i64 n_5, TV.str s_2, TV.int IntKind.i64 n_6, TV.int IntKind.i64 n_7,
 TV.int IntKind.u64 n_8]])
 h_2 fun (v : Value) (h_3 : Array Obj) ↦
 ∃ (s_3 : List UInt8),
 v = TV.val (TV.str s_3) ∧
 CallsH Tryz.prog (48 : Nat) (TVs.vals [TV.str s_3]) h_3 fun (v : Value) (h_4 : Array Obj) ↦
 ∃ (n : Int),
 ∃ (n_9 : Int),
 ∃ (b : Bs (32 : Nat)),
 ∃ (n_10 : Int),
 ∃ (n_11 : Int),
 ∃ (s_4 : Sl),
 ∃ (b_1 : Bs (16 : Nat)),
 ∃ (b_2 : Bool),
 v =
 TV.val
 (TV.tup
 [TV.agg
 [TV.int IntKind.i64 n, TV.int IntKind.i64 n_9, TV.bytes (32 : Nat) b,
 TV.int IntKind.i64 n_10, TV.int IntKind.u64 n_11, TV.slice s_4,
 TV.bytes (16 : Nat) b_1],
 TV.bool b_2]) ∧
 Vc.Bind
 (newTV h_4
 (TV.agg
 [TV.int IntKind.i64 (0 : Int), TV.int IntKind.i64 (0 : Int),
 TV.bytes (32 : Nat) (Bs.zero (32 : Nat)), TV.int IntKind.i64 (0 : Int),
 TV.int IntKind.u64 (0 : Int), TV.slice Sl.nil,
 TV.bytes (16 : Nat) (Bs.zero (16 : Nat))])
 (58 : Nat))
 fun (h_5 : Array Obj) ↦
 wok h_5 (Array.size h_4) (0 : Nat) (53 : Nat) ∧
 Vc.Bind
 (TV.put h_5 (Array.size h_4) (0 : Nat)
 (TV.agg
 [TV.int IntKind.i64 n, TV.int IntKind.i64 n_9, TV.bytes (32 : Nat) b,
 TV.int IntKind.i64 n_10, TV.int IntKind.u64 n_11, TV.slice s_4,
 TV.bytes (16 : Nat) b_1]))
 fun (h_6 : Array Obj) ↦
 (0 : Int) ≤ s.snd ∧
 s.snd ≤ (↑script.cap : Int) ∧
 Go.Vc.Loop (s.fst, (0 : Int)) h_6
 fun (s_5 : Bool × Int) (h_7 : Array Obj)
 (K_1 : Bool × Int → Array Obj → Prop) ↦
 If
 (decide
 (s_5.snd <
 (↑(cutSl script (0 : Nat) (Int.toNat s.snd) (6 : Nat)).len : Int)))
 ((0 : Int) ≤ s_5.snd ∧
 s_5.snd <
 (↑(cutSl script (0 : Nat) (Int.toNat s.snd) (6 : Nat)).len : Int) ∧
 Nn (cutSl script (0 : Nat) (Int.toNat s.snd) (6 : Nat)).a
 fun (l : Go.Vc.Loc) ↦
 ∃ (n : Int),
 ∃ (n_12 : Int),
 ∃ (s_6 : List UInt8),
 ∃ (n_13 : Int),
 ∃ (n_14 : Int),
 ∃ (n_15 : Int),
 (at1 h_7 l.b (l.o + Int.toNat s_5.snd * (6 : Nat))
 (Value.int IntKind.i64 n) ∧
 at1 h_7 l.b
 (l.o + Int.toNat s_5.snd * (6 : Nat) + (1 : Nat))
 (Value.int IntKind.i64 n_12) ∧
 at1 h_7 l.b
 (l.o + Int.toNat s_5.snd * (6 : Nat) +
 (1 : Nat) +
 (1 : Nat))
 (Value.string
 (ByteArray.mk (List.toArray s_6))) ∧
 at1 h_7 l.b
 (l.o + Int.toNat s_5.snd * (6 : Nat) +
 (1 : Nat) +
 (1 : Nat) +
 (1 : Nat))
 (Value.int IntKind.i64 n_13) ∧
 at1 h_7 l.b
 (l.o + Int.toNat s_5.snd * (6 : Nat) +
 (1 : Nat) +
 (1 : Nat) +
 (1 : Nat) +
 (1 : Nat))
 (Value.int IntKind.i64 n_14) ∧
 at1 h_7 l.b
 (l.o + Int.toNat s_5.snd * (6 : Nat) +
 (1 : Nat) +
 (1 : Nat) +
 (1 : Nat) +
 (1 : Nat) +
 (1 : Nat))
 (Value.int IntKind.u64 n_15)) ∧
 Vc.Bind
 (newTV h_7
 (TV.agg
 [TV.int IntKind.i64 (0 : Int),
 TV.int IntKind.i64 (0 : Int), TV.str [],
 TV.int IntKind.i64 (0 : Int),
 TV.int IntKind.i64 (0 : Int),
 TV.int IntKind.u64 (0 : Int)])
 (66 : Nat))
 fun (h_8 : Array Obj) ↦
 wok h_8 (Array.size h_7) (0 : Nat) (6 : Nat) ∧
 Vc.Bind
 (TV.put h_8 (Array.size h_7) (0 : Nat)
 (TV.agg
 [TV.int IntKind.i64 n,
 TV.int IntKind.i64 n_12, TV.str s_6,
 TV.int IntKind.i64 n_13,
 TV.int IntKind.i64 n_14,
 TV.int IntKind.u64 n_15]))
 fun (h_9 : Array Obj) ↦
 ∃ (n : Int),
 ∃ (n_16 : Int),
 ∃ (s_7 : List UInt8),
 ∃ (n_17 : Int),
 ∃ (n_18 : Int),
 ∃ (n_19 : Int),
 (at1 h_9 (Array.size h_7) (0 : Nat)
 (Value.int IntKind.i64 n) ∧
 at1 h_9 (Array.size h_7) (1 : Nat)
 (Value.int IntKind.i64 n_16) ∧
 at1 h_9 (Array.size h_7)
 (2 : Nat)
 (Value.string
 (ByteArray.mk
 (List.toArray s_7))) ∧
 at1 h_9 (Array.size h_7)
 (3 : Nat)
 (Value.int IntKind.i64
 n_17) ∧
 at1 h_9 (Array.size h_7)
 (4 : Nat)
 (Value.int IntKind.i64
 n_18) ∧
 at1 h_9 (Array.size h_7)
 (5 : Nat)
 (Value.int IntKind.u64
 n_19)) ∧
 CallsH Tryz.prog (34 : Nat)
 (TVs.vals
 [TV.agg
 [TV.int IntKind.i64 n,
 TV.int IntKind.i64 n_16,
 TV.str s_7,
 TV.int IntKind.i64 n_17,
 TV.int IntKind.i64 n_18,
 TV.int IntKind.u64 n_19]])
 h_9
 fun (v : Value)
 (h_10 : Array Obj) ↦
 ∃ (s_8 : List UInt8),
 v = TV.val (TV.str s_8) ∧
 CallsH Tryz.prog (48 : Nat)
 (TVs.vals [TV.str s_8]) h_10
 fun (v : Value)
 (h_11 : Array Obj) ↦
 ∃ (n : Int),
 ∃ (n_20 : Int),
 ∃ (b : Bs (32 : Nat)),
 ∃ (n_21 : Int),
 ∃ (n_22 : Int),
 ∃ (s_9 : Sl),
 ∃ (b_3 :
 Bs
 (16 : Nat)),
 ∃ (b_4 :
 Bool),
 v =
 TV.val
 (TV.tup
 [TV.agg
 [TV.int
 IntKind.i64
 n,
 TV.int
 IntKind.i64
 n_20,
 TV.bytes
 (32 :
 Nat)
 b,
 TV.int
 IntKind.i64
 n_21,
 TV.int
 IntKind.u64
 n_22,
 TV.slice
 s_9,
 TV.bytes
 (16 :
 Nat)
 b_3],
 TV.bool
 b_4]) ∧
 Vc.Bind
 (newTV
 h_11
 (TV.agg
 [TV.int
 IntKind.i64
 (0 :
 Int),
 TV.int
 IntKind.i64
 (0 :
 Int),
 TV.bytes
 (32 :
 Nat)
 (Bs.zero
 (32 :
 Nat)),
 TV.int
 IntKind.i64
 (0 :
 Int),
 TV.int
 IntKind.u64
 (0 :
 Int),
 TV.slice
 Sl.nil,
 TV.bytes
 (16 :
 Nat)
 (Bs.zero
 (16 :
 Nat))])
 (58 :
 Nat))
 fun
 (h_12 :
 Array
 Obj) ↦
 wok h_12
 (Array.size
 h_11)
 (0 :
 Nat)
 (53 :
 Nat) ∧
 Vc.Bind
 (TV.put
 h_12
 (Array.size
 h_11)
 (0 :
 Nat)
 (TV.agg
 [TV.int
 IntKind.i64
 n,
 TV.int
 IntKind.i64
 n_20,
 TV.bytes
 (32 :
 Nat)
 b,
 TV.int
 IntKind.i64
 n_21,
 TV.int
 IntKind.u64
 n_22,
 TV.slice
 s_9,
 TV.bytes
 (16 :
 Nat)
 b_3]))
 fun
 (h_13 :
 Array
 Obj) ↦
 If
 b_2
 (If
 b_4
 (∃
 (n
 :
 Int),
 ∃
 (n_23
 :
 Int),
 ∃
 (s_10
 :
 List
 UInt8),
 ∃
 (n_24
 :
 Int),
 ∃
 (n_25
 :
 Int),
 ∃
 (n_26
 :
 Int),
 (at1
 h_13
 (Array.size
 h)
 (0 :
 Nat)
 (Value.int
 IntKind.i64
 n) ∧
 at1
 h_13
 (Array.size
 h)
 (1 :
 Nat)
 (Value.int
 IntKind.i64
 n_23) ∧
 at1
 h_13
 (Array.size
 h)
 (2 :
 Nat)
 (Value.string
 (ByteArray.mk
 (List.toArray
 s_10))) ∧
 at1
 h_13
 (Array.size
 h)
 (3 :
 Nat)
 (Value.int
 IntKind.i64
 n_24) ∧
 at1
 h_13
 (Array.size
 h)
 (4 :
 Nat)
 (Value.int
 IntKind.i64
 n_25) ∧
 at1
 h_13
 (Array.size
 h)
 (5 :
 Nat)
 (Value.int
 IntKind.u64
 n_26)) ∧
 ∃
 (n_27
 :
 Int),
 ∃
 (n_28
 :
 Int),
 ∃
 (s_11
 :
 List
 UInt8),
 ∃
 (n_29
 :
 Int),
 ∃
 (n_30
 :
 Int),
 ∃
 (n_31
 :
 Int),
 (at1
 h_13
 (Array.size
 h_7)
 (0 :
 Nat)
 (Value.int
 IntKind.i64
 n_27) ∧
 at1
 h_13
 (Array.size
 h_7)
 (1 :
 Nat)
 (Value.int
 IntKind.i64
 n_28) ∧
 at1
 h_13
 (Array.size
 h_7)
 (2 :
 Nat)
 (Value.string
 (ByteArray.mk
 (List.toArray
 s_11))) ∧
 at1
 h_13
 (Array.size
 h_7)
 (3 :
 Nat)
 (Value.int
 IntKind.i64
 n_29) ∧
 at1
 h_13
 (Array.size
 h_7)
 (4 :
 Nat)
 (Value.int
 IntKind.i64
 n_30) ∧
 at1
 h_13
 (Array.size
 h_7)
 (5 :
 Nat)
 (Value.int
 IntKind.u64
 n_31)) ∧
 CallsH
 Tryz.prog
 (34 :
 Nat)
 (TVs.vals
 [TV.agg
 [TV.int
 IntKind.i64
 n,
 TV.int
 IntKind.i64
 n_23,
 TV.str
 s_10,
 TV.int
 IntKind.i64
 n_24,
 TV.int
 IntKind.i64
 n_25,
 TV.int
 IntKind.u64
 n_26]])
 h_13
 fun
 (v :
 Value)
 (h :
 Array
 Obj) ↦
 ∃
 (s_12
 :
 List
 UInt8),
 v =
 TV.val
 (TV.str
 s_12) ∧
 Ext
 h_13
 h ∧
 CallsH
 Tryz.prog
 (34 :
 Nat)
 (TVs.vals
 [TV.agg
 [TV.int
 IntKind.i64
 n_27,
 TV.int
 IntKind.i64
 n_28,
 TV.str
 s_11,
 TV.int
 IntKind.i64
 n_29,
 TV.int
 IntKind.i64
 n_30,
 TV.int
 IntKind.u64
 n_31]])
 h
 fun
 (v :
 Value)
 (h :
 Array
 Obj) ↦
 ∃
 (s_13
 :
 List
 UInt8),
 v =
 TV.val
 (TV.str
 s_13) ∧
 If
 (!decide
 (s_12 =
 s_13))
 (∃
 (n
 :
 Int),
 ∃
 (n_32
 :
 Int),
 ∃
 (b
 :
 Bs
 (32 :
 Nat)),
 ∃
 (n_33
 :
 Int),
 ∃
 (n_34
 :
 Int),
 ∃
 (s_14
 :
 Sl),
 ∃
 (b_5
 :
 Bs
 (16 :
 Nat)),
 (at1
 h
 (Array.size
 h_4)
 (0 :
 Nat)
 (Value.int
 IntKind.i64
 n) ∧
 at1
 h
 (Array.size
 h_4)
 (1 :
 Nat)
 (Value.int
 IntKind.i64
 n_32) ∧
 atBytes
 h
 (Array.size
 h_4)
 (2 :
 Nat)
 (32 :
 Nat)
 b ∧
 at1
 h
 (Array.size
 h_4)
 (34 :
 Nat)
 (Value.int
 IntKind.i64
 n_33) ∧
 at1
 h
 (Array.size
 h_4)
 (35 :
 Nat)
 (Value.int
 IntKind.u64
 n_34) ∧
 at1
 h
 (Array.size
 h_4)
 (36 :
 Nat)
 (slVal
 s_14) ∧
 atBytes
 h
 (Array.size
 h_4)
 (37 :
 Nat)
 (16 :
 Nat)
 b_5) ∧
 ∃
 (n_35
 :
 Int),
 ∃
 (n_36
 :
 Int),
 ∃
 (b_6
 :
 Bs
 (32 :
 Nat)),
 ∃
 (n_37
 :
 Int),
 ∃
 (n_38
 :
 Int),
 ∃
 (s_15
 :
 Sl),
 ∃
 (b_7
 :
 Bs
 (16 :
 Nat)),
 (at1
 h
 (Array.size
 h_11)
 (0 :
 Nat)
 (Value.int
 IntKind.i64
 n_35) ∧
 at1
 h
 (Array.size
 h_11)
 (1 :
 Nat)
 (Value.int
 IntKind.i64
 n_36) ∧
 atBytes
 h
 (Array.size
 h_11)
 (2 :
 Nat)
 (32 :
 Nat)
 b_6 ∧
 at1
 h
 (Array.size
 h_11)
 (34 :
 Nat)
 (Value.int
 IntKind.i64
 n_37) ∧
 at1
 h
 (Array.size
 h_11)
 (35 :
 Nat)
 (Value.int
 IntKind.u64
 n_38) ∧
 at1
 h
 (Array.size
 h_11)
 (36 :
 Nat)
 (slVal
 s_15) ∧
 atBytes
 h
 (Array.size
 h_11)
 (37 :
 Nat)
 (16 :
 Nat)
 b_7) ∧
 CallsH
 Tryz.prog
 (22 :
 Nat)
 (TVs.vals
 [TV.agg
 [TV.int
 IntKind.i64
 n,
 TV.int
 IntKind.i64
 n_32,
 TV.bytes
 (32 :
 Nat)
 b,
 TV.int
 IntKind.i64
 n_33,
 TV.int
 IntKind.u64
 n_34,
 TV.slice
 s_14,
 TV.bytes
 (16 :
 Nat)
 b_5]])
 h
 fun
 (v :
 Value)
 (h_14 :
 Array
 Obj) ↦
 ∃
 (b
 :
 Bs
 (32 :
 Nat)),
 v =
 TV.val
 (TV.bytes
 (32 :
 Nat)
 b) ∧
 Ext
 h
 h_14 ∧
 CallsH
 Tryz.prog
 (22 :
 Nat)
 (TVs.vals
 [TV.agg
 [TV.int
 IntKind.i64
 n_35,
 TV.int
 IntKind.i64
 n_36,
 TV.bytes
 (32 :
 Nat)
 b_6,
 TV.int
 IntKind.i64
 n_37,
 TV.int
 IntKind.u64
 n_38,
 TV.slice
 s_15,
 TV.bytes
 (16 :
 Nat)
 b_7]])
 h_14
 fun
 (v :
 Value)
 (h :
 Array
 Obj) ↦
 ∃
 (b_8
 :
 Bs
 (32 :
 Nat)),
 v =
 TV.val
 (TV.bytes
 (32 :
 Nat)
 b_8) ∧
 If
 (decide
 (b.l =
 b_8.l))
 (R
 (TV.val
 (TV.bool
 true))
 h)
 (K_1
 (s_5.fst,
 IntKind.wrap
 IntKind.i64
 (s_5.snd +
 (1 :
 Int)))
 h))
 (K_1
 (s_5.fst,
 IntKind.wrap
 IntKind.i64
 (s_5.snd +
 (1 :
 Int)))
 h))
 (K_1
 (s_5.fst,
 IntKind.wrap
 IntKind.i64
 (s_5.snd +
 (1 :
 Int)))
 h_13))
 (K_1
 (s_5.fst,
 IntKind.wrap
 IntKind.i64
 (s_5.snd +
 (1 :
 Int)))
 h_13))
 (K (s_5.fst, IntKind.wrap IntKind.i64 (s.snd + (1 : Int))) h_7))
 (R (TV.val (TV.bool false)) h)

theorem tollerlaw16_twins_calls (script : Sl) (h : Heap) (R : Value → Heap → Prop) (H : tollerlaw16_twins_vc script h R) : CallsH Tryz.prog 32 (TVs.vals [TV.slice script]) h R :=
 vcFn_sound (C := ctx) ctx_ok (fn := Tryz.f32) Tryz.func32 ((by kernel_rfl : tollerlaw16_twins_vc script h R = vcFn ctx Tryz.f32 [TV.slice script] h R) ▸ H)


end Go.Proofs.YtldocdpdjdekiaaGreat
end

section
/- Twins among votes: two texts of one name. -/
namespace Go.Proofs.YtldocdpdjdekiaaGreat.Pool
open Go Go.Vc
open Board (Dm Ms decF nameF zeroM ms_at put_n mssz mssz1 docgood_spec docbytes_spec docdecode_spec docroot_spec BodyOk bsz bools take_snoc dec_good good_kind)

section
variable {R : Value → Heap → Prop} {h : Heap}

set_option maxRecDepth 100000 in
set_option maxHeartbeats 1000000 in
theorem otwins_spec {s : Sl} {l : List Oc} (e : Elems 6 h s (ocs l)) (hcap : s.len ≤ s.cap) (h80 : l.length ≤ 80) (h300 : ∀ c ∈ l, c.text.length ≤ 300)
    (hy : ∀ h', Ext h h' → R (TV.bool true).val h') (hn : ∀ h', Ext h h' → NoTw (l.map Oc.bytes) → R (TV.bool false).val h') : CallsH Tryz.prog 32 (TVs.vals [.slice s]) h R := by
  apply tollerlaw16_twins_calls
  unfold tollerlaw16_twins_vc
  have el := e.len
  rw [List.length_map] at el
  refine ⟨fun σ hh => 0 ≤ σ.2 ∧ σ.2 ≤ l.length ∧ Ext h hh ∧ NoTw ((l.take σ.2.toNat).map Oc.bytes), fun σ _ => ((l.length : Int) - σ.2).toNat, ⟨Int.le_refl 0, by first | omega | (dsimp only; omega), Ext.refl _, fun a ha => by simp at ha⟩, ?_⟩
  rintro ⟨f, i⟩ h1 ⟨i0, i1, x1, nt⟩
  dsimp only at i0 i1 nt ⊢
  refine If.dec.2 ⟨fun hi => ?_, fun hi => ?_⟩
  · refine oc_at (e.ext x1) i0 (by omega) fun p c _ hc => ?_
    have hbl := Oc.bytes_len (h300 c (List.mem_of_getElem? hc))
    refine newTV_in fun h2 v2 x2 s2 => put_n (t0 := Oc.zero.tv) v2 (t := c.tv) rfl rfl fun h3 v3 f3 s3 => v_oc v3 ?_
    have x13 : Ext h1 h3 := Only.cut x2 f3 fun i hi => by omega
    refine text_spec (c := c) fun h4 x4 => ⟨_, rfl, docdecode3_spec hbl fun h5 b5 e5 x5 => ⟨_, _, _, _, _, _, _, _, rfl, ?_⟩⟩
    refine newTV_in fun h6 v6 x6 s6 => put_n (t0 := zeroM.tv) v6 (t := ((dmOf c.bytes).ms b5).tv) mssz1 mssz fun h7 v7 f7 s7 => ?_
    have x57 : Ext h5 h7 := Only.cut x6 f7 fun i hi => by omega
    have x37 := (x4.trans x5).trans x57
    have v37 := v3.ext x37
    have e57 := e5.ext x57
    refine ⟨i0, by omega, ?_⟩
    have hin : i.toNat ≤ (ocs l).length := by rw [List.length_map]; omega
    have ec7 := cut_prefix (((e.ext x1).ext x13).ext x37) hin
    have etk : (ocs l).take i.toNat = ocs (l.take i.toNat) := by rw [ocs, ocs, List.map_take]
    rw [etk] at ec7
    have hlk := ec7.len
    rw [List.length_map] at hlk
    have hlt : (l.take i.toNat).length = i.toNat := by rw [List.length_take]; omega
    refine ⟨fun σ hh => 0 ≤ σ.2 ∧ σ.2 ≤ i ∧ Ext h7 hh ∧ ∀ b ∈ ((l.take i.toNat).take σ.2.toNat).map Oc.bytes, Dist c.bytes b, fun σ _ => (i - σ.2).toNat, ⟨Int.le_refl 0, by first | omega | (dsimp only; omega), Ext.refl _, fun a ha => by simp at ha⟩, ?_⟩
    rintro ⟨f2, j⟩ h8 ⟨j0, j1, x8, nd⟩
    dsimp only at j0 j1 nd ⊢
    have x018 := ((x1.trans x13).trans x37).trans x8
    refine If.dec.2 ⟨fun hj => ?_, fun hj => ?_⟩
    · have hji : j < i := by omega
      refine oc_at (ec7.ext x8) j0 (by omega) fun p2 c2 _ hc2 => ?_
      have hbl2 := Oc.bytes_len (h300 c2 (List.take_subset _ _ (List.mem_of_getElem? hc2)))
      refine newTV_in fun h9 v9 x9 s9 => put_n (t0 := Oc.zero.tv) v9 (t := c2.tv) rfl rfl fun h10 v10 f10 s10 => v_oc v10 ?_
      have x810 : Ext h8 h10 := Only.cut x9 f10 fun i hi => by omega
      refine text_spec (c := c2) fun h11 x11 => ⟨_, rfl, docdecode3_spec hbl2 fun h12 b12 e12 x12 => ⟨_, _, _, _, _, _, _, _, rfl, ?_⟩⟩
      refine newTV_in fun h13 v13 x13' s13 => put_n (t0 := zeroM.tv) v13 (t := ((dmOf c2.bytes).ms b12).tv) mssz1 mssz fun h14 v14 f14 s14 => ?_
      have x1214 : Ext h12 h14 := Only.cut x13' f14 fun i hi => by omega
      have x1014 := (x11.trans x12).trans x1214
      have x814 := x810.trans x1014
      have e1214 := e12.ext x1214
      have step : ∀ hh, Ext h14 hh → Dist c.bytes c2.bytes → (0 ≤ IntKind.wrap .i64 (j + 1) ∧ IntKind.wrap .i64 (j + 1) ≤ i ∧ Ext h7 hh ∧ ∀ b ∈ ((l.take i.toNat).take (IntKind.wrap .i64 (j + 1)).toNat).map Oc.bytes, Dist c.bytes b) ∧ (i - IntKind.wrap .i64 (j + 1)).toNat < (i - j).toNat := by
        intro hh xh hd
        rw [wrap_i64 (n := j + 1) (by omega) (by omega)]
        refine ⟨⟨by omega, by omega, (x8.trans x814).trans xh, ?_⟩, by omega⟩
        rw [show (j + 1).toNat = j.toNat + 1 by omega, take_snoc hc2, List.map_append]
        intro b hb
        rcases List.mem_append.1 hb with h1' | h1'
        · exact nd b h1'
        · rw [List.map_singleton, List.mem_singleton] at h1'
          rw [h1']; exact hd
      refine If.split (fun q1 => If.split (fun q2 => ?_) fun q2 => ?_) fun q1 => ?_
      · refine v_oc ((v37.ext x8).ext x814) (v_oc (v10.ext x1014) ?_)
        refine text_spec (c := c) fun h15 x15 => ⟨_, rfl, x15, text_spec (c := c2) fun h16 x16 => ⟨_, rfl, ?_⟩⟩
        have x1416 := x15.trans x16
        obtain ⟨u, hu⟩ : ∃ u, u = nameF ((dmOf c.bytes).ms Sl.nil) (dmOf c.bytes).row := ⟨_, rfl⟩
        obtain ⟨u2, hu2⟩ : ∃ u, u = nameF ((dmOf c2.bytes).ms Sl.nil) (dmOf c2.bytes).row := ⟨_, rfl⟩
        refine If.split (fun qt => ?_) fun qt => step h16 x1416 ?_
        · refine ms_at (((v7.ext x8).ext x814).ext x1416) (ms_at (v14.ext x1416) ?_)
          refine dec_name (s := c.bytes) (b := b5) hu q1 (((e57.ext x8).ext x814).ext x1416) fun h17 x17 => ⟨_, rfl, x17, dec_name (s := c2.bytes) (b := b12) hu2 q2 ((e1214.ext x1416).ext x17) fun h18 x18 => ⟨_, rfl, ?_⟩⟩
          have x1418 := (x1416.trans x17).trans x18
          refine If.dec.2 ⟨fun _ => hy h18 (x018.trans (x814.trans x1418)), fun hne => step h18 x1418 ?_⟩
          intro d1 d1' h1' h2' he
          refine absurd ?_ hne
          rw [hu, hu2, dmOf_some h1', dmOf_some h2', he]
        · have : c.bytes = c2.bytes := by simpa using qt
          rw [this]
          exact Dist.refl _
      · refine step h14 (Ext.refl _) fun d1 d2 _ h2' => ?_
        rw [h2'] at q2; cases q2
      · refine step h14 (Ext.refl _) fun d1 d2 h1' _ => ?_
        rw [h1'] at q1; cases q1
    · rw [wrap_i64 (n := i + 1) (by omega) (by omega)]
      refine ⟨⟨by first | omega | (dsimp only; omega), by first | omega | (dsimp only; omega), x018, ?_⟩, by first | omega | (dsimp only; omega)⟩
      try dsimp only
      rw [show (i + 1).toNat = i.toNat + 1 by omega, take_snoc hc, List.map_append, List.map_singleton]
      refine nt.snoc fun b hb => nd b ?_
      rw [List.take_of_length_le (by omega)]
      exact hb
  · rw [List.take_of_length_le (by omega)] at nt
    exact hn h1 x1 nt

end
end Go.Proofs.YtldocdpdjdekiaaGreat.Pool
end

section
/- Part of what stood: all but some blocks are holes. -/
namespace Go.Vc
open Go

open Classical in
/-- What stands in some blocks, and holes elsewhere. -/
noncomputable def keeps (S : Nat → Prop) (h : Heap) : Heap := h.mapIdx fun i o => if S i then o else hole

theorem keeps_in {S : Nat → Prop} {h : Heap} {b : Nat} (s : S b) : (keeps S h)[b]? = h[b]? := by
  unfold keeps
  rw [Array.getElem?_mapIdx]
  cases h[b]? with
  | none => rfl
  | some o => simp [s]

theorem keeps_out {S : Nat → Prop} {h : Heap} {b : Nat} {o : Obj} (s : ¬ S b) (hb : (keeps S h)[b]? = some o) : o = hole := by
  unfold keeps at hb
  rw [Array.getElem?_mapIdx] at hb
  cases hx : h[b]? with
  | none => rw [hx] at hb; cases hb
  | some x => rw [hx] at hb; simp [s] at hb; exact hb.symm

theorem keeps_size {S : Nat → Prop} {h : Heap} : (keeps S h).size = h.size := by simp [keeps]

theorem keeps_sub {S : Nat → Prop} {h h' : Heap} (e : ∀ b, S b → b < h.size → h'[b]? = h[b]?) : Sub (keeps S h) h' := ⟨fun b o hb hn => by
  by_cases s : S b
  · rw [keeps_in s] at hb
    rw [e b s (Array.getElem?_eq_some_iff.1 hb).1, hb]
  · exact absurd (keeps_out s hb) hn⟩

theorem keeps_only {S : Nat → Prop} {h : Heap} : Only (fun i => ¬ S i) h (keeps S h) := ⟨by rw [keeps_size]; exact Nat.le_refl _, fun b _ hn => keeps_in (Classical.not_not.1 hn)⟩
theorem keeps_of {S Q : Nat → Prop} {h h' : Heap} (o : Only Q h h') (q : ∀ i, S i → ¬ Q i) : Sub (keeps S h) h' := keeps_sub fun b s hb => o.same b hb (q b s)
theorem keeps_refl {S : Nat → Prop} {h : Heap} : Sub (keeps S h) h := keeps_sub fun _ _ _ => rfl
theorem Var.keeps {T : TypeId} {S : Nat → Prop} {h : Heap} {b : Nat} {t : TV} (v : Var T h b t) (s : S b) : Var T (keeps S h) b t := (keeps_in s).trans v
/-- One block alone. -/
theorem lone_sub {T : TypeId} {h h' : Heap} {b : Nat} {t : TV} (v : Var T h b t) (v' : Var T h' b t) : Sub (Vc.keeps (· = b) h) h' := keeps_sub fun i s _ => by subst s; exact v'.trans v.symm

end Go.Vc
end
