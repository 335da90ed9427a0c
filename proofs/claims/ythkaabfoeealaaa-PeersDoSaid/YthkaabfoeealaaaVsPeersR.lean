/- The conditions of functions, as the generator reckons them out, each with the proof that it is that. -/
import Derived.Test.YthkaabfoeealaaaCtx
namespace Go.Proofs.Ythkaabfoeealaaa
open Go Go.Vc
set_option maxRecDepth 100000
set_option linter.unusedVariables false

def tollerref18_New_vc (most : Int) (ban : Int) (decay : Int) (h : Heap) (R : Value → Heap → Prop) : Prop :=
 If (decide ((1 : Int) ≤ most))
 (If (decide (most ≤ (16 : Int)))
 (If (decide ((1 : Int) ≤ ban))
 (If (decide (ban ≤ (1048576 : Int)))
 (If (decide ((1 : Int) ≤ decay))
 (R (TV.val (TV.tup [TV.ptr (some (Loc.mk (Array.size h) (0 : Nat))), TV.bool (decide (decay ≤ (1048576 : Int)))]))
 (newTV h
 (TV.agg
 [TV.slice Sl.nil, TV.slice Sl.nil, TV.int IntKind.i64 most, TV.int IntKind.i64 ban, TV.int IntKind.i64 decay, TV.int IntKind.i64 (0 : Int)])
 (41 : Nat)))
 (R (TV.val (TV.tup [TV.ptr (some (Loc.mk (Array.size h) (0 : Nat))), TV.bool false]))
 (newTV h
 (TV.agg
 [TV.slice Sl.nil, TV.slice Sl.nil, TV.int IntKind.i64 most, TV.int IntKind.i64 ban, TV.int IntKind.i64 decay, TV.int IntKind.i64 (0 : Int)])
 (41 : Nat))))
 (R (TV.val (TV.tup [TV.ptr (some (Loc.mk (Array.size h) (0 : Nat))), TV.bool false]))
 (newTV h
 (TV.agg [TV.slice Sl.nil, TV.slice Sl.nil, TV.int IntKind.i64 most, TV.int IntKind.i64 ban, TV.int IntKind.i64 decay, TV.int IntKind.i64 (0 : Int)])
 (41 : Nat))))
 (R (TV.val (TV.tup [TV.ptr (some (Loc.mk (Array.size h) (0 : Nat))), TV.bool false]))
 (newTV h
 (TV.agg [TV.slice Sl.nil, TV.slice Sl.nil, TV.int IntKind.i64 most, TV.int IntKind.i64 ban, TV.int IntKind.i64 decay, TV.int IntKind.i64 (0 : Int)])
 (41 : Nat))))
 (R (TV.val (TV.tup [TV.ptr (some (Loc.mk (Array.size h) (0 : Nat))), TV.bool false]))
 (newTV h
 (TV.agg [TV.slice Sl.nil, TV.slice Sl.nil, TV.int IntKind.i64 most, TV.int IntKind.i64 ban, TV.int IntKind.i64 decay, TV.int IntKind.i64 (0 : Int)])
 (41 : Nat))))
 (R (TV.val (TV.tup [TV.ptr (some (Loc.mk (Array.size h) (0 : Nat))), TV.bool false]))
 (newTV h
 (TV.agg [TV.slice Sl.nil, TV.slice Sl.nil, TV.int IntKind.i64 most, TV.int IntKind.i64 ban, TV.int IntKind.i64 decay, TV.int IntKind.i64 (0 : Int)])
 (41 : Nat)))

theorem tollerref18_New_calls (most : Int) (ban : Int) (decay : Int) (h : Heap) (R : Value → Heap → Prop) (H : tollerref18_New_vc most ban decay h R) : CallsH Try.prog 17 (TVs.vals [TV.int IntKind.i64 most, TV.int IntKind.i64 ban, TV.int IntKind.i64 decay]) h R :=
 vcFn_sound (C := ctx) ctx_ok (fn := Try.f17) Try.func17 ((by kernel_rfl : tollerref18_New_vc most ban decay h R = vcFn ctx Try.f17 [TV.int IntKind.i64 most, TV.int IntKind.i64 ban, TV.int IntKind.i64 decay] h R) ▸ H)


def tollerref18_Peers_Tick_vc (p : Option Go.Vc.Loc) (h : Heap) (R : Value → Heap → Prop) : Prop :=
 Nn p fun (l : Go.Vc.Loc) ↦
 ∃ (s : Sl),
 at1 h l.b l.o (slVal s) ∧
 Go.Vc.Loop (IntKind.wrap IntKind.i64 ((↑s.len : Int) - (1 : Int))) h fun (s : Int) (h : Array Obj) (K : Int → Array Obj → Prop) ↦
 If (decide ((0 : Int) ≤ s))
 (Nn p fun (l : Go.Vc.Loc) ↦
 ∃ (s_1 : Sl),
 at1 h l.b (l.o + (1 : Nat)) (slVal s_1) ∧
 Nn p fun (l : Go.Vc.Loc) ↦
 ∃ (s_2 : Sl),
 at1 h l.b (l.o + (1 : Nat)) (slVal s_2) ∧
 (0 : Int) ≤ s ∧
 s < (↑s_2.len : Int) ∧
 Nn s_2.a fun (l : Go.Vc.Loc) ↦
 ∃ (n : Int),
 at1 h l.b (l.o + Int.toNat s * (1 : Nat)) (Value.int IntKind.i64 n) ∧
 Nn p fun (l : Go.Vc.Loc) ↦
 ∃ (n_1 : Int),
 at1 h l.b (l.o + (4 : Nat)) (Value.int IntKind.i64 n_1) ∧
 (0 : Int) ≤ s ∧
 s < (↑s_1.len : Int) ∧
 Nn s_1.a fun (l : Go.Vc.Loc) ↦
 wok h l.b (l.o + Int.toNat s * (1 : Nat)) (1 : Nat) ∧
 Nn p fun (l_1 : Go.Vc.Loc) ↦
 ∃ (s_3 : Sl),
 at1 (TV.put h l.b (l.o + Int.toNat s * (1 : Nat)) (TV.int IntKind.i64 (IntKind.wrap IntKind.i64 (n + n_1))))
 l_1.b (l_1.o + (1 : Nat)) (slVal s_3) ∧
 (0 : Int) ≤ s ∧
 s < (↑s_3.len : Int) ∧
 Nn s_3.a fun (l_2 : Go.Vc.Loc) ↦
 ∃ (n_2 : Int),
 at1
 (TV.put h l.b (l.o + Int.toNat s * (1 : Nat))
 (TV.int IntKind.i64 (IntKind.wrap IntKind.i64 (n + n_1))))
 l_2.b (l_2.o + Int.toNat s * (1 : Nat)) (Value.int IntKind.i64 n_2) ∧
 If (decide ((0 : Int) ≤ n_2))
 (CallsH Try.prog (28 : Nat) (TVs.vals [TV.ptr p, TV.int IntKind.i64 s])
 (TV.put h l.b (l.o + Int.toNat s * (1 : Nat))
 (TV.int IntKind.i64 (IntKind.wrap IntKind.i64 (n + n_1))))
 fun (v : Value) (h : Heap) ↦
 v = TV.val (TV.tup []) ∧ K (IntKind.wrap IntKind.i64 (s - (1 : Int))) h)
 (K (IntKind.wrap IntKind.i64 (s - (1 : Int)))
 (TV.put h l.b (l.o + Int.toNat s * (1 : Nat))
 (TV.int IntKind.i64 (IntKind.wrap IntKind.i64 (n + n_1))))))
 (R (TV.val (TV.tup [])) h)

theorem tollerref18_Peers_Tick_calls (p : Option Go.Vc.Loc) (h : Heap) (R : Value → Heap → Prop) (H : tollerref18_Peers_Tick_vc p h R) : CallsH Try.prog 18 (TVs.vals [TV.ptr p]) h R :=
 vcFn_sound (C := ctx) ctx_ok (fn := Try.f18) Try.func18 ((by kernel_rfl : tollerref18_Peers_Tick_vc p h R = vcFn ctx Try.f18 [TV.ptr p] h R) ▸ H)


def tollerref18_Peers_Fail_vc (p : Option Go.Vc.Loc) (peer : Int) (points : Int) (h : Heap) (R : Value → Heap → Prop) : Prop :=
 If (decide (points ≤ (0 : Int))) (R (TV.val (TV.tup [])) h)
 (Join
 (fun (s : PUnit) (h : Array Obj) ↦
 CallsH Try.prog (29 : Nat) (TVs.vals [TV.ptr p, TV.int IntKind.i64 peer]) h fun (v : Value) (h : Array Obj) ↦
 ∃ (n : Int),
 v = TV.val (TV.int IntKind.i64 n) ∧
 Nn p fun (l : Go.Vc.Loc) ↦
 ∃ (s : Sl),
 at1 h l.b (l.o + (1 : Nat)) (slVal s) ∧
 (0 : Int) ≤ n ∧
 n < (↑s.len : Int) ∧
 Nn s.a fun (l : Go.Vc.Loc) ↦
 ∃ (n_1 : Int),
 at1 h l.b (l.o + Int.toNat n * (1 : Nat)) (Value.int IntKind.i64 n_1) ∧
 If (decide (IntKind.wrap IntKind.i64 ((1048576 : Int) + n_1) ≤ points))
 (Nn p fun (l : Go.Vc.Loc) ↦
 ∃ (s : Sl),
 at1 h l.b (l.o + (1 : Nat)) (slVal s) ∧
 (0 : Int) ≤ n ∧
 n < (↑s.len : Int) ∧
 Nn s.a fun (l : Go.Vc.Loc) ↦
 wok h l.b (l.o + Int.toNat n * (1 : Nat)) (1 : Nat) ∧
 R (TV.val (TV.tup [])) (TV.put h l.b (l.o + Int.toNat n * (1 : Nat)) (TV.int IntKind.i64 (-1048576 : Int))))
 (Nn p fun (l : Go.Vc.Loc) ↦
 ∃ (s : Sl),
 at1 h l.b (l.o + (1 : Nat)) (slVal s) ∧
 Nn p fun (l : Go.Vc.Loc) ↦
 ∃ (s_1 : Sl),
 at1 h l.b (l.o + (1 : Nat)) (slVal s_1) ∧
 (0 : Int) ≤ n ∧
 n < (↑s_1.len : Int) ∧
 Nn s_1.a fun (l : Go.Vc.Loc) ↦
 ∃ (n_2 : Int),
 at1 h l.b (l.o + Int.toNat n * (1 : Nat)) (Value.int IntKind.i64 n_2) ∧
 (0 : Int) ≤ n ∧
 n < (↑s.len : Int) ∧
 Nn s.a fun (l : Go.Vc.Loc) ↦
 wok h l.b (l.o + Int.toNat n * (1 : Nat)) (1 : Nat) ∧
 R (TV.val (TV.tup []))
 (TV.put h l.b (l.o + Int.toNat n * (1 : Nat))
 (TV.int IntKind.i64 (IntKind.wrap IntKind.i64 (n_2 - points))))))
 fun (J : PUnit → Array Obj → Prop) ↦
 CallsH Try.prog (29 : Nat) (TVs.vals [TV.ptr p, TV.int IntKind.i64 peer]) h fun (v : Value) (h : Heap) ↦
 ∃ (n : Int),
 v = TV.val (TV.int IntKind.i64 n) ∧
 If (decide (n < (0 : Int)))
 (Join
 (fun (s : PUnit) (h : Array Obj) ↦
 Nn p fun (l : Go.Vc.Loc) ↦
 ∃ (s : Sl),
 at1 h l.b l.o (slVal s) ∧
 ∃ (new : List Value),
 slAt (Array.push h (row (TVs.cells [TV.int IntKind.i64 peer]) (3 : Nat)))
 (Sl.mk (some (Loc.mk (Array.size h) (0 : Nat))) (1 : Nat) (1 : Nat)) (1 : Nat) new ∧
 (∀ (v : Value), v ∈ new → isOne v = true) ∧
 vcAppend Ythkaabfoeealaaa.ctx (3 : Nat) s (1 : Nat) new (Array.push h (row (TVs.cells [TV.int IntKind.i64 peer]) (3 : Nat)))
 fun (s : Sl) (h : Array Obj) ↦
 Nn p fun (l : Go.Vc.Loc) ↦
 wok h l.b l.o (1 : Nat) ∧
 Nn p fun (l_1 : Go.Vc.Loc) ↦
 ∃ (s_1 : Sl),
 at1 (TV.put h l.b l.o (TV.slice s)) l_1.b (l_1.o + (1 : Nat)) (slVal s_1) ∧
 ∃ (new : List Value),
 slAt (Array.push (TV.put h l.b l.o (TV.slice s)) (row (TVs.cells [TV.int IntKind.i64 (0 : Int)]) (3 : Nat)))
 (Sl.mk (some (Loc.mk (Array.size (TV.put h l.b l.o (TV.slice s))) (0 : Nat))) (1 : Nat) (1 : Nat)) (1 : Nat) new ∧
 (∀ (v : Value), v ∈ new → isOne v = true) ∧
 vcAppend Ythkaabfoeealaaa.ctx (3 : Nat) s_1 (1 : Nat) new
 (Array.push (TV.put h l.b l.o (TV.slice s)) (row (TVs.cells [TV.int IntKind.i64 (0 : Int)]) (3 : Nat)))
 fun (s : Sl) (h : Array Obj) ↦
 Nn p fun (l : Go.Vc.Loc) ↦
 wok h l.b (l.o + (1 : Nat)) (1 : Nat) ∧ J PUnit.unit (TV.put h l.b (l.o + (1 : Nat)) (TV.slice s)))
 fun (J : PUnit → Array Obj → Prop) ↦
 Nn p fun (l : Go.Vc.Loc) ↦
 ∃ (s : Sl),
 at1 h l.b l.o (slVal s) ∧
 Nn p fun (l : Go.Vc.Loc) ↦
 ∃ (n : Int),
 at1 h l.b (l.o + (2 : Nat)) (Value.int IntKind.i64 n) ∧
 If (decide (n ≤ (↑s.len : Int)))
 (Nn p fun (l : Go.Vc.Loc) ↦
 ∃ (s : Sl),
 at1 h l.b l.o (slVal s) ∧
 Go.Vc.Loop ((0 : Int), (0 : Int)) h fun (s_1 : Int × Int) (h : Array Obj) (K : Int × Int → Array Obj → Prop) ↦
 If (decide (s_1.snd < (↑s.len : Int)))
 (Nn p fun (l : Go.Vc.Loc) ↦
 ∃ (s : Sl),
 at1 h l.b (l.o + (1 : Nat)) (slVal s) ∧
 (0 : Int) ≤ s_1.snd ∧
 s_1.snd < (↑s.len : Int) ∧
 Nn s.a fun (l : Go.Vc.Loc) ↦
 ∃ (n : Int),
 at1 h l.b (l.o + Int.toNat s_1.snd * (1 : Nat)) (Value.int IntKind.i64 n) ∧
 Nn p fun (l : Go.Vc.Loc) ↦
 ∃ (s : Sl),
 at1 h l.b (l.o + (1 : Nat)) (slVal s) ∧
 (0 : Int) ≤ s_1.fst ∧
 s_1.fst < (↑s.len : Int) ∧
 Nn s.a fun (l : Go.Vc.Loc) ↦
 ∃ (n_1 : Int),
 at1 h l.b (l.o + Int.toNat s_1.fst * (1 : Nat)) (Value.int IntKind.i64 n_1) ∧
 If (decide (n < n_1)) (K (s_1.snd, IntKind.wrap IntKind.i64 (s_1.snd + (1 : Int))) h)
 (Nn p fun (l : Go.Vc.Loc) ↦
 ∃ (s : Sl),
 at1 h l.b (l.o + (1 : Nat)) (slVal s) ∧
 (0 : Int) ≤ s_1.snd ∧
 s_1.snd < (↑s.len : Int) ∧
 Nn s.a fun (l : Go.Vc.Loc) ↦
 ∃ (n : Int),
 at1 h l.b (l.o + Int.toNat s_1.snd * (1 : Nat))
 (Value.int IntKind.i64 n) ∧
 Nn p fun (l : Go.Vc.Loc) ↦
 ∃ (s : Sl),
 at1 h l.b (l.o + (1 : Nat)) (slVal s) ∧
 (0 : Int) ≤ s_1.fst ∧
 s_1.fst < (↑s.len : Int) ∧
 Nn s.a fun (l : Go.Vc.Loc) ↦
 ∃ (n_2 : Int),
 at1 h l.b (l.o + Int.toNat s_1.fst * (1 : Nat))
 (Value.int IntKind.i64 n_2) ∧
 If (decide (n = n_2))
 (Nn p fun (l : Go.Vc.Loc) ↦
 ∃ (s : Sl),
 at1 h l.b l.o (slVal s) ∧
 (0 : Int) ≤ s_1.snd ∧
 s_1.snd < (↑s.len : Int) ∧
 Nn s.a fun (l : Go.Vc.Loc) ↦
 ∃ (n : Int),
 at1 h l.b
 (l.o +
 Int.toNat s_1.snd * (1 : Nat))
 (Value.int IntKind.i64 n) ∧
 Nn p fun (l : Go.Vc.Loc) ↦
 ∃ (s : Sl),
 at1 h l.b l.o (slVal s) ∧
 (0 : Int) ≤ s_1.fst ∧
 s_1.fst < (↑s.len : Int) ∧
 Nn s.a fun (l : Go.Vc.Loc) ↦
 ∃ (n_3 : Int),
 at1 h l.b
 (l.o +
 Int.toNat
 s_1.fst *
 (1 : Nat))
 (Value.int
 IntKind.i64 n_3) ∧
 If (decide (n < n_3))
 (K
 (s_1.snd,
 IntKind.wrap
 IntKind.i64
 (s_1.snd +
 (1 : Int)))
 h)
 (K
 (s_1.fst,
 IntKind.wrap
 IntKind.i64
 (s_1.snd +
 (1 : Int)))
 h))
 (K
 (s_1.fst,
 IntKind.wrap IntKind.i64 (s_1.snd + (1 : Int)))
 h)))
 (CallsH Try.prog (28 : Nat) (TVs.vals [TV.ptr p, TV.int IntKind.i64 s_1.fst]) h fun (v : Value) (h : Array Obj) ↦
 v = TV.val (TV.tup []) ∧
 Nn p fun (l : Go.Vc.Loc) ↦
 ∃ (n : Int),
 at1 h l.b (l.o + (5 : Nat)) (Value.int IntKind.i64 n) ∧
 Nn p fun (l : Go.Vc.Loc) ↦
 wok h l.b (l.o + (5 : Nat)) (1 : Nat) ∧
 J PUnit.unit
 (TV.put h l.b (l.o + (5 : Nat)) (TV.int IntKind.i64 (IntKind.wrap IntKind.i64 (n + (1 : Int)))))))
 (J PUnit.unit h))
 (J PUnit.unit h))

theorem tollerref18_Peers_Fail_calls (p : Option Go.Vc.Loc) (peer : Int) (points : Int) (h : Heap) (R : Value → Heap → Prop) (H : tollerref18_Peers_Fail_vc p peer points h R) : CallsH Try.prog 19 (TVs.vals [TV.ptr p, TV.int IntKind.i64 peer, TV.int IntKind.i64 points]) h R :=
 vcFn_sound (C := ctx) ctx_ok (fn := Try.f19) Try.func19 ((by kernel_rfl : tollerref18_Peers_Fail_vc p peer points h R = vcFn ctx Try.f19 [TV.ptr p, TV.int IntKind.i64 peer, TV.int IntKind.i64 points] h R) ▸ H)


def tollerref06_Same_vc (a : Sl) (b : Sl) (h : Heap) (R : Value → Heap → Prop) : Prop :=
 If (!decide ((↑a.len : Int) = (↑b.len : Int))) (R (TV.val (TV.bool false)) h)
 (Go.Vc.Loop (false, (0 : Int)) h fun (s : Bool × Int) (h : Array Obj) (K : Bool × Int → Array Obj → Prop) ↦
 If (decide (s.snd < (↑a.len : Int)))
 ((0 : Int) ≤ s.snd ∧
 s.snd < (↑a.len : Int) ∧
 Nn a.a fun (l : Go.Vc.Loc) ↦
 ∃ (n : Int),
 at1 h l.b (l.o + Int.toNat s.snd * (1 : Nat)) (Value.int IntKind.i64 n) ∧
 (0 : Int) ≤ s.snd ∧
 s.snd < (↑b.len : Int) ∧
 Nn b.a fun (l : Go.Vc.Loc) ↦
 ∃ (n_1 : Int),
 at1 h l.b (l.o + Int.toNat s.snd * (1 : Nat)) (Value.int IntKind.i64 n_1) ∧
 If (!decide (n = n_1)) (R (TV.val (TV.bool false)) h) (K (s.fst, IntKind.wrap IntKind.i64 (s.snd + (1 : Int))) h))
 (R (TV.val (TV.bool true)) h))

theorem tollerref06_Same_calls (a : Sl) (b : Sl) (h : Heap) (R : Value → Heap → Prop) (H : tollerref06_Same_vc a b h R) : CallsH Try.prog 20 (TVs.vals [TV.slice a, TV.slice b]) h R :=
 vcFn_sound (C := ctx) ctx_ok (fn := Try.f20) Try.func20 ((by kernel_rfl : tollerref06_Same_vc a b h R = vcFn ctx Try.f20 [TV.slice a, TV.slice b] h R) ▸ H)


def tollerref18_Peers_Known_vc (p : Option Go.Vc.Loc) (h : Heap) (R : Value → Heap → Prop) : Prop :=
 Nn p fun (l : Go.Vc.Loc) ↦
 ∃ (s : Sl),
 at1 h l.b l.o (slVal s) ∧
 Go.Vc.Loop (Sl.mk none (0 : Nat) (0 : Nat), (0 : Int)) h fun (s_1 : Sl × Int) (h : Array Obj) (K : Sl × Int → Array Obj → Prop) ↦
 If (decide (s_1.snd < (↑s.len : Int)))
 ((0 : Int) ≤ s_1.snd ∧
 s_1.snd < (↑s.len : Int) ∧
 Nn s.a fun (l : Go.Vc.Loc) ↦
 ∃ (n : Int),
 at1 h l.b (l.o + Int.toNat s_1.snd * (1 : Nat)) (Value.int IntKind.i64 n) ∧
 Go.Vc.Loop (0 : Int) h fun (s : Int) (h : Array Obj) (K_1 : Int → Array Obj → Prop) ↦
 If (decide (s < (↑s_1.fst.len : Int)))
 ((0 : Int) ≤ s ∧
 s < (↑s_1.fst.len : Int) ∧
 Nn s_1.fst.a fun (l : Go.Vc.Loc) ↦
 ∃ (n_1 : Int),
 at1 h l.b (l.o + Int.toNat s * (1 : Nat)) (Value.int IntKind.i64 n_1) ∧
 If (decide (n_1 < n)) (K_1 (IntKind.wrap IntKind.i64 (s + (1 : Int))) h)
 ((0 : Int) ≤ s ∧
 s ≤ (↑s_1.fst.cap : Int) ∧
 (0 : Int) ≤ s ∧
 s ≤ s ∧
 (0 : Int) ≤ s ∧
 s ≤ (↑s_1.fst.len : Int) ∧
 ∃ (new : List Value),
 slAt (Array.push h (row (TVs.cells [TV.int IntKind.i64 n]) (3 : Nat)))
 (cutSl s_1.fst (Int.toNat s) s_1.fst.len (1 : Nat)) (1 : Nat) new ∧
 (∀ (v : Value), v ∈ new → isOne v = true) ∧
 vcAppend Ythkaabfoeealaaa.ctx (3 : Nat)
 (Sl.mk (some (Loc.mk (Array.size h) (0 : Nat))) (1 : Nat) (1 : Nat))
 (cutSl s_1.fst (Int.toNat s) s_1.fst.len (1 : Nat)).len new
 (Array.push h (row (TVs.cells [TV.int IntKind.i64 n]) (3 : Nat))) fun (s_2 : Sl) (h : Array Obj) ↦
 ∃ (new : List Value),
 slAt h s_2 (1 : Nat) new ∧
 (∀ (v : Value), v ∈ new → isOne v = true) ∧
 vcAppend Ythkaabfoeealaaa.ctx (3 : Nat)
 (cutSl (Sl.mk s_1.fst.a s_1.fst.len (Int.toNat s)) (0 : Nat) (Int.toNat s) (1 : Nat)) s_2.len
 new h fun (s : Sl) (h : Array Obj) ↦ K (s, IntKind.wrap IntKind.i64 (s_1.snd + (1 : Int))) h))
 ((0 : Int) ≤ s ∧
 s ≤ (↑s_1.fst.cap : Int) ∧
 (0 : Int) ≤ s ∧
 s ≤ s ∧
 (0 : Int) ≤ s ∧
 s ≤ (↑s_1.fst.len : Int) ∧
 ∃ (new : List Value),
 slAt (Array.push h (row (TVs.cells [TV.int IntKind.i64 n]) (3 : Nat))) (cutSl s_1.fst (Int.toNat s) s_1.fst.len (1 : Nat))
 (1 : Nat) new ∧
 (∀ (v : Value), v ∈ new → isOne v = true) ∧
 vcAppend Ythkaabfoeealaaa.ctx (3 : Nat) (Sl.mk (some (Loc.mk (Array.size h) (0 : Nat))) (1 : Nat) (1 : Nat))
 (cutSl s_1.fst (Int.toNat s) s_1.fst.len (1 : Nat)).len new
 (Array.push h (row (TVs.cells [TV.int IntKind.i64 n]) (3 : Nat))) fun (s_2 : Sl) (h : Array Obj) ↦
 ∃ (new : List Value),
 slAt h s_2 (1 : Nat) new ∧
 (∀ (v : Value), v ∈ new → isOne v = true) ∧
 vcAppend Ythkaabfoeealaaa.ctx (3 : Nat)
 (cutSl (Sl.mk s_1.fst.a s_1.fst.len (Int.toNat s)) (0 : Nat) (Int.toNat s) (1 : Nat)) s_2.len new h
 fun (s : Sl) (h : Array Obj) ↦ K (s, IntKind.wrap IntKind.i64 (s_1.snd + (1 : Int))) h))
 (R (TV.val (TV.slice s_1.fst)) h)

theorem tollerref18_Peers_Known_calls (p : Option Go.Vc.Loc) (h : Heap) (R : Value → Heap → Prop) (H : tollerref18_Peers_Known_vc p h R) : CallsH Try.prog 21 (TVs.vals [TV.ptr p]) h R :=
 vcFn_sound (C := ctx) ctx_ok (fn := Try.f21) Try.func21 ((by kernel_rfl : tollerref18_Peers_Known_vc p h R = vcFn ctx Try.f21 [TV.ptr p] h R) ▸ H)


def tollerref18_Peers_Score_vc (p : Option Go.Vc.Loc) (peer : Int) (h : Heap) (R : Value → Heap → Prop) : Prop :=
 CallsH Try.prog (29 : Nat) (TVs.vals [TV.ptr p, TV.int IntKind.i64 peer]) h fun (v : Value) (h : Heap) ↦
 ∃ (n : Int),
 v = TV.val (TV.int IntKind.i64 n) ∧
 If (decide ((0 : Int) ≤ n))
 (Nn p fun (l : Go.Vc.Loc) ↦
 ∃ (s : Sl),
 at1 h l.b (l.o + (1 : Nat)) (slVal s) ∧
 (0 : Int) ≤ n ∧
 n < (↑s.len : Int) ∧
 Nn s.a fun (l : Go.Vc.Loc) ↦
 ∃ (n_1 : Int), at1 h l.b (l.o + Int.toNat n * (1 : Nat)) (Value.int IntKind.i64 n_1) ∧ R (TV.val (TV.int IntKind.i64 n_1)) h)
 (R (TV.val (TV.int IntKind.i64 (0 : Int))) h)

theorem tollerref18_Peers_Score_calls (p : Option Go.Vc.Loc) (peer : Int) (h : Heap) (R : Value → Heap → Prop) (H : tollerref18_Peers_Score_vc p peer h R) : CallsH Try.prog 22 (TVs.vals [TV.ptr p, TV.int IntKind.i64 peer]) h R :=
 vcFn_sound (C := ctx) ctx_ok (fn := Try.f22) Try.func22 ((by kernel_rfl : tollerref18_Peers_Score_vc p peer h R = vcFn ctx Try.f22 [TV.ptr p, TV.int IntKind.i64 peer] h R) ▸ H)


def tollerref18_Peers_Banned_vc (p : Option Go.Vc.Loc) (peer : Int) (h : Heap) (R : Value → Heap → Prop) : Prop :=
 Nn p fun (l : Go.Vc.Loc) ↦
 ∃ (n : Int),
 at1 h l.b (l.o + (3 : Nat)) (Value.int IntKind.i64 n) ∧
 CallsH Try.prog (22 : Nat) (TVs.vals [TV.ptr p, TV.int IntKind.i64 peer]) h fun (v : Value) (h_1 : Heap) ↦
 ∃ (n_1 : Int), v = TV.val (TV.int IntKind.i64 n_1) ∧ Ext h h_1 ∧ R (TV.val (TV.bool (decide (n ≤ IntKind.wrap IntKind.i64 ((0 : Int) - n_1))))) h_1

theorem tollerref18_Peers_Banned_calls (p : Option Go.Vc.Loc) (peer : Int) (h : Heap) (R : Value → Heap → Prop) (H : tollerref18_Peers_Banned_vc p peer h R) : CallsH Try.prog 23 (TVs.vals [TV.ptr p, TV.int IntKind.i64 peer]) h R :=
 vcFn_sound (C := ctx) ctx_ok (fn := Try.f23) Try.func23 ((by kernel_rfl : tollerref18_Peers_Banned_vc p peer h R = vcFn ctx Try.f23 [TV.ptr p, TV.int IntKind.i64 peer] h R) ▸ H)


def tollerref18_Peers_at_vc (p : Option Go.Vc.Loc) (peer : Int) (h : Heap) (R : Value → Heap → Prop) : Prop :=
 Nn p fun (l : Go.Vc.Loc) ↦
 ∃ (s : Sl),
 at1 h l.b l.o (slVal s) ∧
 Go.Vc.Loop ((0 : Int), (0 : Int)) h fun (s_1 : Int × Int) (h : Array Obj) (K : Int × Int → Array Obj → Prop) ↦
 If (decide (s_1.snd < (↑s.len : Int)))
 ((0 : Int) ≤ s_1.snd ∧
 s_1.snd < (↑s.len : Int) ∧
 Nn s.a fun (l : Go.Vc.Loc) ↦
 ∃ (n : Int),
 at1 h l.b (l.o + Int.toNat s_1.snd * (1 : Nat)) (Value.int IntKind.i64 n) ∧
 If (decide (n = peer)) (R (TV.val (TV.int IntKind.i64 s_1.snd)) h) (K (s_1.fst, IntKind.wrap IntKind.i64 (s_1.snd + (1 : Int))) h))
 (R (TV.val (TV.int IntKind.i64 (-1 : Int))) h)

theorem tollerref18_Peers_at_calls (p : Option Go.Vc.Loc) (peer : Int) (h : Heap) (R : Value → Heap → Prop) (H : tollerref18_Peers_at_vc p peer h R) : CallsH Try.prog 29 (TVs.vals [TV.ptr p, TV.int IntKind.i64 peer]) h R :=
 vcFn_sound (C := ctx) ctx_ok (fn := Try.f29) Try.func29 ((by kernel_rfl : tollerref18_Peers_at_vc p peer h R = vcFn ctx Try.f29 [TV.ptr p, TV.int IntKind.i64 peer] h R) ▸ H)


end Go.Proofs.Ythkaabfoeealaaa
