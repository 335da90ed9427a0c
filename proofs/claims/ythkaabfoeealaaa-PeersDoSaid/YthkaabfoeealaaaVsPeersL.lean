/- The conditions of functions, as the generator reckons them out, each with the proof that it is that. -/
import Derived.Test.YthkaabfoeealaaaCtx
namespace Go.Proofs.Ythkaabfoeealaaa
open Go Go.Vc
set_option maxRecDepth 100000
set_option linter.unusedVariables false

def tollerlaw18_PeersBound_vc (most : Int) (ban : Int) (decay : Int) (script : Sl) (h : Heap) (R : Value → Heap → Prop) : Prop :=
 CallsH Try.prog (9 : Nat) (TVs.vals []) h fun (v : Value) (h : Heap) ↦
 ∃ (b : Bool),
 v = TV.val (TV.bool b) ∧
 If (!b) (R (TV.val (TV.bool false)) h)
 (If (decide ((200 : Int) < (↑script.len : Int))) (R (TV.val (TV.bool true)) h)
 (CallsH Try.prog (10 : Nat) (TVs.vals [TV.int IntKind.i64 most, TV.int IntKind.i64 ban, TV.int IntKind.i64 decay]) h fun (v : Value) (h : Heap) ↦
 ∃ (p : Option Go.Vc.Loc),
 v = TV.val (TV.ptr p) ∧
 If (Option.isNone p) (R (TV.val (TV.bool true)) h)
 (Go.Vc.Loop (false, (0 : Int)) h fun (s : Bool × Int) (h : Array Obj) (K : Bool × Int → Array Obj → Prop) ↦
 If (decide (s.snd < (↑script.len : Int)))
 ((0 : Int) ≤ s.snd ∧
 s.snd < (↑script.len : Int) ∧
 Nn script.a fun (l : Go.Vc.Loc) ↦
 ∃ (b : Bool),
 ∃ (n : Int),
 ∃ (n_1 : Int),
 (at1 h l.b (l.o + Int.toNat s.snd * (3 : Nat)) (Value.bool b) ∧
 at1 h l.b (l.o + Int.toNat s.snd * (3 : Nat) + (1 : Nat)) (Value.int IntKind.i64 n) ∧
 at1 h l.b (l.o + Int.toNat s.snd * (3 : Nat) + (1 : Nat) + (1 : Nat)) (Value.int IntKind.i64 n_1)) ∧
 wok (newTV h (TV.agg [TV.bool false, TV.int IntKind.i64 (0 : Int), TV.int IntKind.i64 (0 : Int)]) (27 : Nat)) (Array.size h)
 (0 : Nat) (Nat.succ (Nat.add (1 : Nat) (1 : Nat))) ∧
 Join
 (fun (s_1 : PUnit) (h : Array Obj) ↦
 CallsH Try.prog (13 : Nat) (TVs.vals [TV.ptr p]) h fun (v : Value) (h : Array Obj) ↦
 ∃ (s_2 : Sl),
 v = TV.val (TV.slice s_2) ∧
 If (decide (most < (↑s_2.len : Int))) (R (TV.val (TV.bool false)) h)
 (Go.Vc.Loop (s.1, (0 : Int)) h fun (s_3 : Bool × Int) (h : Array Obj) (K_1 : Bool × Int → Array Obj → Prop) ↦
 If (decide (s_3.snd < (↑s_2.len : Int)))
 ((0 : Int) ≤ s_3.snd ∧
 s_3.snd < (↑s_2.len : Int) ∧
 Nn s_2.a fun (l : Go.Vc.Loc) ↦
 ∃ (n : Int),
 at1 h l.b (l.o + Int.toNat s_3.snd * (1 : Nat)) (Value.int IntKind.i64 n) ∧
 CallsH Try.prog (14 : Nat) (TVs.vals [TV.ptr p, TV.int IntKind.i64 n]) h
 fun (v : Value) (h : Array Obj) ↦
 ∃ (n_2 : Int),
 v = TV.val (TV.int IntKind.i64 n_2) ∧
 If (decide ((0 : Int) ≤ n_2)) (R (TV.val (TV.bool false)) h)
 (If (decide (n_2 < (-1048576 : Int))) (R (TV.val (TV.bool false)) h)
 (If (decide ((0 : Int) < s_3.snd))
 ((0 : Int) ≤ IntKind.wrap IntKind.i64 (s_3.snd - (1 : Int)) ∧
 IntKind.wrap IntKind.i64 (s_3.snd - (1 : Int)) < (↑s_2.len : Int) ∧
 Nn s_2.a fun (l : Go.Vc.Loc) ↦
 ∃ (n_3 : Int),
 at1 h l.b
 (l.o +
 Int.toNat (IntKind.wrap IntKind.i64 (s_3.snd - (1 : Int))) *
 (1 : Nat))
 (Value.int IntKind.i64 n_3) ∧
 If (decide (n ≤ n_3)) (R (TV.val (TV.bool false)) h)
 (K_1 (s_3.fst, IntKind.wrap IntKind.i64 (s_3.snd + (1 : Int))) h))
 (K_1 (s_3.fst, IntKind.wrap IntKind.i64 (s_3.snd + (1 : Int))) h))))
 (K (s_3.fst, IntKind.wrap IntKind.i64 (s.snd + (1 : Int))) h)))
 fun (J : PUnit → Array Obj → Prop) ↦
 ∃ (b_1 : Bool),
 at1
 (TV.put (newTV h (TV.agg [TV.bool false, TV.int IntKind.i64 (0 : Int), TV.int IntKind.i64 (0 : Int)]) (27 : Nat))
 (Array.size h) (0 : Nat) (TV.agg [TV.bool b, TV.int IntKind.i64 n, TV.int IntKind.i64 n_1]))
 (Array.size h) (0 : Nat) (Value.bool b_1) ∧
 If b_1
 (CallsH Try.prog (11 : Nat) (TVs.vals [TV.ptr p])
 (TV.put
 (newTV h (TV.agg [TV.bool false, TV.int IntKind.i64 (0 : Int), TV.int IntKind.i64 (0 : Int)]) (27 : Nat))
 (Array.size h) (0 : Nat) (TV.agg [TV.bool b, TV.int IntKind.i64 n, TV.int IntKind.i64 n_1]))
 fun (v : Value) (h : Heap) ↦ v = TV.val (TV.tup []) ∧ J PUnit.unit h)
 (∃ (n_2 : Int),
 at1
 (TV.put
 (newTV h (TV.agg [TV.bool false, TV.int IntKind.i64 (0 : Int), TV.int IntKind.i64 (0 : Int)]) (27 : Nat))
 (Array.size h) (0 : Nat) (TV.agg [TV.bool b, TV.int IntKind.i64 n, TV.int IntKind.i64 n_1]))
 (Array.size h) (1 : Nat) (Value.int IntKind.i64 n_2) ∧
 ∃ (n_3 : Int),
 at1
 (TV.put
 (newTV h (TV.agg [TV.bool false, TV.int IntKind.i64 (0 : Int), TV.int IntKind.i64 (0 : Int)])
 (27 : Nat))
 (Array.size h) (0 : Nat) (TV.agg [TV.bool b, TV.int IntKind.i64 n, TV.int IntKind.i64 n_1]))
 (Array.size h) (2 : Nat) (Value.int IntKind.i64 n_3) ∧
 CallsH Try.prog (12 : Nat) (TVs.vals [TV.ptr p, TV.int IntKind.i64 n_2, TV.int IntKind.i64 n_3])
 (TV.put
 (newTV h (TV.agg [TV.bool false, TV.int IntKind.i64 (0 : Int), TV.int IntKind.i64 (0 : Int)])
 (27 : Nat))
 (Array.size h) (0 : Nat) (TV.agg [TV.bool b, TV.int IntKind.i64 n, TV.int IntKind.i64 n_1]))
 fun (v : Value) (h : Heap) ↦ v = TV.val (TV.tup []) ∧ J PUnit.unit h))
 (R (TV.val (TV.bool true)) h))))

theorem tollerlaw18_PeersBound_calls (most : Int) (ban : Int) (decay : Int) (script : Sl) (h : Heap) (R : Value → Heap → Prop) (H : tollerlaw18_PeersBound_vc most ban decay script h R) : CallsH Try.prog 3 (TVs.vals [TV.int IntKind.i64 most, TV.int IntKind.i64 ban, TV.int IntKind.i64 decay, TV.slice script]) h R :=
 vcFn_sound (C := ctx) ctx_ok (fn := Try.f3) Try.func3 ((by kernel_rfl : tollerlaw18_PeersBound_vc most ban decay script h R = vcFn ctx Try.f3 [TV.int IntKind.i64 most, TV.int IntKind.i64 ban, TV.int IntKind.i64 decay, TV.slice script] h R) ▸ H)


def tollerlaw18_PeersSplit_vc (a : Int) (b : Int) (none : Int) (h : Heap) (R : Value → Heap → Prop) : Prop :=
 CallsH Try.prog (9 : Nat) (TVs.vals []) h fun (v : Value) (h : Heap) ↦
 ∃ (b_1 : Bool),
 v = TV.val (TV.bool b_1) ∧
 If (!b_1) (R (TV.val (TV.bool false)) h)
 (Join
 (fun (s : Bool) (h : Array Obj) ↦
 CallsH Try.prog (10 : Nat) (TVs.vals [TV.int IntKind.i64 (3 : Int), TV.int IntKind.i64 (5 : Int), TV.int IntKind.i64 (1 : Int)]) h
 fun (v : Value) (h : Array Obj) ↦
 ∃ (p : Option Go.Vc.Loc),
 v = TV.val (TV.ptr p) ∧
 CallsH Try.prog (10 : Nat) (TVs.vals [TV.int IntKind.i64 (3 : Int), TV.int IntKind.i64 (5 : Int), TV.int IntKind.i64 (1 : Int)]) h
 fun (v : Value) (h : Array Obj) ↦
 ∃ (p_1 : Option Go.Vc.Loc),
 v = TV.val (TV.ptr p_1) ∧
 CallsH Try.prog (12 : Nat) (TVs.vals [TV.ptr p, TV.int IntKind.i64 (1 : Int), TV.int IntKind.i64 a]) h fun (v : Value) (h : Array Obj) ↦
 v = TV.val (TV.tup []) ∧
 CallsH Try.prog (12 : Nat) (TVs.vals [TV.ptr p, TV.int IntKind.i64 (1 : Int), TV.int IntKind.i64 none]) h
 fun (v : Value) (h : Array Obj) ↦
 v = TV.val (TV.tup []) ∧
 CallsH Try.prog (12 : Nat) (TVs.vals [TV.ptr p, TV.int IntKind.i64 (1 : Int), TV.int IntKind.i64 b]) h
 fun (v : Value) (h : Array Obj) ↦
 v = TV.val (TV.tup []) ∧
 CallsH Try.prog (12 : Nat)
 (TVs.vals [TV.ptr p_1, TV.int IntKind.i64 (1 : Int), TV.int IntKind.i64 (IntKind.wrap IntKind.i64 (a + b))]) h
 fun (v : Value) (h : Array Obj) ↦
 v = TV.val (TV.tup []) ∧
 CallsH Try.prog (12 : Nat) (TVs.vals [TV.ptr p_1, TV.int IntKind.i64 (2 : Int), TV.int IntKind.i64 none]) h
 fun (v : Value) (h : Array Obj) ↦
 v = TV.val (TV.tup []) ∧
 CallsH Try.prog (14 : Nat) (TVs.vals [TV.ptr p, TV.int IntKind.i64 (1 : Int)]) h fun (v : Value) (h : Array Obj) ↦
 ∃ (n : Int),
 v = TV.val (TV.int IntKind.i64 n) ∧
 CallsH Try.prog (14 : Nat) (TVs.vals [TV.ptr p_1, TV.int IntKind.i64 (1 : Int)]) h
 fun (v : Value) (h : Array Obj) ↦
 ∃ (n_1 : Int),
 v = TV.val (TV.int IntKind.i64 n_1) ∧
 If (decide (n = n_1))
 (CallsH Try.prog (14 : Nat) (TVs.vals [TV.ptr p, TV.int IntKind.i64 (1 : Int)]) h
 fun (v : Value) (h : Array Obj) ↦
 ∃ (n : Int),
 v = TV.val (TV.int IntKind.i64 n) ∧
 If
 (decide
 (n =
 mx (IntKind.wrap IntKind.i64 (IntKind.wrap IntKind.i64 ((0 : Int) - a) - b))
 (-1048576 : Int)))
 (CallsH Try.prog (13 : Nat) (TVs.vals [TV.ptr p_1]) h fun (v : Value) (h : Array Obj) ↦
 ∃ (s : Sl),
 v = TV.val (TV.slice s) ∧ R (TV.val (TV.bool (decide ((↑s.len : Int) = (1 : Int))))) h)
 (R (TV.val (TV.bool false)) h))
 (R (TV.val (TV.bool false)) h))
 fun (J : Bool → Array Obj → Prop) ↦
 If (decide (a < (1 : Int))) (R (TV.val (TV.bool true)) h)
 (If (decide (b < (1 : Int))) (R (TV.val (TV.bool true)) h)
 (If (decide ((1048576 : Int) < a)) (R (TV.val (TV.bool true)) h)
 (If (decide ((1048576 : Int) < b)) (R (TV.val (TV.bool true)) h) (If (decide ((0 : Int) < none)) (R (TV.val (TV.bool true)) h) (J false h))))))

theorem tollerlaw18_PeersSplit_calls (a : Int) (b : Int) (none : Int) (h : Heap) (R : Value → Heap → Prop) (H : tollerlaw18_PeersSplit_vc a b none h R) : CallsH Try.prog 4 (TVs.vals [TV.int IntKind.i64 a, TV.int IntKind.i64 b, TV.int IntKind.i64 none]) h R :=
 vcFn_sound (C := ctx) ctx_ok (fn := Try.f4) Try.func4 ((by kernel_rfl : tollerlaw18_PeersSplit_vc a b none h R = vcFn ctx Try.f4 [TV.int IntKind.i64 a, TV.int IntKind.i64 b, TV.int IntKind.i64 none] h R) ▸ H)


def tollerlaw18_PeersApart_vc (most : Int) (ban : Int) (decay : Int) (script : Sl) (who : Int) (h : Heap) (R : Value → Heap → Prop) : Prop :=
 CallsH Try.prog (9 : Nat) (TVs.vals []) h fun (v : Value) (h : Heap) ↦
 ∃ (b : Bool),
 v = TV.val (TV.bool b) ∧
 If (!b) (R (TV.val (TV.bool false)) h)
 (If (decide ((200 : Int) < (↑script.len : Int))) (R (TV.val (TV.bool true)) h)
 (CallsH Try.prog (10 : Nat) (TVs.vals [TV.int IntKind.i64 most, TV.int IntKind.i64 ban, TV.int IntKind.i64 decay]) h fun (v : Value) (h : Heap) ↦
 ∃ (p : Option Go.Vc.Loc),
 v = TV.val (TV.ptr p) ∧
 CallsH Try.prog (10 : Nat) (TVs.vals [TV.int IntKind.i64 most, TV.int IntKind.i64 ban, TV.int IntKind.i64 decay]) h fun (v : Value) (h : Heap) ↦
 ∃ (p_1 : Option Go.Vc.Loc),
 v = TV.val (TV.ptr p_1) ∧
 Join
 (fun (s : Bool) (h : Array Obj) ↦
 Go.Vc.Loop (s, (0 : Int)) h fun (s_1 : Bool × Int) (h : Array Obj) (K : Bool × Int → Array Obj → Prop) ↦
 If (decide (s_1.snd < (↑script.len : Int)))
 ((0 : Int) ≤ s_1.snd ∧
 s_1.snd < (↑script.len : Int) ∧
 Nn script.a fun (l : Go.Vc.Loc) ↦
 ∃ (b : Bool),
 ∃ (n : Int),
 ∃ (n_1 : Int),
 (at1 h l.b (l.o + Int.toNat s_1.snd * (3 : Nat)) (Value.bool b) ∧
 at1 h l.b (l.o + Int.toNat s_1.snd * (3 : Nat) + (1 : Nat)) (Value.int IntKind.i64 n) ∧
 at1 h l.b (l.o + Int.toNat s_1.snd * (3 : Nat) + (1 : Nat) + (1 : Nat)) (Value.int IntKind.i64 n_1)) ∧
 wok (newTV h (TV.agg [TV.bool false, TV.int IntKind.i64 (0 : Int), TV.int IntKind.i64 (0 : Int)]) (27 : Nat))
 (Array.size h) (0 : Nat) (Nat.succ (Nat.add (1 : Nat) (1 : Nat))) ∧
 ∃ (b_1 : Bool),
 at1
 (TV.put
 (newTV h (TV.agg [TV.bool false, TV.int IntKind.i64 (0 : Int), TV.int IntKind.i64 (0 : Int)]) (27 : Nat))
 (Array.size h) (0 : Nat) (TV.agg [TV.bool b, TV.int IntKind.i64 n, TV.int IntKind.i64 n_1]))
 (Array.size h) (0 : Nat) (Value.bool b_1) ∧
 If b_1
 (CallsH Try.prog (11 : Nat) (TVs.vals [TV.ptr p])
 (TV.put
 (newTV h (TV.agg [TV.bool false, TV.int IntKind.i64 (0 : Int), TV.int IntKind.i64 (0 : Int)])
 (27 : Nat))
 (Array.size h) (0 : Nat) (TV.agg [TV.bool b, TV.int IntKind.i64 n, TV.int IntKind.i64 n_1]))
 fun (v : Value) (h : Heap) ↦
 v = TV.val (TV.tup []) ∧
 CallsH Try.prog (11 : Nat) (TVs.vals [TV.ptr p_1]) h fun (v : Value) (h : Heap) ↦
 v = TV.val (TV.tup []) ∧ K (s_1.fst, IntKind.wrap IntKind.i64 (s_1.snd + (1 : Int))) h)
 (∃ (n_2 : Int),
 at1
 (TV.put
 (newTV h (TV.agg [TV.bool false, TV.int IntKind.i64 (0 : Int), TV.int IntKind.i64 (0 : Int)])
 (27 : Nat))
 (Array.size h) (0 : Nat) (TV.agg [TV.bool b, TV.int IntKind.i64 n, TV.int IntKind.i64 n_1]))
 (Array.size h) (1 : Nat) (Value.int IntKind.i64 n_2) ∧
 ∃ (n_3 : Int),
 at1
 (TV.put
 (newTV h (TV.agg [TV.bool false, TV.int IntKind.i64 (0 : Int), TV.int IntKind.i64 (0 : Int)])
 (27 : Nat))
 (Array.size h) (0 : Nat) (TV.agg [TV.bool b, TV.int IntKind.i64 n, TV.int IntKind.i64 n_1]))
 (Array.size h) (2 : Nat) (Value.int IntKind.i64 n_3) ∧
 CallsH Try.prog (12 : Nat) (TVs.vals [TV.ptr p, TV.int IntKind.i64 n_2, TV.int IntKind.i64 n_3])
 (TV.put
 (newTV h (TV.agg [TV.bool false, TV.int IntKind.i64 (0 : Int), TV.int IntKind.i64 (0 : Int)])
 (27 : Nat))
 (Array.size h) (0 : Nat) (TV.agg [TV.bool b, TV.int IntKind.i64 n, TV.int IntKind.i64 n_1]))
 fun (v : Value) (h_1 : Heap) ↦
 v = TV.val (TV.tup []) ∧
 Join
 (fun (s_2 : PUnit) (h : Array Obj) ↦
 CallsH Try.prog (16 : Nat) (TVs.vals [TV.ptr p]) h fun (v : Value) (h : Array Obj) ↦
 ∃ (n : Int),
 v = TV.val (TV.int IntKind.i64 n) ∧
 If (decide ((0 : Int) < n)) (R (TV.val (TV.bool true)) h)
 (CallsH Try.prog (14 : Nat) (TVs.vals [TV.ptr p, TV.int IntKind.i64 who]) h
 fun (v : Value) (h : Array Obj) ↦
 ∃ (n : Int),
 v = TV.val (TV.int IntKind.i64 n) ∧
 CallsH Try.prog (14 : Nat) (TVs.vals [TV.ptr p_1, TV.int IntKind.i64 who]) h
 fun (v : Value) (h : Array Obj) ↦
 ∃ (n_4 : Int),
 v = TV.val (TV.int IntKind.i64 n_4) ∧
 If (!decide (n = n_4)) (R (TV.val (TV.bool false)) h)
 (CallsH Try.prog (15 : Nat)
 (TVs.vals [TV.ptr p, TV.int IntKind.i64 who]) h
 fun (v : Value) (h : Array Obj) ↦
 ∃ (b : Bool),
 v = TV.val (TV.bool b) ∧
 CallsH Try.prog (15 : Nat)
 (TVs.vals [TV.ptr p_1, TV.int IntKind.i64 who]) h
 fun (v : Value) (h : Array Obj) ↦
 ∃ (b_2 : Bool),
 v = TV.val (TV.bool b_2) ∧
 If (!b == b_2) (R (TV.val (TV.bool false)) h)
 (K
 (s_1.fst,
 IntKind.wrap IntKind.i64 (s_1.snd + (1 : Int)))
 h))))
 fun (J : PUnit → Array Obj → Prop) ↦
 ∃ (n : Int),
 at1 h_1 (Array.size h) (1 : Nat) (Value.int IntKind.i64 n) ∧
 If (decide (n = who))
 (∃ (n : Int),
 at1 h_1 (Array.size h) (1 : Nat) (Value.int IntKind.i64 n) ∧
 ∃ (n_4 : Int),
 at1 h_1 (Array.size h) (2 : Nat) (Value.int IntKind.i64 n_4) ∧
 CallsH Try.prog (12 : Nat)
 (TVs.vals [TV.ptr p_1, TV.int IntKind.i64 n, TV.int IntKind.i64 n_4]) h_1
 fun (v : Value) (h : Heap) ↦ v = TV.val (TV.tup []) ∧ J PUnit.unit h)
 (J PUnit.unit h_1)))
 (CallsH Try.prog (14 : Nat) (TVs.vals [TV.ptr p, TV.int IntKind.i64 who]) h fun (v : Value) (h : Array Obj) ↦
 ∃ (n : Int),
 v = TV.val (TV.int IntKind.i64 n) ∧
 CallsH Try.prog (14 : Nat) (TVs.vals [TV.ptr p_1, TV.int IntKind.i64 who]) h fun (v : Value) (h : Array Obj) ↦
 ∃ (n_1 : Int), v = TV.val (TV.int IntKind.i64 n_1) ∧ R (TV.val (TV.bool (decide (n = n_1)))) h))
 fun (J : Bool → Array Obj → Prop) ↦
 If (Option.isNone p) (If (Option.isNone p) (R (TV.val (TV.bool (Option.isNone p_1))) h) (R (TV.val (TV.bool false)) h))
 (If (Option.isNone p_1) (If (Option.isNone p) (R (TV.val (TV.bool (Option.isNone p_1))) h) (R (TV.val (TV.bool false)) h))
 (J false h))))

theorem tollerlaw18_PeersApart_calls (most : Int) (ban : Int) (decay : Int) (script : Sl) (who : Int) (h : Heap) (R : Value → Heap → Prop) (H : tollerlaw18_PeersApart_vc most ban decay script who h R) : CallsH Try.prog 6 (TVs.vals [TV.int IntKind.i64 most, TV.int IntKind.i64 ban, TV.int IntKind.i64 decay, TV.slice script, TV.int IntKind.i64 who]) h R :=
 vcFn_sound (C := ctx) ctx_ok (fn := Try.f6) Try.func6 ((by kernel_rfl : tollerlaw18_PeersApart_vc most ban decay script who h R = vcFn ctx Try.f6 [TV.int IntKind.i64 most, TV.int IntKind.i64 ban, TV.int IntKind.i64 decay, TV.slice script, TV.int IntKind.i64 who] h R) ▸ H)


def tollerlaw18_PeersTicks_vc (ban : Int) (decay : Int) (points : Int) (ticks : Int) (h : Heap) (R : Value → Heap → Prop) : Prop :=
 CallsH Try.prog (9 : Nat) (TVs.vals []) h fun (v : Value) (h : Heap) ↦
 ∃ (b : Bool),
 v = TV.val (TV.bool b) ∧
 If (!b) (R (TV.val (TV.bool false)) h)
 (Join
 (fun (s : Bool) (h : Array Obj) ↦
 CallsH Try.prog (10 : Nat) (TVs.vals [TV.int IntKind.i64 (3 : Int), TV.int IntKind.i64 ban, TV.int IntKind.i64 decay]) h
 fun (v : Value) (h : Array Obj) ↦
 ∃ (p : Option Go.Vc.Loc),
 v = TV.val (TV.ptr p) ∧
 If (Option.isNone p)
 (If (decide (ban < (1 : Int))) (R (TV.val (TV.bool true)) h)
 (If (decide ((1048576 : Int) < ban)) (R (TV.val (TV.bool true)) h)
 (If (decide (decay < (1 : Int))) (R (TV.val (TV.bool true)) h) (R (TV.val (TV.bool (decide ((1048576 : Int) < decay)))) h))))
 (CallsH Try.prog (12 : Nat) (TVs.vals [TV.ptr p, TV.int IntKind.i64 (7 : Int), TV.int IntKind.i64 points]) h
 fun (v : Value) (h : Array Obj) ↦
 v = TV.val (TV.tup []) ∧
 Go.Vc.Loop (s, (1 : Int)) h fun (s_1 : Bool × Int) (h : Array Obj) (K : Bool × Int → Array Obj → Prop) ↦
 If (decide (s_1.snd ≤ ticks))
 (CallsH Try.prog (11 : Nat) (TVs.vals [TV.ptr p]) h fun (v : Value) (h : Array Obj) ↦
 v = TV.val (TV.tup []) ∧
 CallsH Try.prog (14 : Nat) (TVs.vals [TV.ptr p, TV.int IntKind.i64 (7 : Int)]) h fun (v : Value) (h : Array Obj) ↦
 ∃ (n : Int),
 v = TV.val (TV.int IntKind.i64 n) ∧
 If (!decide (n = mn (IntKind.wrap IntKind.i64 (IntKind.wrap IntKind.i64 (s_1.snd * decay) - points)) (0 : Int)))
 (R (TV.val (TV.bool false)) h)
 (CallsH Try.prog (15 : Nat) (TVs.vals [TV.ptr p, TV.int IntKind.i64 (7 : Int)]) h fun (v : Value) (h : Array Obj) ↦
 ∃ (b_1 : Bool),
 v = TV.val (TV.bool b_1) ∧
 If
 (!b_1 ==
 decide
 (mn (IntKind.wrap IntKind.i64 (IntKind.wrap IntKind.i64 (s_1.snd * decay) - points)) (0 : Int) ≤
 IntKind.wrap IntKind.i64 ((0 : Int) - ban)))
 (R (TV.val (TV.bool false)) h)
 (CallsH Try.prog (13 : Nat) (TVs.vals [TV.ptr p]) h fun (v : Value) (h : Array Obj) ↦
 ∃ (s_2 : Sl),
 v = TV.val (TV.slice s_2) ∧
 If
 (!decide ((↑s_2.len : Int) = (1 : Int)) ==
 decide
 (mn (IntKind.wrap IntKind.i64 (IntKind.wrap IntKind.i64 (s_1.snd * decay) - points)) (0 : Int) <
 (0 : Int)))
 (R (TV.val (TV.bool false)) h) (K (s_1.fst, IntKind.wrap IntKind.i64 (s_1.snd + (1 : Int))) h))))
 (CallsH Try.prog (16 : Nat) (TVs.vals [TV.ptr p]) h fun (v : Value) (h : Array Obj) ↦
 ∃ (n : Int), v = TV.val (TV.int IntKind.i64 n) ∧ R (TV.val (TV.bool (decide (n = (0 : Int))))) h)))
 fun (J : Bool → Array Obj → Prop) ↦
 If (decide (ticks < (0 : Int))) (R (TV.val (TV.bool true)) h)
 (If (decide ((300 : Int) < ticks)) (R (TV.val (TV.bool true)) h)
 (If (decide (points < (1 : Int))) (R (TV.val (TV.bool true)) h)
 (If (decide ((1048576 : Int) < points)) (R (TV.val (TV.bool true)) h) (J false h)))))

theorem tollerlaw18_PeersTicks_calls (ban : Int) (decay : Int) (points : Int) (ticks : Int) (h : Heap) (R : Value → Heap → Prop) (H : tollerlaw18_PeersTicks_vc ban decay points ticks h R) : CallsH Try.prog 7 (TVs.vals [TV.int IntKind.i64 ban, TV.int IntKind.i64 decay, TV.int IntKind.i64 points, TV.int IntKind.i64 ticks]) h R :=
 vcFn_sound (C := ctx) ctx_ok (fn := Try.f7) Try.func7 ((by kernel_rfl : tollerlaw18_PeersTicks_vc ban decay points ticks h R = vcFn ctx Try.f7 [TV.int IntKind.i64 ban, TV.int IntKind.i64 decay, TV.int IntKind.i64 points, TV.int IntKind.i64 ticks] h R) ▸ H)


def tollerlaw18_PeersWorst_vc (most : Int) (ban : Int) (script : Sl) (peer : Int) (points : Int) (h : Heap) (R : Value → Heap → Prop) : Prop :=
 CallsH Try.prog (9 : Nat) (TVs.vals []) h fun (v : Value) (h : Heap) ↦
 ∃ (b : Bool),
 v = TV.val (TV.bool b) ∧
 If (!b) (R (TV.val (TV.bool false)) h)
 (Join
 (fun (s : Bool) (h : Array Obj) ↦
 CallsH Try.prog (10 : Nat) (TVs.vals [TV.int IntKind.i64 most, TV.int IntKind.i64 ban, TV.int IntKind.i64 (1 : Int)]) h
 fun (v : Value) (h : Array Obj) ↦
 ∃ (p : Option Go.Vc.Loc),
 v = TV.val (TV.ptr p) ∧
 If (Option.isNone p) (R (TV.val (TV.bool true)) h)
 (Go.Vc.Loop (0 : Int) h fun (s_1 : Int) (h : Array Obj) (K : Int → Array Obj → Prop) ↦
 If (decide (s_1 < (↑script.len : Int)))
 ((0 : Int) ≤ s_1 ∧
 s_1 < (↑script.len : Int) ∧
 Nn script.a fun (l : Go.Vc.Loc) ↦
 ∃ (b : Bool),
 ∃ (n : Int),
 ∃ (n_1 : Int),
 (at1 h l.b (l.o + Int.toNat s_1 * (3 : Nat)) (Value.bool b) ∧
 at1 h l.b (l.o + Int.toNat s_1 * (3 : Nat) + (1 : Nat)) (Value.int IntKind.i64 n) ∧
 at1 h l.b (l.o + Int.toNat s_1 * (3 : Nat) + (1 : Nat) + (1 : Nat)) (Value.int IntKind.i64 n_1)) ∧
 wok (newTV h (TV.agg [TV.bool false, TV.int IntKind.i64 (0 : Int), TV.int IntKind.i64 (0 : Int)]) (27 : Nat))
 (Array.size h) (0 : Nat) (Nat.succ (Nat.add (1 : Nat) (1 : Nat))) ∧
 ∃ (b_1 : Bool),
 at1
 (TV.put (newTV h (TV.agg [TV.bool false, TV.int IntKind.i64 (0 : Int), TV.int IntKind.i64 (0 : Int)]) (27 : Nat))
 (Array.size h) (0 : Nat) (TV.agg [TV.bool b, TV.int IntKind.i64 n, TV.int IntKind.i64 n_1]))
 (Array.size h) (0 : Nat) (Value.bool b_1) ∧
 If (!b_1)
 (∃ (n_2 : Int),
 at1
 (TV.put
 (newTV h (TV.agg [TV.bool false, TV.int IntKind.i64 (0 : Int), TV.int IntKind.i64 (0 : Int)]) (27 : Nat))
 (Array.size h) (0 : Nat) (TV.agg [TV.bool b, TV.int IntKind.i64 n, TV.int IntKind.i64 n_1]))
 (Array.size h) (1 : Nat) (Value.int IntKind.i64 n_2) ∧
 ∃ (n_3 : Int),
 at1
 (TV.put
 (newTV h (TV.agg [TV.bool false, TV.int IntKind.i64 (0 : Int), TV.int IntKind.i64 (0 : Int)])
 (27 : Nat))
 (Array.size h) (0 : Nat) (TV.agg [TV.bool b, TV.int IntKind.i64 n, TV.int IntKind.i64 n_1]))
 (Array.size h) (2 : Nat) (Value.int IntKind.i64 n_3) ∧
 CallsH Try.prog (12 : Nat) (TVs.vals [TV.ptr p, TV.int IntKind.i64 n_2, TV.int IntKind.i64 n_3])
 (TV.put
 (newTV h (TV.agg [TV.bool false, TV.int IntKind.i64 (0 : Int), TV.int IntKind.i64 (0 : Int)])
 (27 : Nat))
 (Array.size h) (0 : Nat) (TV.agg [TV.bool b, TV.int IntKind.i64 n, TV.int IntKind.i64 n_1]))
 fun (v : Value) (h : Heap) ↦ v = TV.val (TV.tup []) ∧ K (IntKind.wrap IntKind.i64 (s_1 + (1 : Int))) h)
 (K (IntKind.wrap IntKind.i64 (s_1 + (1 : Int)))
 (TV.put
 (newTV h (TV.agg [TV.bool false, TV.int IntKind.i64 (0 : Int), TV.int IntKind.i64 (0 : Int)]) (27 : Nat))
 (Array.size h) (0 : Nat) (TV.agg [TV.bool b, TV.int IntKind.i64 n, TV.int IntKind.i64 n_1]))))
 (CallsH Try.prog (13 : Nat) (TVs.vals [TV.ptr p]) h fun (v : Value) (h : Array Obj) ↦
 ∃ (s_2 : Sl),
 v = TV.val (TV.slice s_2) ∧
 Go.Vc.Loop (Sl.mk none (0 : Nat) (0 : Nat), (0 : Int), false, (0 : Int)) h
 fun (s_3 : Sl × Int × Bool × Int) (h : Array Obj) (K : Sl × Int × Bool × Int → Array Obj → Prop) ↦
 If (decide (s_3.snd.snd.snd < (↑s_2.len : Int)))
 ((0 : Int) ≤ s_3.snd.snd.snd ∧
 s_3.snd.snd.snd < (↑s_2.len : Int) ∧
 Nn s_2.a fun (l : Go.Vc.Loc) ↦
 ∃ (n : Int),
 at1 h l.b (l.o + Int.toNat s_3.snd.snd.snd * (1 : Nat)) (Value.int IntKind.i64 n) ∧
 CallsH Try.prog (14 : Nat) (TVs.vals [TV.ptr p, TV.int IntKind.i64 n]) h fun (v : Value) (h : Array Obj) ↦
 ∃ (n_1 : Int),
 v = TV.val (TV.int IntKind.i64 n_1) ∧
 ∃ (new : List Value),
 slAt (Array.push h (row (TVs.cells [TV.int IntKind.i64 n_1]) (3 : Nat)))
 (Sl.mk (some (Loc.mk (Array.size h) (0 : Nat))) (1 : Nat) (1 : Nat)) (1 : Nat) new ∧
 (∀ (v : Value), v ∈ new → isOne v = true) ∧
 vcAppend Ythkaabfoeealaaa.ctx (3 : Nat) s_3.fst (1 : Nat) new
 (Array.push h (row (TVs.cells [TV.int IntKind.i64 n_1]) (3 : Nat))) fun (s : Sl) (h : Array Obj) ↦
 Join
 (fun (s_4 : Bool) (h : Array Obj) ↦
 (0 : Int) ≤ s_3.snd.snd.snd ∧
 s_3.snd.snd.snd < (↑s.len : Int) ∧
 Nn s.a fun (l : Go.Vc.Loc) ↦
 ∃ (n : Int),
 at1 h l.b (l.o + Int.toNat s_3.snd.snd.snd * (1 : Nat)) (Value.int IntKind.i64 n) ∧
 (0 : Int) ≤ s_3.snd.fst ∧
 s_3.snd.fst < (↑s.len : Int) ∧
 Nn s.a fun (l : Go.Vc.Loc) ↦
 ∃ (n_2 : Int),
 at1 h l.b (l.o + Int.toNat s_3.snd.fst * (1 : Nat))
 (Value.int IntKind.i64 n_2) ∧
 If (decide (n < n_2))
 (K
 (s, s_3.snd.snd.snd, s_4,
 IntKind.wrap IntKind.i64 (s_3.snd.snd.snd + (1 : Int)))
 h)
 (K
 (s, s_3.snd.fst, s_4,
 IntKind.wrap IntKind.i64 (s_3.snd.snd.snd + (1 : Int)))
 h))
 fun (J : Bool → Array Obj → Prop) ↦ If s_3.snd.snd.fst (J true h) (J (decide (n = peer)) h))
 (CallsH Try.prog (16 : Nat) (TVs.vals [TV.ptr p]) h fun (v : Value) (h : Array Obj) ↦
 ∃ (n : Int),
 v = TV.val (TV.int IntKind.i64 n) ∧
 CallsH Try.prog (12 : Nat) (TVs.vals [TV.ptr p, TV.int IntKind.i64 peer, TV.int IntKind.i64 points]) h
 fun (v : Value) (h : Array Obj) ↦
 v = TV.val (TV.tup []) ∧
 Join
 (fun (s : Bool) (h : Array Obj) ↦
 Go.Vc.Loop (s, (0 : Int)) h fun (s_4 : Bool × Int) (h : Array Obj) (K : Bool × Int → Array Obj → Prop) ↦
 If (decide (s_4.snd < (↑s_2.len : Int)))
 ((0 : Int) ≤ s_4.snd ∧
 s_4.snd < (↑s_2.len : Int) ∧
 Nn s_2.a fun (l : Go.Vc.Loc) ↦
 ∃ (n : Int),
 at1 h l.b (l.o + Int.toNat s_4.snd * (1 : Nat)) (Value.int IntKind.i64 n) ∧
 If (decide (s_4.snd = s_3.snd.fst))
 (CallsH Try.prog (14 : Nat) (TVs.vals [TV.ptr p, TV.int IntKind.i64 n]) h
 fun (v : Value) (h : Array Obj) ↦
 ∃ (n_1 : Int),
 v = TV.val (TV.int IntKind.i64 n_1) ∧
 If (!decide (n_1 = (0 : Int))) (R (TV.val (TV.bool false)) h)
 (If (!decide (s_4.snd = s_3.snd.fst))
 ((0 : Int) ≤ s_4.snd ∧
 s_4.snd < (↑s_3.fst.len : Int) ∧
 Nn s_3.fst.a fun (l : Go.Vc.Loc) ↦
 ∃ (n_2 : Int),
 at1 h l.b (l.o + Int.toNat s_4.snd * (1 : Nat)) (Value.int IntKind.i64 n_2) ∧
 CallsH Try.prog (14 : Nat) (TVs.vals [TV.ptr p, TV.int IntKind.i64 n]) h
 fun (v : Value) (h_1 : Array Obj) ↦
 ∃ (n : Int),
 v = TV.val (TV.int IntKind.i64 n) ∧
 Ext h h_1 ∧
 If (!decide (n = n_2)) (R (TV.val (TV.bool false)) h_1)
 (K (s_4.fst, IntKind.wrap IntKind.i64 (s_4.snd + (1 : Int))) h_1))
 (K (s_4.fst, IntKind.wrap IntKind.i64 (s_4.snd + (1 : Int))) h)))
 (If (!decide (s_4.snd = s_3.snd.fst))
 ((0 : Int) ≤ s_4.snd ∧
 s_4.snd < (↑s_3.fst.len : Int) ∧
 Nn s_3.fst.a fun (l : Go.Vc.Loc) ↦
 ∃ (n_1 : Int),
 at1 h l.b (l.o + Int.toNat s_4.snd * (1 : Nat)) (Value.int IntKind.i64 n_1) ∧
 CallsH Try.prog (14 : Nat) (TVs.vals [TV.ptr p, TV.int IntKind.i64 n]) h
 fun (v : Value) (h_1 : Array Obj) ↦
 ∃ (n : Int),
 v = TV.val (TV.int IntKind.i64 n) ∧
 Ext h h_1 ∧
 If (!decide (n = n_1)) (R (TV.val (TV.bool false)) h_1)
 (K (s_4.fst, IntKind.wrap IntKind.i64 (s_4.snd + (1 : Int))) h_1))
 (K (s_4.fst, IntKind.wrap IntKind.i64 (s_4.snd + (1 : Int))) h)))
 (CallsH Try.prog (16 : Nat) (TVs.vals [TV.ptr p]) h fun (v : Value) (h : Array Obj) ↦
 ∃ (n_1 : Int),
 v = TV.val (TV.int IntKind.i64 n_1) ∧
 If (decide (n_1 = IntKind.wrap IntKind.i64 (n + (1 : Int))))
 (CallsH Try.prog (14 : Nat) (TVs.vals [TV.ptr p, TV.int IntKind.i64 peer]) h
 fun (v : Value) (h : Array Obj) ↦
 ∃ (n : Int),
 v = TV.val (TV.int IntKind.i64 n) ∧
 If (decide (n < (0 : Int)))
 (CallsH Try.prog (13 : Nat) (TVs.vals [TV.ptr p]) h fun (v : Value) (h : Array Obj) ↦
 ∃ (s : Sl),
 v = TV.val (TV.slice s) ∧ R (TV.val (TV.bool (decide ((↑s.len : Int) = most)))) h)
 (R (TV.val (TV.bool false)) h))
 (R (TV.val (TV.bool false)) h)))
 fun (J : Bool → Array Obj → Prop) ↦
 Join
 (fun (s_4 : Bool) (h : Array Obj) ↦
 If s_4
 (CallsH Try.prog (16 : Nat) (TVs.vals [TV.ptr p]) h fun (v : Value) (h : Array Obj) ↦
 ∃ (n_1 : Int),
 v = TV.val (TV.int IntKind.i64 n_1) ∧
 If (decide (n_1 = n))
 (CallsH Try.prog (14 : Nat) (TVs.vals [TV.ptr p, TV.int IntKind.i64 peer]) h
 fun (v : Value) (h : Array Obj) ↦
 ∃ (n : Int), v = TV.val (TV.int IntKind.i64 n) ∧ R (TV.val (TV.bool (decide (n < (0 : Int))))) h)
 (R (TV.val (TV.bool false)) h))
 (J s h))
 fun (J : Bool → Array Obj → Prop) ↦ If s_3.snd.snd.fst (J true h) (J (decide ((↑s_2.len : Int) < most)) h)))))
 fun (J : Bool → Array Obj → Prop) ↦
 If (decide ((200 : Int) < (↑script.len : Int))) (R (TV.val (TV.bool true)) h)
 (If (decide (points < (1 : Int))) (R (TV.val (TV.bool true)) h) (J false h)))

theorem tollerlaw18_PeersWorst_calls (most : Int) (ban : Int) (script : Sl) (peer : Int) (points : Int) (h : Heap) (R : Value → Heap → Prop) (H : tollerlaw18_PeersWorst_vc most ban script peer points h R) : CallsH Try.prog 8 (TVs.vals [TV.int IntKind.i64 most, TV.int IntKind.i64 ban, TV.slice script, TV.int IntKind.i64 peer, TV.int IntKind.i64 points]) h R :=
 vcFn_sound (C := ctx) ctx_ok (fn := Try.f8) Try.func8 ((by kernel_rfl : tollerlaw18_PeersWorst_vc most ban script peer points h R = vcFn ctx Try.f8 [TV.int IntKind.i64 most, TV.int IntKind.i64 ban, TV.slice script, TV.int IntKind.i64 peer, TV.int IntKind.i64 points] h R) ▸ H)


end Go.Proofs.Ythkaabfoeealaaa
