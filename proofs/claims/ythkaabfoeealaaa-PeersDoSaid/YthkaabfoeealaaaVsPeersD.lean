/- The conditions of functions, as the generator reckons them out, each with the proof that it is that. -/
import Derived.Test.YthkaabfoeealaaaCtx
namespace Go.Proofs.Ythkaabfoeealaaa
open Go Go.Vc
set_option maxRecDepth 100000
set_option linter.unusedVariables false

def tollerlaw18_PeersDo_vc (most : Int) (ban : Int) (decay : Int) (script : Sl) (odd : Int) (h : Heap) (R : Value → Heap → Prop) : Prop :=
 CallsH Try.prog (9 : Nat) (TVs.vals []) h fun (v : Value) (h : Heap) ↦
 ∃ (b : Bool),
 v = TV.val (TV.bool b) ∧
 If (!b) (R (TV.val (TV.bool false)) h)
 (If (decide ((200 : Int) < (↑script.len : Int))) (R (TV.val (TV.bool true)) h)
 (CallsH Try.prog (12 : Nat) (TVs.vals [TV.ptr none, TV.int IntKind.i64 (1 : Int), TV.int IntKind.i64 (1 : Int)]) h fun (v : Value) (h : Heap) ↦
 v = TV.val (TV.tup []) ∧
 CallsH Try.prog (11 : Nat) (TVs.vals [TV.ptr none]) h fun (v : Value) (h : Heap) ↦
 v = TV.val (TV.tup []) ∧
 Join
 (fun (s : Bool) (h : Array Obj) ↦
 CallsH Try.prog (10 : Nat) (TVs.vals [TV.int IntKind.i64 most, TV.int IntKind.i64 ban, TV.int IntKind.i64 decay]) h
 fun (v : Value) (h : Array Obj) ↦
 ∃ (p : Option Go.Vc.Loc),
 v = TV.val (TV.ptr p) ∧
 CallsH Try.prog (17 : Nat) (TVs.vals [TV.int IntKind.i64 most, TV.int IntKind.i64 ban, TV.int IntKind.i64 decay]) h
 fun (v : Value) (h : Array Obj) ↦
 ∃ (p_1 : Option Go.Vc.Loc),
 ∃ (b : Bool),
 v = TV.val (TV.tup [TV.ptr p_1, TV.bool b]) ∧
 Join
 (fun (s : Bool) (h : Array Obj) ↦
 Go.Vc.Loop (s, (0 : Int)) h fun (s_1 : Bool × Int) (h : Array Obj) (K : Bool × Int → Array Obj → Prop) ↦
 If (decide (s_1.snd < (↑script.len : Int)))
 ((0 : Int) ≤ s_1.snd ∧
 s_1.snd < (↑script.len : Int) ∧
 Nn script.a fun (l : Go.Vc.Loc) ↦
 ∃ (b : Bool),
 ∃ (n : Int),
 ∃ (n_1 : Int),
 (at1 h l.b (l.o + Int.toNat s_1.snd * (3 : Nat)) (Value.bool b) ∧
 at1 h l.b (l.o + Int.toNat s_1.snd * (3 : Nat) + (1 : Nat)) (Value.int IntKind.i64 n) ∧
 at1 h l.b (l.o + Int.toNat s_1.snd * (3 : Nat) + (1 : Nat) + (1 : Nat))
 (Value.int IntKind.i64 n_1)) ∧
 wok
 (newTV h (TV.agg [TV.bool false, TV.int IntKind.i64 (0 : Int), TV.int IntKind.i64 (0 : Int)])
 (27 : Nat))
 (Array.size h) (0 : Nat) (Nat.succ (Nat.add (1 : Nat) (1 : Nat))) ∧
 Join
 (fun (s_2 : PUnit) (h_1 : Array Obj) ↦
 CallsH Try.prog (13 : Nat) (TVs.vals [TV.ptr p]) h_1 fun (v : Value) (h_2 : Array Obj) ↦
 ∃ (s_3 : Sl),
 v = TV.val (TV.slice s_3) ∧
 CallsH Try.prog (21 : Nat) (TVs.vals [TV.ptr p_1]) h_2 fun (v : Value) (h_3 : Array Obj) ↦
 ∃ (s_4 : Sl),
 v = TV.val (TV.slice s_4) ∧
 CallsH Try.prog (20 : Nat) (TVs.vals [TV.slice s_3, TV.slice s_4]) h_3
 fun (v : Value) (h_4 : Array Obj) ↦
 ∃ (b : Bool),
 v = TV.val (TV.bool b) ∧
 If (!b) (R (TV.val (TV.bool false)) h_4)
 (Nn p_1 fun (l : Go.Vc.Loc) ↦
 ∃ (n : Int),
 at1 h_4 l.b (l.o + (5 : Nat)) (Value.int IntKind.i64 n) ∧
 CallsH Try.prog (16 : Nat) (TVs.vals [TV.ptr p]) h_4
 fun (v : Value) (h_5 : Array Obj) ↦
 ∃ (n_2 : Int),
 v = TV.val (TV.int IntKind.i64 n_2) ∧
 Ext h_4 h_5 ∧
 If (!decide (n_2 = n)) (R (TV.val (TV.bool false)) h_5)
 (CallsH Try.prog (14 : Nat)
 (TVs.vals [TV.ptr p, TV.int IntKind.i64 odd]) h_5
 fun (v : Value) (h_6 : Array Obj) ↦
 ∃ (n : Int),
 v = TV.val (TV.int IntKind.i64 n) ∧
 CallsH Try.prog (22 : Nat)
 (TVs.vals [TV.ptr p_1, TV.int IntKind.i64 odd]) h_6
 fun (v : Value) (h_7 : Array Obj) ↦
 ∃ (n_3 : Int),
 v = TV.val (TV.int IntKind.i64 n_3) ∧
 If (!decide (n = n_3))
 (R (TV.val (TV.bool false)) h_7)
 (∃ (n : Int),
 at1 h_7 (Array.size h) (1 : Nat)
 (Value.int IntKind.i64 n) ∧
 ∃ (n_4 : Int),
 at1 h_7 (Array.size h) (1 : Nat)
 (Value.int IntKind.i64 n_4) ∧
 CallsH Try.prog (14 : Nat)
 (TVs.vals
 [TV.ptr p, TV.int IntKind.i64 n])
 h_7
 fun (v : Value) (h_8 : Array Obj) ↦
 ∃ (n : Int),
 v =
 TV.val
 (TV.int IntKind.i64 n) ∧
 Ext h_7 h_8 ∧
 CallsH Try.prog (22 : Nat)
 (TVs.vals
 [TV.ptr p_1,
 TV.int IntKind.i64 n_4])
 h_8
 fun (v : Value)
 (h_9 : Array Obj) ↦
 ∃ (n_5 : Int),
 v =
 TV.val
 (TV.int IntKind.i64
 n_5) ∧
 If (!decide (n = n_5))
 (R
 (TV.val
 (TV.bool false))
 h_9)
 (∃ (n : Int),
 at1 h_9
 (Array.size h)
 (1 : Nat)
 (Value.int
 IntKind.i64
 n) ∧
 ∃ (n_6 : Int),
 at1 h_9
 (Array.size
 h)
 (1 : Nat)
 (Value.int
 IntKind.i64
 n_6) ∧
 CallsH
 Try.prog
 (15 : Nat)
 (TVs.vals
 [TV.ptr p,
 TV.int
 IntKind.i64
 n])
 h_9
 fun
 (v :
 Value)
 (h :
 Array
 Obj) ↦
 ∃ (b :
 Bool),
 v =
 TV.val
 (TV.bool
 b) ∧
 Ext h_9
 h ∧
 CallsH
 Try.prog
 (23 :
 Nat)
 (TVs.vals
 [TV.ptr
 p_1,
 TV.int
 IntKind.i64
 n_6])
 h
 fun
 (v :
 Value)
 (h :
 Array
 Obj) ↦
 ∃
 (b_1
 :
 Bool),
 v =
 TV.val
 (TV.bool
 b_1) ∧
 If
 (!b ==
 b_1)
 (R
 (TV.val
 (TV.bool
 false))
 h)
 (K
 (s_1.fst,
 IntKind.wrap
 IntKind.i64
 (s_1.snd +
 (1 :
 Int)))
 h))))))
 fun (J : PUnit → Array Obj → Prop) ↦
 ∃ (b_1 : Bool),
 at1
 (TV.put
 (newTV h
 (TV.agg [TV.bool false, TV.int IntKind.i64 (0 : Int), TV.int IntKind.i64 (0 : Int)])
 (27 : Nat))
 (Array.size h) (0 : Nat)
 (TV.agg [TV.bool b, TV.int IntKind.i64 n, TV.int IntKind.i64 n_1]))
 (Array.size h) (0 : Nat) (Value.bool b_1) ∧
 If b_1
 (CallsH Try.prog (11 : Nat) (TVs.vals [TV.ptr p])
 (TV.put
 (newTV h
 (TV.agg [TV.bool false, TV.int IntKind.i64 (0 : Int), TV.int IntKind.i64 (0 : Int)])
 (27 : Nat))
 (Array.size h) (0 : Nat)
 (TV.agg [TV.bool b, TV.int IntKind.i64 n, TV.int IntKind.i64 n_1]))
 fun (v : Value) (h : Heap) ↦
 v = TV.val (TV.tup []) ∧
 CallsH Try.prog (18 : Nat) (TVs.vals [TV.ptr p_1]) h fun (v : Value) (h : Heap) ↦
 v = TV.val (TV.tup []) ∧ J PUnit.unit h)
 (∃ (n_2 : Int),
 at1
 (TV.put
 (newTV h
 (TV.agg
 [TV.bool false, TV.int IntKind.i64 (0 : Int), TV.int IntKind.i64 (0 : Int)])
 (27 : Nat))
 (Array.size h) (0 : Nat)
 (TV.agg [TV.bool b, TV.int IntKind.i64 n, TV.int IntKind.i64 n_1]))
 (Array.size h) (1 : Nat) (Value.int IntKind.i64 n_2) ∧
 ∃ (n_3 : Int),
 at1
 (TV.put
 (newTV h
 (TV.agg
 [TV.bool false, TV.int IntKind.i64 (0 : Int), TV.int IntKind.i64 (0 : Int)])
 (27 : Nat))
 (Array.size h) (0 : Nat)
 (TV.agg [TV.bool b, TV.int IntKind.i64 n, TV.int IntKind.i64 n_1]))
 (Array.size h) (2 : Nat) (Value.int IntKind.i64 n_3) ∧
 CallsH Try.prog (12 : Nat)
 (TVs.vals [TV.ptr p, TV.int IntKind.i64 n_2, TV.int IntKind.i64 n_3])
 (TV.put
 (newTV h
 (TV.agg
 [TV.bool false, TV.int IntKind.i64 (0 : Int), TV.int IntKind.i64 (0 : Int)])
 (27 : Nat))
 (Array.size h) (0 : Nat)
 (TV.agg [TV.bool b, TV.int IntKind.i64 n, TV.int IntKind.i64 n_1]))
 fun (v : Value) (h_1 : Heap) ↦
 v = TV.val (TV.tup []) ∧
 ∃ (n : Int),
 at1 h_1 (Array.size h) (1 : Nat) (Value.int IntKind.i64 n) ∧
 ∃ (n_4 : Int),
 at1 h_1 (Array.size h) (2 : Nat) (Value.int IntKind.i64 n_4) ∧
 CallsH Try.prog (19 : Nat)
 (TVs.vals [TV.ptr p_1, TV.int IntKind.i64 n, TV.int IntKind.i64 n_4])
 h_1 fun (v : Value) (h : Heap) ↦
 v = TV.val (TV.tup []) ∧ J PUnit.unit h))
 (R (TV.val (TV.bool true)) h))
 fun (J : Bool → Array Obj → Prop) ↦
 If (!b) (If (!b) (R (TV.val (TV.bool (Option.isNone p))) h) (R (TV.val (TV.bool false)) h))
 (If (Option.isNone p) (If (!b) (R (TV.val (TV.bool (Option.isNone p))) h) (R (TV.val (TV.bool false)) h)) (J s h)))
 fun (J : Bool → Array Obj → Prop) ↦
 CallsH Try.prog (14 : Nat) (TVs.vals [TV.ptr none, TV.int IntKind.i64 (1 : Int)]) h fun (v : Value) (h : Heap) ↦
 ∃ (n : Int),
 v = TV.val (TV.int IntKind.i64 n) ∧
 If (!decide (n = (0 : Int))) (R (TV.val (TV.bool false)) h)
 (CallsH Try.prog (15 : Nat) (TVs.vals [TV.ptr none, TV.int IntKind.i64 (1 : Int)]) h fun (v : Value) (h : Heap) ↦
 ∃ (b : Bool),
 v = TV.val (TV.bool b) ∧
 If b (R (TV.val (TV.bool false)) h)
 (CallsH Try.prog (13 : Nat) (TVs.vals [TV.ptr none]) h fun (v : Value) (h : Heap) ↦
 ∃ (s : Sl),
 v = TV.val (TV.slice s) ∧
 If (!decide ((↑s.len : Int) = (0 : Int))) (R (TV.val (TV.bool false)) h)
 (CallsH Try.prog (16 : Nat) (TVs.vals [TV.ptr none]) h fun (v : Value) (h : Heap) ↦
 ∃ (n : Int),
 v = TV.val (TV.int IntKind.i64 n) ∧ If (!decide (n = (0 : Int))) (R (TV.val (TV.bool false)) h) (J false h))))))

theorem tollerlaw18_PeersDo_calls (most : Int) (ban : Int) (decay : Int) (script : Sl) (odd : Int) (h : Heap) (R : Value → Heap → Prop) (H : tollerlaw18_PeersDo_vc most ban decay script odd h R) : CallsH Try.prog 5 (TVs.vals [TV.int IntKind.i64 most, TV.int IntKind.i64 ban, TV.int IntKind.i64 decay, TV.slice script, TV.int IntKind.i64 odd]) h R :=
 vcFn_sound (C := ctx) ctx_ok (fn := Try.f5) Try.func5 ((by kernel_rfl : tollerlaw18_PeersDo_vc most ban decay script odd h R = vcFn ctx Try.f5 [TV.int IntKind.i64 most, TV.int IntKind.i64 ban, TV.int IntKind.i64 decay, TV.slice script, TV.int IntKind.i64 odd] h R) ▸ H)


end Go.Proofs.Ythkaabfoeealaaa
