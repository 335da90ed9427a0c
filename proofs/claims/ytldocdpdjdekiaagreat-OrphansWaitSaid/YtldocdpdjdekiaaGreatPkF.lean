/- Texts that the proof needs, joined: VsLawV, LawV, VcB2, FrameO. -/
import Derived.Deep.Strs
import Derived.Test.YtldocdpdjdekiaaGreatPkE

section
/- The conditions of functions, as the generator reckons them out, each with the proof that it is that. -/
namespace Go.Proofs.YtldocdpdjdekiaaGreat
open Go Go.Vc
set_option maxRecDepth 100000
set_option linter.unusedVariables false

def tollerlaw16_OrphansWait_vc (script : Sl) (turn : Int) (h : Heap) (R : Value → Heap → Prop) : Prop :=
 CallsH Tryz.prog (23 : Nat) (TVs.vals []) h fun (v : Value) (h : Heap) ↦
 ∃ (b : Bool),
 v = TV.val (TV.bool b) ∧
 If (!b) (R (TV.val (TV.bool false)) h)
 (Join
 (fun (s : Bool) (h : Array Obj) ↦
 CallsH Tryz.prog (25 : Nat) (TVs.vals [TV.int IntKind.i64 (64 : Int), TV.int IntKind.i64 (64 : Int)]) h fun (v : Value) (h : Array Obj) ↦
 ∃ (p : Option Go.Vc.Loc),
 v = TV.val (TV.ptr p) ∧
 CallsH Tryz.prog (25 : Nat) (TVs.vals [TV.int IntKind.i64 (64 : Int), TV.int IntKind.i64 (64 : Int)]) h fun (v : Value) (h : Array Obj) ↦
 ∃ (p_1 : Option Go.Vc.Loc),
 v = TV.val (TV.ptr p_1) ∧
 ∃ (new : List Value),
 slAt (Array.push h (row (TVs.cells []) (66 : Nat))) script (6 : Nat) new ∧
 (∀ (v : Value), v ∈ new → isOne v = true) ∧
 vcAppend YtldocdpdjdekiaaGreat.ctxL (66 : Nat) (Sl.mk (some (Loc.mk (Array.size h) (0 : Nat))) (0 : Nat) (0 : Nat)) script.len new
 (Array.push h (row (TVs.cells []) (66 : Nat))) fun (s_1 : Sl) (h_1 : Array Obj) ↦
 Go.Vc.Loop (0 : Int) h_1 fun (s_2 : Int) (h_2 : Array Obj) (K : Int → Array Obj → Prop) ↦
 If (decide (s_2 < (↑s_1.len : Int)))
 ((0 : Int) ≤ s_2 ∧
 s_2 < (↑s_1.len : Int) ∧
 Nn s_1.a fun (l : Go.Vc.Loc) ↦
 wok h_2 l.b (l.o + Int.toNat s_2 * (6 : Nat)) (1 : Nat) ∧
 Vc.Bind (TV.put h_2 l.b (l.o + Int.toNat s_2 * (6 : Nat)) (TV.int IntKind.i64 (3 : Int))) fun (h : Array Obj) ↦
 K (IntKind.wrap IntKind.i64 (s_2 + (1 : Int))) h)
 (CallsH Tryz.prog (32 : Nat) (TVs.vals [TV.slice s_1]) h_2 fun (v : Value) (h_3 : Array Obj) ↦
 ∃ (b_1 : Bool),
 v = TV.val (TV.bool b_1) ∧
 If b_1 (R (TV.val (TV.bool true)) h_3)
 (IntKind.wrap IntKind.u64 (↑s_1.len : Int) ≠ (0 : Int) ∧
 Go.Vc.Loop (0 : Int) h_3 fun (s_3 : Int) (h_4 : Array Obj) (K : Int → Array Obj → Prop) ↦
 If (decide (s_3 < (↑s_1.len : Int)))
 (Join
 (fun (s_4 : Option Go.Vc.Loc × Option Go.Vc.Loc) (h_5 : Array Obj) ↦
 Nn s_4.fst fun (l : Go.Vc.Loc) ↦
 wok h_5 l.b l.o (1 : Nat) ∧
 Vc.Bind (TV.put h_5 l.b l.o (TV.int IntKind.i64 (3 : Int))) fun (h_6 : Array Obj) ↦
 Nn s_4.snd fun (l : Go.Vc.Loc) ↦
 wok h_6 l.b l.o (1 : Nat) ∧
 Vc.Bind (TV.put h_6 l.b l.o (TV.int IntKind.i64 (3 : Int))) fun (h_7 : Array Obj) ↦
 ∃ (h0 : Array Obj),
 Vc.Sub h0 h_7 ∧
 Nn s_4.fst fun (l : Go.Vc.Loc) ↦
 ∃ (n : Int),
 at1 h0 l.b (l.o + (1 : Nat)) (Value.int IntKind.i64 n) ∧
 Nn s_4.fst fun (l : Go.Vc.Loc) ↦
 ∃ (n_1 : Int),
 ∃ (n_2 : Int),
 ∃ (s_5 : List UInt8),
 ∃ (n_3 : Int),
 ∃ (n_4 : Int),
 ∃ (n_5 : Int),
 (at1 h0 l.b l.o (Value.int IntKind.i64 n_1) ∧
 at1 h0 l.b (l.o + (1 : Nat)) (Value.int IntKind.i64 n_2) ∧
 at1 h0 l.b (l.o + (1 : Nat) + (1 : Nat))
 (Value.string (ByteArray.mk (List.toArray s_5))) ∧
 at1 h0 l.b (l.o + (1 : Nat) + (1 : Nat) + (1 : Nat))
 (Value.int IntKind.i64 n_3) ∧
 at1 h0 l.b
 (l.o + (1 : Nat) + (1 : Nat) + (1 : Nat) + (1 : Nat))
 (Value.int IntKind.i64 n_4) ∧
 at1 h0 l.b
 (l.o + (1 : Nat) + (1 : Nat) + (1 : Nat) + (1 : Nat) +
 (1 : Nat))
 (Value.int IntKind.u64 n_5)) ∧
 CallsH Tryz.prog (34 : Nat)
 (TVs.vals
 [TV.agg
 [TV.int IntKind.i64 n_1, TV.int IntKind.i64 n_2, TV.str s_5,
 TV.int IntKind.i64 n_3, TV.int IntKind.i64 n_4,
 TV.int IntKind.u64 n_5]])
 h_7 fun (v : Value) (h_8 : Array Obj) ↦
 ∃ (s_6 : List UInt8),
 v = TV.val (TV.str s_6) ∧
 Vc.Sub h0 h_8 ∧
 CallsH Tryz.prog (33 : Nat)
 (TVs.vals [TV.ptr p, TV.int IntKind.i64 n, TV.str s_6])
 h_8 fun (v : Value) (h_9 : Array Obj) ↦
 ∃ (n : Int),
 ∃ (b_2 : Bs (32 : Nat)),
 v =
 TV.val
 (TV.tup
 [TV.int IntKind.i64 n,
 TV.bytes (32 : Nat) b_2]) ∧
 ∃ (h0 : Array Obj),
 Vc.Sub h0 h_9 ∧
 Nn s_4.snd fun (l : Go.Vc.Loc) ↦
 ∃ (n : Int),
 at1 h0 l.b (l.o + (1 : Nat))
 (Value.int IntKind.i64 n) ∧
 Nn s_4.snd fun (l : Go.Vc.Loc) ↦
 ∃ (n_6 : Int),
 ∃ (n_7 : Int),
 ∃ (s : List UInt8),
 ∃ (n_8 : Int),
 ∃ (n_9 : Int),
 ∃ (n_10 : Int),
 (at1 h0 l.b l.o
 (Value.int IntKind.i64
 n_6) ∧
 at1 h0 l.b
 (l.o + (1 : Nat))
 (Value.int
 IntKind.i64 n_7) ∧
 at1 h0 l.b
 (l.o + (1 : Nat) +
 (1 : Nat))
 (Value.string
 (ByteArray.mk
 (List.toArray
 s))) ∧
 at1 h0 l.b
 (l.o +
 (1 :
 Nat) +
 (1 : Nat) +
 (1 : Nat))
 (Value.int
 IntKind.i64
 n_8) ∧
 at1 h0 l.b
 (l.o +
 (1 :
 Nat) +
 (1 :
 Nat) +
 (1 :
 Nat) +
 (1 : Nat))
 (Value.int
 IntKind.i64
 n_9) ∧
 at1 h0 l.b
 (l.o +
 (1 :
 Nat) +
 (1 :
 Nat) +
 (1 :
 Nat) +
 (1 :
 Nat) +
 (1 : Nat))
 (Value.int
 IntKind.u64
 n_10)) ∧
 CallsH Tryz.prog
 (34 : Nat)
 (TVs.vals
 [TV.agg
 [TV.int
 IntKind.i64
 n_6,
 TV.int
 IntKind.i64
 n_7,
 TV.str s,
 TV.int
 IntKind.i64
 n_8,
 TV.int
 IntKind.i64
 n_9,
 TV.int
 IntKind.u64
 n_10]])
 h_9
 fun (v : Value)
 (h : Array Obj) ↦
 ∃ (s : List UInt8),
 v =
 TV.val
 (TV.str s) ∧
 Vc.Sub h0 h ∧
 CallsH Tryz.prog
 (33 : Nat)
 (TVs.vals
 [TV.ptr p_1,
 TV.int
 IntKind.i64
 n,
 TV.str s])
 h
 fun (v : Value)
 (h :
 Array Obj) ↦
 ∃ (n : Int),
 ∃ (b :
 Bs
 (32 :
 Nat)),
 v =
 TV.val
 (TV.tup
 [TV.int
 IntKind.i64
 n,
 TV.bytes
 (32 :
 Nat)
 b]) ∧
 K
 (IntKind.wrap
 IntKind.i64
 (s_3 +
 (1 :
 Int)))
 h)
 fun (J : Option Go.Vc.Loc × Option Go.Vc.Loc → Array Obj → Prop) ↦
 ∃ (h0 : Array Obj),
 Vc.Sub h0 h_4 ∧
 (0 : Int) ≤ s_3 ∧
 s_3 < (↑s_1.len : Int) ∧
 Nn s_1.a fun (l : Go.Vc.Loc) ↦
 ∃ (n : Int),
 ∃ (n_1 : Int),
 ∃ (s : List UInt8),
 ∃ (n_2 : Int),
 ∃ (n_3 : Int),
 ∃ (n_4 : Int),
 (at1 h0 l.b (l.o + Int.toNat s_3 * (6 : Nat)) (Value.int IntKind.i64 n) ∧
 at1 h0 l.b (l.o + Int.toNat s_3 * (6 : Nat) + (1 : Nat))
 (Value.int IntKind.i64 n_1) ∧
 at1 h0 l.b (l.o + Int.toNat s_3 * (6 : Nat) + (1 : Nat) + (1 : Nat))
 (Value.string (ByteArray.mk (List.toArray s))) ∧
 at1 h0 l.b
 (l.o + Int.toNat s_3 * (6 : Nat) + (1 : Nat) + (1 : Nat) + (1 : Nat))
 (Value.int IntKind.i64 n_2) ∧
 at1 h0 l.b
 (l.o + Int.toNat s_3 * (6 : Nat) + (1 : Nat) + (1 : Nat) + (1 : Nat) +
 (1 : Nat))
 (Value.int IntKind.i64 n_3) ∧
 at1 h0 l.b
 (l.o + Int.toNat s_3 * (6 : Nat) + (1 : Nat) + (1 : Nat) + (1 : Nat) +
 (1 : Nat) +
 (1 : Nat))
 (Value.int IntKind.u64 n_4)) ∧
 (↑s_1.len : Int) ≠ (0 : Int) ∧
 (0 : Int) ≤
 IntKind.wrap IntKind.i64
 (IntKind.wrap IntKind.i64 ((↑s_1.len : Int) - (1 : Int)) -
 Int.tmod
 (IntKind.wrap IntKind.i64
 (s_3 +
 IntKind.wrap IntKind.i64
 (Int.tmod (IntKind.wrap IntKind.u64 turn)
 (IntKind.wrap IntKind.u64 (↑s_1.len : Int)))))
 (↑s_1.len : Int)) ∧
 IntKind.wrap IntKind.i64
 (IntKind.wrap IntKind.i64 ((↑s_1.len : Int) - (1 : Int)) -
 Int.tmod
 (IntKind.wrap IntKind.i64
 (s_3 +
 IntKind.wrap IntKind.i64
 (Int.tmod (IntKind.wrap IntKind.u64 turn)
 (IntKind.wrap IntKind.u64 (↑s_1.len : Int)))))
 (↑s_1.len : Int)) <
 (↑s_1.len : Int) ∧
 Nn s_1.a fun (l : Go.Vc.Loc) ↦
 ∃ (n_5 : Int),
 ∃ (n_6 : Int),
 ∃ (s_4 : List UInt8),
 ∃ (n_7 : Int),
 ∃ (n_8 : Int),
 ∃ (n_9 : Int),
 (at1 h0 l.b
 (l.o +
 Int.toNat
 (IntKind.wrap IntKind.i64
 (IntKind.wrap IntKind.i64
 ((↑s_1.len : Int) - (1 : Int)) -
 Int.tmod
 (IntKind.wrap IntKind.i64
 (s_3 +
 IntKind.wrap IntKind.i64
 (Int.tmod
 (IntKind.wrap IntKind.u64 turn)
 (IntKind.wrap IntKind.u64
 (↑s_1.len : Int)))))
 (↑s_1.len : Int))) *
 (6 : Nat))
 (Value.int IntKind.i64 n_5) ∧
 at1 h0 l.b
 (l.o +
 Int.toNat
 (IntKind.wrap IntKind.i64
 (IntKind.wrap IntKind.i64
 ((↑s_1.len : Int) - (1 : Int)) -
 Int.tmod
 (IntKind.wrap IntKind.i64
 (s_3 +
 IntKind.wrap IntKind.i64
 (Int.tmod
 (IntKind.wrap IntKind.u64 turn)
 (IntKind.wrap IntKind.u64
 (↑s_1.len : Int)))))
 (↑s_1.len : Int))) *
 (6 : Nat) +
 (1 : Nat))
 (Value.int IntKind.i64 n_6) ∧
 at1 h0 l.b
 (l.o +
 Int.toNat
 (IntKind.wrap IntKind.i64
 (IntKind.wrap IntKind.i64
 ((↑s_1.len : Int) - (1 : Int)) -
 Int.tmod
 (IntKind.wrap IntKind.i64
 (s_3 +
 IntKind.wrap IntKind.i64
 (Int.tmod
 (IntKind.wrap IntKind.u64
 turn)
 (IntKind.wrap IntKind.u64
 (↑s_1.len : Int)))))
 (↑s_1.len : Int))) *
 (6 : Nat) +
 (1 : Nat) +
 (1 : Nat))
 (Value.string (ByteArray.mk (List.toArray s_4))) ∧
 at1 h0 l.b
 (l.o +
 Int.toNat
 (IntKind.wrap IntKind.i64
 (IntKind.wrap IntKind.i64
 ((↑s_1.len : Int) - (1 : Int)) -
 Int.tmod
 (IntKind.wrap IntKind.i64
 (s_3 +
 IntKind.wrap IntKind.i64
 (Int.tmod
 (IntKind.wrap IntKind.u64
 turn)
 (IntKind.wrap IntKind.u64
 (↑s_1.len : Int)))))
 (↑s_1.len : Int))) *
 (6 : Nat) +
 (1 : Nat) +
 (1 : Nat) +
 (1 : Nat))
 (Value.int IntKind.i64 n_7) ∧
 at1 h0 l.b
 (l.o +
 Int.toNat
 (IntKind.wrap IntKind.i64
 (IntKind.wrap IntKind.i64
 ((↑s_1.len : Int) -
 (1 : Int)) -
 Int.tmod
 (IntKind.wrap IntKind.i64
 (s_3 +
 IntKind.wrap IntKind.i64
 (Int.tmod
 (IntKind.wrap
 IntKind.u64 turn)
 (IntKind.wrap
 IntKind.u64
 (↑s_1.len : Int)))))
 (↑s_1.len : Int))) *
 (6 : Nat) +
 (1 : Nat) +
 (1 : Nat) +
 (1 : Nat) +
 (1 : Nat))
 (Value.int IntKind.i64 n_8) ∧
 at1 h0 l.b
 (l.o +
 Int.toNat
 (IntKind.wrap IntKind.i64
 (IntKind.wrap IntKind.i64
 ((↑s_1.len : Int) -
 (1 : Int)) -
 Int.tmod
 (IntKind.wrap IntKind.i64
 (s_3 +
 IntKind.wrap IntKind.i64
 (Int.tmod
 (IntKind.wrap
 IntKind.u64 turn)
 (IntKind.wrap
 IntKind.u64
 (↑s_1.len :
 Int)))))
 (↑s_1.len : Int))) *
 (6 : Nat) +
 (1 : Nat) +
 (1 : Nat) +
 (1 : Nat) +
 (1 : Nat) +
 (1 : Nat))
 (Value.int IntKind.u64 n_9)) ∧
 (Vc.Bind
 (newTV h_4
 (TV.agg
 [TV.int IntKind.i64 (0 : Int),
 TV.int IntKind.i64 (0 : Int), TV.str [],
 TV.int IntKind.i64 (0 : Int),
 TV.int IntKind.i64 (0 : Int),
 TV.int IntKind.u64 (0 : Int)])
 (66 : Nat))
 fun (h : Array Obj) ↦
 Vc.Sub h0 h ∧
 Vc.Bind
 (newTV h
 (TV.agg
 [TV.int IntKind.i64 (0 : Int),
 TV.int IntKind.i64 (0 : Int), TV.str [],
 TV.int IntKind.i64 (0 : Int),
 TV.int IntKind.i64 (0 : Int),
 TV.int IntKind.u64 (0 : Int)])
 (66 : Nat))
 fun (h_5 : Array Obj) ↦
 Vc.Sub h0 h_5 ∧
 wok h_5 (Array.size h_4) (0 : Nat) (6 : Nat) ∧
 Vc.Bind
 (TV.put h_5 (Array.size h_4) (0 : Nat)
 (TV.agg
 [TV.int IntKind.i64 n,
 TV.int IntKind.i64 n_1, TV.str s,
 TV.int IntKind.i64 n_2,
 TV.int IntKind.i64 n_3,
 TV.int IntKind.u64 n_4]))
 fun (h_6 : Array Obj) ↦
 Vc.Sub h0 h_6 ∧
 wok h_6 (Array.size h) (0 : Nat) (6 : Nat) ∧
 Vc.Bind
 (TV.put h_6 (Array.size h) (0 : Nat)
 (TV.agg
 [TV.int IntKind.i64 n_5,
 TV.int IntKind.i64 n_6, TV.str s_4,
 TV.int IntKind.i64 n_7,
 TV.int IntKind.i64 n_8,
 TV.int IntKind.u64 n_9]))
 fun (h_7 : Array Obj) ↦
 J
 (some
 (Loc.mk (Array.size h_4) (0 : Nat)),
 some
 (Loc.mk (Array.size h) (0 : Nat)))
 h_7) ∧
 Vc.Bind
 (newTV h_4
 (TV.agg
 [TV.int IntKind.i64 (0 : Int),
 TV.int IntKind.i64 (0 : Int), TV.str [],
 TV.int IntKind.i64 (0 : Int),
 TV.int IntKind.i64 (0 : Int),
 TV.int IntKind.u64 (0 : Int)])
 (66 : Nat))
 fun (h : Array Obj) ↦
 Vc.Sub h0 h ∧
 Vc.Bind
 (newTV h
 (TV.agg
 [TV.int IntKind.i64 (0 : Int),
 TV.int IntKind.i64 (0 : Int), TV.str [],
 TV.int IntKind.i64 (0 : Int),
 TV.int IntKind.i64 (0 : Int),
 TV.int IntKind.u64 (0 : Int)])
 (66 : Nat))
 fun (h_5 : Array Obj) ↦
 Vc.Sub h0 h_5 ∧
 wok h_5 (Array.size h) (0 : Nat) (6 : Nat) ∧
 Vc.Bind
 (TV.put h_5 (Array.size h) (0 : Nat)
 (TV.agg
 [TV.int IntKind.i64 n,
 TV.int IntKind.i64 n_1, TV.str s,
 TV.int IntKind.i64 n_2,
 TV.int IntKind.i64 n_3,
 TV.int IntKind.u64 n_4]))
 fun (h_6 : Array Obj) ↦
 Vc.Sub h0 h_6 ∧
 wok h_6 (Array.size h_4) (0 : Nat) (6 : Nat) ∧
 Vc.Bind
 (TV.put h_6 (Array.size h_4) (0 : Nat)
 (TV.agg
 [TV.int IntKind.i64 n_5,
 TV.int IntKind.i64 n_6, TV.str s_4,
 TV.int IntKind.i64 n_7,
 TV.int IntKind.i64 n_8,
 TV.int IntKind.u64 n_9]))
 fun (h_7 : Array Obj) ↦
 J
 (some (Loc.mk (Array.size h) (0 : Nat)),
 some
 (Loc.mk (Array.size h_4) (0 : Nat)))
 h_7)
 (CallsH Tryz.prog (36 : Nat) (TVs.vals [TV.ptr p]) h_4 fun (v : Value) (h : Array Obj) ↦
 ∃ (s_4 : Sl),
 v = TV.val (TV.slice s_4) ∧
 CallsH Tryz.prog (36 : Nat) (TVs.vals [TV.ptr p_1]) h fun (v : Value) (h : Array Obj) ↦
 ∃ (s_5 : Sl),
 v = TV.val (TV.slice s_5) ∧
 CallsH Tryz.prog (35 : Nat) (TVs.vals [TV.slice s_4, TV.slice s_5]) h
 fun (v : Value) (h : Array Obj) ↦
 ∃ (b : Bool),
 v = TV.val (TV.bool b) ∧
 If (!b) (R (TV.val (TV.bool false)) h)
 (Go.Vc.Loop (s, (0 : Int)) h
 fun (s_6 : Bool × Int) (h : Array Obj) (K : Bool × Int → Array Obj → Prop) ↦
 If (decide (s_6.snd < (↑s_1.len : Int)))
 ((0 : Int) ≤ s_6.snd ∧
 s_6.snd < (↑s_1.len : Int) ∧
 Nn s_1.a fun (l : Go.Vc.Loc) ↦
 ∃ (n : Int),
 ∃ (n_1 : Int),
 ∃ (s_7 : List UInt8),
 ∃ (n_2 : Int),
 ∃ (n_3 : Int),
 ∃ (n_4 : Int),
 (at1 h l.b (l.o + Int.toNat s_6.snd * (6 : Nat))
 (Value.int IntKind.i64 n) ∧
 at1 h l.b (l.o + Int.toNat s_6.snd * (6 : Nat) + (1 : Nat))
 (Value.int IntKind.i64 n_1) ∧
 at1 h l.b
 (l.o + Int.toNat s_6.snd * (6 : Nat) + (1 : Nat) +
 (1 : Nat))
 (Value.string (ByteArray.mk (List.toArray s_7))) ∧
 at1 h l.b
 (l.o + Int.toNat s_6.snd * (6 : Nat) + (1 : Nat) +
 (1 : Nat) +
 (1 : Nat))
 (Value.int IntKind.i64 n_2) ∧
 at1 h l.b
 (l.o + Int.toNat s_6.snd * (6 : Nat) + (1 : Nat) +
 (1 : Nat) +
 (1 : Nat) +
 (1 : Nat))
 (Value.int IntKind.i64 n_3) ∧
 at1 h l.b
 (l.o + Int.toNat s_6.snd * (6 : Nat) + (1 : Nat) +
 (1 : Nat) +
 (1 : Nat) +
 (1 : Nat) +
 (1 : Nat))
 (Value.int IntKind.u64 n_4)) ∧
 Vc.Bind
 (newTV h
 (TV.agg
 [TV.int IntKind.i64 (0 : Int), TV.int IntKind.i64 (0 : Int),
 TV.str [], TV.int IntKind.i64 (0 : Int),
 TV.int IntKind.i64 (0 : Int),
 TV.int IntKind.u64 (0 : Int)])
 (66 : Nat))
 fun (h_5 : Array Obj) ↦
 wok h_5 (Array.size h) (0 : Nat) (6 : Nat) ∧
 Vc.Bind
 (TV.put h_5 (Array.size h) (0 : Nat)
 (TV.agg
 [TV.int IntKind.i64 n, TV.int IntKind.i64 n_1,
 TV.str s_7, TV.int IntKind.i64 n_2,
 TV.int IntKind.i64 n_3, TV.int IntKind.u64 n_4]))
 fun (h_6 : Array Obj) ↦
 ∃ (h0 : Array Obj),
 Vc.Sub h0 h_6 ∧
 ∃ (n : Int),
 at1 h0 (Array.size h) (3 : Nat)
 (Value.int IntKind.i64 n) ∧
 ∃ (n_5 : Int),
 at1 h0 (Array.size h) (3 : Nat)
 (Value.int IntKind.i64 n_5) ∧
 CallsH Tryz.prog (31 : Nat)
 (TVs.vals [TV.int IntKind.i64 n]) h_6
 fun (v : Value) (h_7 : Array Obj) ↦
 ∃ (b : Bs (32 : Nat)),
 v = TV.val (TV.bytes (32 : Nat) b) ∧
 Vc.Sub h0 h_7 ∧
 CallsH Tryz.prog (30 : Nat)
 (TVs.vals
 [TV.ptr p, TV.bytes (32 : Nat) b])
 h_7
 fun (v : Value) (h_8 : Array Obj) ↦
 ∃ (s_8 : Sl),
 v = TV.val (TV.slice s_8) ∧
 Vc.Sub h0 h_8 ∧
 CallsH Tryz.prog (31 : Nat)
 (TVs.vals
 [TV.int IntKind.i64 n_5])
 h_8
 fun (v : Value)
 (h_9 : Array Obj) ↦
 ∃ (b : Bs (32 : Nat)),
 v =
 TV.val
 (TV.bytes (32 : Nat)
 b) ∧
 CallsH Tryz.prog
 (30 : Nat)
 (TVs.vals
 [TV.ptr p_1,
 TV.bytes (32 : Nat)
 b])
 h_9
 fun (v : Value)
 (h_10 : Array Obj) ↦
 ∃ (s_9 : Sl),
 v =
 TV.val
 (TV.slice s_9) ∧
 Join
 (fun (s_10 : Bool)
 (h_11 :
 Array Obj) ↦
 Go.Vc.Loop
 (s_10,
 (0 : Int))
 h_11
 fun
 (s_11 :
 Bool ×
 Int)
 (h_12 :
 Array Obj)
 (K_1 :
 Bool ×
 Int →
 Array
 Obj →
 Prop) ↦
 If
 (decide
 (s_11.snd <
 (↑s_8.len :
 Int)))
 (∃ (h0 :
 Array
 Obj),
 Vc.Sub h0
 h_12 ∧
 (0 :
 Int) ≤
 s_11.snd ∧
 s_11.snd <
 (↑s_8.len :
 Int) ∧
 Nn
 s_8.a
 fun
 (l :
 Go.Vc.Loc) ↦
 ∃
 (b
 :
 Bs
 (32 :
 Nat)),
 atBytes
 h0
 l.b
 (l.o +
 Int.toNat
 s_11.snd *
 (85 :
 Nat))
 (32 :
 Nat)
 b ∧
 (0 :
 Int) ≤
 s_11.snd ∧
 s_11.snd <
 (↑s_9.len :
 Int) ∧
 Nn
 s_9.a
 fun
 (l :
 Go.Vc.Loc) ↦
 ∃
 (b_2
 :
 Bs
 (32 :
 Nat)),
 atBytes
 h0
 l.b
 (l.o +
 Int.toNat
 s_11.snd *
 (85 :
 Nat))
 (32 :
 Nat)
 b_2 ∧
 If
 (!decide
 (b.l =
 b_2.l))
 (R
 (TV.val
 (TV.bool
 false))
 h_12)
 ((0 :
 Int) ≤
 s_11.snd ∧
 s_11.snd <
 (↑s_8.len :
 Int) ∧
 Nn
 s_8.a
 fun
 (l :
 Go.Vc.Loc) ↦
 ∃
 (b
 :
 Bs
 (32 :
 Nat)),
 atBytes
 h0
 l.b
 (l.o +
 Int.toNat
 s_11.snd *
 (85 :
 Nat) +
 (32 :
 Nat) +
 (2 :
 Nat))
 (32 :
 Nat)
 b ∧
 ∃
 (n
 :
 Int),
 at1
 h0
 (Array.size
 h)
 (3 :
 Nat)
 (Value.int
 IntKind.i64
 n) ∧
 CallsH
 Tryz.prog
 (31 :
 Nat)
 (TVs.vals
 [TV.int
 IntKind.i64
 n])
 h_12
 fun
 (v :
 Value)
 (h :
 Array
 Obj) ↦
 ∃
 (b_3
 :
 Bs
 (32 :
 Nat)),
 v =
 TV.val
 (TV.bytes
 (32 :
 Nat)
 b_3) ∧
 Vc.Sub
 h0
 h ∧
 If
 (!decide
 (b.l =
 b_3.l))
 (R
 (TV.val
 (TV.bool
 false))
 h)
 ((0 :
 Int) ≤
 s_11.snd ∧
 s_11.snd <
 (↑s_8.len :
 Int) ∧
 Nn
 s_8.a
 fun
 (l :
 Go.Vc.Loc) ↦
 ∃
 (b
 :
 Bs
 (32 :
 Nat)),
 atBytes
 h0
 l.b
 (l.o +
 Int.toNat
 s_11.snd *
 (85 :
 Nat))
 (32 :
 Nat)
 b ∧
 CallsH
 Tryz.prog
 (37 :
 Nat)
 (TVs.vals
 [TV.ptr
 p,
 TV.bytes
 (32 :
 Nat)
 b])
 h
 fun
 (v :
 Value)
 (h :
 Array
 Obj) ↦
 ∃
 (b
 :
 Bool),
 v =
 TV.val
 (TV.bool
 b) ∧
 Vc.Sub
 h0
 h ∧
 If
 b
 (R
 (TV.val
 (TV.bool
 false))
 h)
 (If
 (decide
 ((0 :
 Int) <
 s_11.snd))
 ((0 :
 Int) ≤
 IntKind.wrap
 IntKind.i64
 (s_11.snd -
 (1 :
 Int)) ∧
 IntKind.wrap
 IntKind.i64
 (s_11.snd -
 (1 :
 Int)) <
 (↑s_8.len :
 Int) ∧
 Nn
 s_8.a
 fun
 (l :
 Go.Vc.Loc) ↦
 ∃
 (n
 :
 Int),
 at1
 h0
 l.b
 (l.o +
 Int.toNat
 (IntKind.wrap
 IntKind.i64
 (s_11.snd -
 (1 :
 Int))) *
 (85 :
 Nat) +
 (32 :
 Nat) +
 (1 :
 Nat))
 (Value.int
 IntKind.i64
 n) ∧
 (0 :
 Int) ≤
 s_11.snd ∧
 s_11.snd <
 (↑s_8.len :
 Int) ∧
 Nn
 s_8.a
 fun
 (l :
 Go.Vc.Loc) ↦
 ∃
 (n_6
 :
 Int),
 at1
 h0
 l.b
 (l.o +
 Int.toNat
 s_11.snd *
 (85 :
 Nat) +
 (32 :
 Nat) +
 (1 :
 Nat))
 (Value.int
 IntKind.i64
 n_6) ∧
 If
 (decide
 (n_6 <
 n))
 (R
 (TV.val
 (TV.bool
 false))
 h)
 (K_1
 (s_11.fst,
 IntKind.wrap
 IntKind.i64
 (s_11.snd +
 (1 :
 Int)))
 h))
 (K_1
 (s_11.fst,
 IntKind.wrap
 IntKind.i64
 (s_11.snd +
 (1 :
 Int)))
 h)))))
 (K
 (s_11.fst,
 IntKind.wrap
 IntKind.i64
 (s_6.snd +
 (1 :
 Int)))
 h_12))
 fun
 (J :
 Bool →
 Array Obj →
 Prop) ↦
 If
 (!decide
 ((↑s_8.len :
 Int) =
 (↑s_9.len :
 Int)))
 (R
 (TV.val
 (TV.bool
 false))
 h_10)
 (∃ (n : Int),
 at1 h_10
 (Array.size
 h)
 (3 : Nat)
 (Value.int
 IntKind.i64
 n) ∧
 CallsH
 Tryz.prog
 (31 : Nat)
 (TVs.vals
 [TV.int
 IntKind.i64
 n])
 h_10
 fun
 (v :
 Value)
 (h :
 Array
 Obj) ↦
 ∃ (b :
 Bs
 (32 :
 Nat)),
 v =
 TV.val
 (TV.bytes
 (32 :
 Nat)
 b) ∧
 CallsH
 Tryz.prog
 (30 :
 Nat)
 (TVs.vals
 [TV.ptr
 p,
 TV.bytes
 (32 :
 Nat)
 b])
 h
 fun
 (v :
 Value)
 (h :
 Array
 Obj) ↦
 ∃
 (s_10
 :
 Sl),
 v =
 TV.val
 (TV.slice
 s_10) ∧
 If
 (!decide
 ((↑s_10.len :
 Int) =
 (0 :
 Int)))
 (R
 (TV.val
 (TV.bool
 false))
 h)
 (J
 s_6.fst
 h)))
 (CallsH Tryz.prog (27 : Nat) (TVs.vals [TV.ptr p]) h fun (v : Value) (h : Array Obj) ↦
 ∃ (n : Int),
 v = TV.val (TV.int IntKind.i64 n) ∧
 CallsH Tryz.prog (27 : Nat) (TVs.vals [TV.ptr p_1]) h
 fun (v : Value) (h : Array Obj) ↦
 ∃ (n_1 : Int),
 v = TV.val (TV.int IntKind.i64 n_1) ∧
 R (TV.val (TV.bool (decide (n = n_1)))) h))))))
 fun (J : Bool → Array Obj → Prop) ↦
 CallsH Tryz.prog (24 : Nat) (TVs.vals [TV.slice script]) h fun (v : Value) (h : Heap) ↦
 ∃ (b : Bool),
 v = TV.val (TV.bool b) ∧
 If b (R (TV.val (TV.bool true)) h)
 (If (decide ((60 : Int) < (↑script.len : Int))) (R (TV.val (TV.bool true)) h)
 (If (decide ((↑script.len : Int) = (0 : Int))) (R (TV.val (TV.bool true)) h) (J false h))))

theorem tollerlaw16_OrphansWait_calls (script : Sl) (turn : Int) (h : Heap) (R : Value → Heap → Prop) (H : tollerlaw16_OrphansWait_vc script turn h R) : CallsH Tryz.prog 6 (TVs.vals [TV.slice script, TV.int IntKind.i64 turn]) h R :=
 vcFn_sound (C := ctxL) ctxL_ok (fn := Tryz.f6) Tryz.func6 ((by kernel_rfl : tollerlaw16_OrphansWait_vc script turn h R = vcFn ctxL Tryz.f6 [TV.slice script, TV.int IntKind.i64 turn] h R) ▸ H)


end Go.Proofs.YtldocdpdjdekiaaGreat
end

section
/- OrphansWait. -/
namespace Go.Proofs.YtldocdpdjdekiaaGreat.Pool
open Go Go.Vc
open Board (Dm Ms decF nameF zeroM ms_at put_n mssz mssz1 bsz bools take_snoc)

theorem oc_three {c : Oc} (h : c.kind = 3) : (TV.agg ([.int .i64 c.kind, .int .i64 c.peer, .str c.text, .int .i64 c.n, .int .i64 c.slot, .int .u64 c.body].set 0 (.int .i64 3))) = c.tv := by
  rw [← h]; rfl

theorem bytes66 : (ctxL.ti 66).bytes = 56 := by kernel_rfl
theorem size66 : (ctxL.ti 66).size = 6 := by kernel_rfl
theorem zsize66 : (ctxL.ti 66).z.size = 6 := by kernel_rfl
theorem Oc.plain (c : Oc) : c.tv.plain = true := by simp only [Oc.tv, TV.plain, TVs.plain, Bool.and_self]

def Oc.three (c : Oc) : Oc := { c with kind := 3 }

section
variable {R : Value → Heap → Prop} {h : Heap}

set_option maxRecDepth 100000 in
set_option maxHeartbeats 4000000 in
theorem OrphansWait_spec {s : Sl} {l : List Oc} {turn : Int} (e : Elems 6 h s (ocs l)) (hr : ∀ h', Ext h h' → R (TV.bool true).val h') : CallsH Tryz.prog 6 (TVs.vals [.slice s, .int .i64 turn]) h R := by
  apply tollerlaw16_OrphansWait_calls
  unfold tollerlaw16_OrphansWait_vc
  have el := e.len
  rw [List.length_map] at el
  refine oalive_spec fun ha xa => ⟨_, rfl, If.no ?_⟩
  intro J HJ
  refine great_spec (e.ext xa) (fun h3 x3 => ⟨_, rfl, If.yes (hr h3 (xa.trans x3))⟩) fun hb xb h80 h300 => ⟨_, rfl, If.no ?_⟩
  have x0b := xa.trans xb
  refine If.dec.2 ⟨fun _ => hr hb x0b, fun h60 => If.dec.2 ⟨fun _ => hr hb x0b, fun hne => HJ _ _ ?_⟩⟩
  clear HJ J
  have hn : 0 < l.length ∧ l.length ≤ 60 := by omega
  refine onew_spec (fun hx => absurd (by unfold Ok64; decide) hx) fun hok h1 w1 x1 s1 => ⟨_, rfl, onew_spec (fun hx => absurd (by unfold Ok64; decide) hx) fun _ h2 w2 x2 s2 => ⟨_, rfl, ?_⟩⟩
  have lowN : ∀ n i, Mine n Sl.nil i → i = n := fun n i hi => hi.elim id fun ⟨l, hl, _⟩ => by cases hl
  have x02 := (x0b.trans x1).trans x2
  have eb := e.ext x02
  refine appendN (C := ctxL) (T := 66) (sz := 6) (us := ocs l) size66 zsize66 (by rw [bytes66]; decide) (by decide) (by rw [bytes66]; simp only; omega) (Own.new (T := 66) (sz := 6) h2 [] (by simp)) (eb.ext (Ext.push _ _)) (fun u hu => by obtain ⟨c, _, rfl⟩ := List.mem_map.1 hu; rfl) (fun u hu => by obtain ⟨c, _, rfl⟩ := List.mem_map.1 hu; exact c.plain) ?_
  intro t h3 o3 x3' f3 b3
  have x23 : Ext h2 h3 := (Ext.push _ _).trans (x3' rfl)
  have tnew : ∀ i, In t i → h2.size ≤ i := fun i ⟨l, hl, hi⟩ => by
    rcases b3 l hl with ⟨l', h1', h2'⟩ | h1'
    · have : (⟨h2.size, 0⟩ : Vc.Loc) = l' := Option.some.inj h1'
      rw [← this] at h2'
      dsimp only at h2'
      omega
    · rw [Array.size_push] at h1'; omega
  have o3 : Own 66 6 h3 t (ocs l) := o3
  have tl := o3.len
  rw [List.length_map] at tl
  refine ⟨fun i hh => 0 ≤ i ∧ i ≤ l.length ∧ Ext h2 hh ∧ ∃ l' : List Oc, Own 66 6 hh t (ocs l') ∧ l'.length = l.length ∧ (∀ c ∈ l', c.text.length ≤ 300) ∧ ∀ c ∈ l'.take i.toNat, c.kind = 3, fun i _ => ((l.length : Int) - i).toNat, ⟨Int.le_refl 0, by first | omega | (dsimp only; omega), x23, l, o3, rfl, h300, fun c hc => by simp at hc⟩, ?_⟩
  rintro i h4 ⟨i0, i1, x24, l', o4, hl', h300', hk⟩
  refine If.dec.2 ⟨fun hi => ?_, fun hi => ?_⟩
  · obtain ⟨c, hc⟩ : ∃ c, l'[i.toNat]? = some c := ⟨_, List.getElem?_eq_getElem (by omega)⟩
    refine Own.field_in (t0 := c.tv) (t := c.three.tv) (u := .int .i64 3) (d := 0) (n := 1) o4 i0 (by rw [List.getElem?_map, hc]; rfl) rfl (by decide) rfl fun h5 o5 f5 s5 => ?_
    rw [wrap_i64 (n := i + 1) (by omega) (by omega)]
    refine ⟨⟨by first | omega | (dsimp only; omega), by first | omega | (dsimp only; omega), Only.cut x24 f5 tnew, l'.set i.toNat c.three, ?_, by rw [List.length_set]; exact hl', fun c' hc' => ?_, fun c' hc' => ?_⟩, by first | omega | (dsimp only; omega)⟩
    · rw [ocs, List.map_set]; exact o5
    · rcases List.mem_or_eq_of_mem_set hc' with h6 | h6
      · exact h300' c' h6
      · rw [h6]; exact h300' c (List.mem_of_getElem? hc)
    · rw [show (i + 1).toNat = i.toNat + 1 by omega] at hc'
      have hset : (l'.set i.toNat c.three)[i.toNat]? = some c.three := by rw [List.getElem?_set_self (by omega)]
      rw [take_snoc hset] at hc'
      rcases List.mem_append.1 hc' with h6 | h6
      · rw [List.take_set_of_le (Nat.le_refl _)] at h6
        exact hk c' h6
      · rw [List.mem_singleton.1 h6]; rfl
  clear h300
  rw [List.take_of_length_le (by omega)] at hk
  have tl4 := o4.len
  rw [List.length_map] at tl4
  refine otwins_spec o4.elems o4.cap (by omega) h300' (fun h5 x5 => ⟨_, rfl, If.yes (hr h5 ((x02.trans x24).trans x5))⟩) fun h5 x5 nt => ⟨_, rfl, If.no ?_⟩
  have x25 := x24.trans x5
  have lowt : ∀ i, In t i → ¬ Mine hb.size Sl.nil i := fun i hi hx => by have := tnew i hi; have := lowN _ _ hx; have := x1.size; have := x2.size; omega
  have lowt2 : ∀ i, In t i → ¬ Mine h1.size Sl.nil i := fun i hi hx => by have := tnew i hi; have := lowN _ _ hx; have := x2.size; omega
  have tw : Tw 100 wantO 66 6 hb h5 (hb.size + 1) hb.size (h1.size + 1) h1.size Sl.nil Sl.nil [] [] t (ocs l') :=
    ⟨⟨(w1.ext x2).ext x25, ⟨by omega, fun i hi => by rw [lowN _ _ hi]; exact Nat.le_refl _⟩, (x1.trans x2).trans x25, by decide, (fun x hx => by cases hx), hok⟩,
     ⟨w2.ext x25, ⟨by omega, fun i hi => by rw [lowN _ _ hi]; omega⟩, (x1.trans x2).trans x25, by decide, (fun x hx => by cases hx), hok⟩,
     fun i hi hx => by have := lowN _ _ hi; have := lowN _ _ hx; omega, fun hx => by have := lowN _ _ hx; omega, fun hx => by have := lowN _ _ hx; omega, o4.ext x5, lowt, lowt2⟩
  have hwl : IntKind.wrap .u64 (t.len : Int) = t.len := by simp [IntKind.wrap, IntKind.bits, IntKind.signed]; omega
  rw [hwl]
  have hb0 : 0 ≤ IntKind.wrap .u64 turn := by
    simp [IntKind.wrap, IntKind.bits, IntKind.signed]
    omega
  obtain ⟨tn, ht⟩ : ∃ t : Nat, IntKind.wrap .u64 turn = t := ⟨(IntKind.wrap .u64 turn).toNat, by omega⟩
  rw [ht]
  have hby : Int.tmod (tn : Int) (t.len : Int) = ((tn % l'.length : Nat) : Int) := by
    rw [Int.tmod_eq_emod_of_nonneg (by omega), ← tl4]
    rfl
  rw [hby]
  have hbl : tn % l'.length < l'.length := Nat.mod_lt _ (by omega)
  rw [wrap_i64 (n := ((tn % l'.length : Nat) : Int)) (by omega) (by omega)]
  generalize hbyd : tn % l'.length = by_ at hbl
  refine ⟨by omega, ?_⟩
  have x05 := x02.trans x25
  refine ⟨fun i hh => 0 ≤ i ∧ i ≤ l'.length ∧ ∃ A1 A2 S1 S2 T1 T2, Tw 100 wantO 66 6 hb hh (hb.size + 1) hb.size (h1.size + 1) h1.size A1 A2 S1 S2 t (ocs l') ∧ Took wantO T1 S1 ∧ Took wantO T2 S2 ∧ T1.length = i.toNat ∧ T2.length = i.toNat ∧
      (∀ x, x ∈ T1 ↔ ∃ k c, k < i.toNat ∧ l'[k]? = some c ∧ x = c.bytes) ∧ (∀ x, x ∈ T2 ↔ ∃ k c, k < i.toNat ∧ l'[l'.length - 1 - (k + by_) % l'.length]? = some c ∧ x = c.bytes), fun i _ => ((l'.length : Int) - i).toNat,
    ⟨Int.le_refl _, Int.natCast_nonneg _, _, _, _, _, [], [], tw, Took.nil _, Took.nil _, rfl, rfl, fun x => ⟨fun hx => (by cases hx), fun ⟨k, c, hk, _⟩ => absurd hk (Nat.not_lt_zero _)⟩, fun x => ⟨fun hx => (by cases hx), fun ⟨k, c, hk, _⟩ => absurd hk (Nat.not_lt_zero _)⟩⟩, ?_⟩
  rintro i h6 ⟨i0, i1, A1, A2, S1, S2, T1, T2, tw, k1, k2, l1, l2, mem1, mem2⟩
  refine If.dec.2 ⟨fun hi => ?_, fun hi => ?_⟩
  · intro J HJ
    obtain ⟨k, hkk⟩ : ∃ k : Nat, i = k := ⟨i.toNat, by omega⟩
    subst hkk
    have hkt : ((k : Int)).toNat = k := rfl
    rw [hkt] at l1 l2 mem1 mem2
    have hidx : IntKind.wrap .i64 (IntKind.wrap .i64 ((t.len : Int) - 1) - Int.tmod (IntKind.wrap .i64 ((k : Int) + (by_ : Int))) (t.len : Int)) = ((l'.length - 1 - (k + by_) % l'.length : Nat) : Int) := by
      rw [wrap_i64 (n := (t.len : Int) - 1) (by omega) (by omega), wrap_i64 (n := (k : Int) + by_) (by omega) (by omega)]
      have : Int.tmod ((k : Int) + (by_ : Int)) (t.len : Int) = (((k + by_) % l'.length : Nat) : Int) := by
        rw [Int.tmod_eq_emod_of_nonneg (by omega), ← tl4]
        rfl
      rw [this]
      have hm : (k + by_) % l'.length < l'.length := Nat.mod_lt _ (by omega)
      rw [wrap_i64 (by omega) (by omega)]
      omega
    refine ⟨h6, Sub.refl _, ?_⟩
    refine oc_at tw.own.elems i0 (by omega) fun p c _ hc => ⟨by omega, ?_⟩
    rw [hidx]
    refine oc_at tw.own.elems (by omega) (by have := turn_lt k by_ (n := l'.length) (by omega); omega) fun p2 c2 _ hc2 => ?_
    rw [show (((l'.length - 1 - (k + by_) % l'.length : Nat) : Int)).toNat = l'.length - 1 - (k + by_) % l'.length from rfl] at hc2
    rw [hkt] at hc
    have m1 := List.mem_of_getElem? hc
    have m2 := List.mem_of_getElem? hc2
    have bl1 := Oc.bytes_len (h300' c m1)
    have bl2 := Oc.bytes_len (h300' c2 m2)
    have low1 : ∀ i, Mine hb.size A1 i → i < h6.size := fun i hi => tw.one.wl.pl.lt hi
    have low2 : ∀ i, Mine h1.size A2 i → i < h6.size := fun i hi => tw.two.wl.pl.lt hi
    have fin : ∀ (hh : Heap) (q1 q2 : Nat) (a : Option Vc.Loc × Option Vc.Loc), a.1 = some ⟨q1, 0⟩ → a.2 = some ⟨q2, 0⟩ → q1 ≠ q2 → Ext h6 hh → Var 66 hh q1 c.tv → Var 66 hh q2 c2.tv → h6.size ≤ q1 → h6.size ≤ q2 → J a hh := by
      intro hh q1 q2 a ha1 ha2 hq xh v1 v2 hq1 hq2
      refine HJ a hh ?_
      dsimp only
      rw [ha1, ha2]
      refine field_in (i := 0) (t := .int .i64 3) (t0 := .int .i64 c.kind) v1 rfl rfl rfl rfl fun h7 v7 f7 s7 => ?_
      rw [oc_three (hk c m1)] at v7
      have f7 : Only (· = q1) hh h7 := f7
      refine field_in (i := 0) (t := .int .i64 3) (t0 := .int .i64 c2.kind) (v2.only f7 (by omega)) rfl rfl rfl rfl fun h8 v8 f8 s8 => ?_
      rw [oc_three (hk c2 m2)] at v8
      have f8 : Only (· = q2) h7 h8 := f8
      have v7 : Var 66 h7 q1 c.tv := v7
      have v8 : Var 66 h8 q2 c2.tv := v8
      have v78 := v7.only f8 hq
      have x68 : Ext h6 h8 := Only.cut (Only.cut xh f7 fun i hi => by omega) f8 fun i hi => by omega
      refine ⟨h8, Sub.refl _, c.peer, v78.at1 rfl, v_oc v78 ?_⟩
      refine text_spec (c := c) fun h9 x9 => ⟨_, rfl, x9.sub, ?_⟩
      have t9 := tw.more (x68.trans x9)
      refine oput_spec t9.one.wl hok.1 hok.2.1 t9.one.len bl1 fun h10 A10 w10 g10 => ⟨_, _, rfl, ?_⟩
      have t10 := t9.step w10 g10 (putW_len t9.one.len) (putW_mem bl1 t9.one.fit)
      have v10 : Var 66 h10 q2 c2.tv := (v8.ext x9).only g10.only fun hx => by have := low1 _ hx; omega
      refine ⟨h10, Sub.refl _, c2.peer, v10.at1 rfl, v_oc v10 ?_⟩
      refine text_spec (c := c2) fun h11 x11 => ⟨_, rfl, x11.sub, ?_⟩
      have t11 := (t10.more x11).symm
      refine oput_spec t11.one.wl hok.1 hok.2.1 t11.one.len bl2 fun h12 A12 w12 g12 => ⟨_, _, rfl, ?_⟩
      have t12 := (t11.step w12 g12 (putW_len t11.one.len) (putW_mem bl2 t11.one.fit)).symm
      rw [wrap_i64 (n := (k : Int) + 1) (by omega) (by omega)]
      have hk1 : ((k : Int) + 1).toNat = k + 1 := by omega
      refine ⟨⟨by omega, by omega, _, _, _, _, T1 ++ [c.bytes], T2 ++ [c2.bytes], t12, k1.step (by omega) bl1, k2.step (by omega) bl2, by simp [l1, hk1], by simp [l2, hk1], fun x => ?_, fun x => ?_⟩, by first | omega | (dsimp only; omega)⟩
      · rw [List.mem_append, List.mem_singleton, mem1, hk1]
        constructor
        · rintro (⟨k', c', h1, h2, h3⟩ | rfl)
          · exact ⟨k', c', by omega, h2, h3⟩
          · exact ⟨k, c, by omega, hc, rfl⟩
        · rintro ⟨k', c', h1, h2, h3⟩
          by_cases ek : k' = k
          · subst ek
            rw [hc] at h2
            cases h2
            exact .inr h3
          · exact .inl ⟨k', c', by omega, h2, h3⟩
      · rw [List.mem_append, List.mem_singleton, mem2, hk1]
        constructor
        · rintro (⟨k', c', h1, h2, h3⟩ | rfl)
          · exact ⟨k', c', by omega, h2, h3⟩
          · exact ⟨k, c2, by omega, hc2, rfl⟩
        · rintro ⟨k', c', h1, h2, h3⟩
          by_cases ek : k' = k
          · subst ek
            rw [hc2] at h2
            cases h2
            exact .inr h3
          · exact .inl ⟨k', c', by omega, h2, h3⟩
    refine ⟨newTV_in fun h7 v7 x7 s7 => ⟨x7.sub, newTV_in fun h8 v8 x8 s8 => ⟨(x7.trans x8).sub, put_n (t0 := Oc.zero.tv) (v7.ext x8) (t := c.tv) rfl rfl fun h9 v9 f9 s9 => ⟨(Only.cut (x7.trans x8) f9 fun i hi => by omega : Ext h6 h9).sub, put_n (t0 := Oc.zero.tv) (v8.only f9 (by omega)) (t := c2.tv) rfl rfl fun h10 v10 f10 s10 => ?_⟩⟩⟩,
      newTV_in fun h7 v7 x7 s7 => ⟨x7.sub, newTV_in fun h8 v8 x8 s8 => ⟨(x7.trans x8).sub, put_n (t0 := Oc.zero.tv) v8 (t := c.tv) rfl rfl fun h9 v9 f9 s9 => ⟨(Only.cut (x7.trans x8) f9 fun i hi => by omega : Ext h6 h9).sub, put_n (t0 := Oc.zero.tv) ((v7.ext x8).only f9 (by omega)) (t := c2.tv) rfl rfl fun h10 v10 f10 s10 => ?_⟩⟩⟩⟩
    · exact fin h10 _ _ _ rfl rfl (by omega) (Only.cut (Only.cut (x7.trans x8) f9 fun i hi => by omega) f10 fun i hi => by omega) (v9.only f10 (by omega)) v10 (by omega) (by omega)
    · exact fin h10 _ _ _ rfl rfl (by omega) (Only.cut (Only.cut (x7.trans x8) f9 fun i hi => by omega) f10 fun i hi => by omega) (v9.only f10 (by omega)) v10 (by omega) (by omega)
  · have hi2 : i.toNat = l'.length := by omega
    rw [hi2] at mem1 mem2
    have hT : ∀ x, x ∈ T1 ↔ x ∈ T2 := by
      intro x
      rw [mem1, mem2]
      constructor
      · rintro ⟨k, c, h1', h2', h3'⟩
        refine ⟨(l'.length - 1 - k + (l'.length - by_)) % l'.length, c, Nat.mod_lt _ (by omega), ?_, h3'⟩
        rw [turn_all h1' hbl]
        exact h2'
      · rintro ⟨k, c, h1', h2', h3'⟩
        exact ⟨_, c, turn_lt k by_ (by omega), h2', h3'⟩
    have nt1 : NoTw T1 := fun a ha b hb => by
      obtain ⟨_, ca, _, hca, rfl⟩ := (mem1 a).1 ha
      obtain ⟨_, cb, _, hcb, rfl⟩ := (mem1 b).1 hb
      exact nt _ (List.mem_map_of_mem (List.mem_of_getElem? hca)) _ (List.mem_map_of_mem (List.mem_of_getElem? hcb))
    have hst := k1.eq k2 hT nt1 tw.one.wl.pl.srt tw.two.wl.pl.srt
    clear k1 k2 mem1 mem2 hT nt1 l1 l2
    refine oroots_spec tw.one.wl fun h7 ta o7 x7 fr7 => ⟨_, rfl, oroots_spec (tw.more x7).two.wl fun h8 tb o8 x8 fr8 => ⟨_, rfl, ?_⟩⟩
    have few1 := tw.one.wl.pl.few
    have hrr : S1.map It.root = S2.map It.root := map_strip hst (f := It.root) fun x => rfl
    rw [← hrr] at o8
    refine same10_spec (o7.elems.ext x8) o8.elems (by rw [List.length_map]; omega) ⟨_, rfl, ?_⟩
    rw [decide_eq_true rfl]
    refine If.no ?_
    have tw := (tw.more x7).more x8
    refine ⟨fun σ hh => 0 ≤ σ.2 ∧ σ.2 ≤ l'.length ∧ ∃ A1 A2 S1 S2, Tw 100 wantO 66 6 hb hh (hb.size + 1) hb.size (h1.size + 1) h1.size A1 A2 S1 S2 t (ocs l') ∧ S1.map strip = S2.map strip, fun σ _ => ((l'.length : Int) - σ.2).toNat, ⟨Int.le_refl 0, by first | omega | (dsimp only; omega), _, _, _, _, tw, hst⟩, ?_⟩
    clear tw hst hrr few1 o7 o8
    rintro ⟨f, j⟩ h9 ⟨j0, j1, A1, A2, S1, S2, tw, hst⟩
    dsimp only at j0 j1 ⊢
    refine If.dec.2 ⟨fun hj => ?_, fun hj => ?_⟩
    · refine oc_at tw.own.elems j0 (by omega) fun p c _ hc => ?_
      refine newTV_in fun h10 v10 x10 s10 => put_n (t0 := Oc.zero.tv) v10 (t := c.tv) rfl rfl fun h11 v11 f11 s11 => ?_
      have x911 : Ext h9 h11 := Only.cut x10 f11 fun i hi => by omega
      have few1 := tw.one.wl.pl.few
      have low1 : ∀ i, Mine hb.size A1 i → i < h9.size := fun i hi => tw.one.wl.pl.lt hi
      have low2 : ∀ i, Mine h1.size A2 i → i < h9.size := fun i hi => tw.two.wl.pl.lt hi
      have vk : Var 66 (keeps (· = h9.size) h11) h9.size c.tv := v11.keeps rfl
      have lenf : ∀ (S : List It) (p : It → Bool), (S.length : Int) ≤ 64 → ((S.filter p).length : Int) ≤ 64 := fun S p hS => by have := List.length_filter_le p S; omega
      have z911 := x911.size
      refine ⟨keeps (· = h9.size) h11, keeps_refl, c.n, vk.at1 rfl, c.n, vk.at1 rfl, name_spec fun h12 x12 => ⟨_, rfl, lone_sub v11 (v11.ext x12), ?_⟩⟩
      have t12 := (tw.more x911).more x12
      refine oof_spec t12.one.wl t12.one.text fun h13 A3 ta bs w13 g13 hbs o13 out13 => ⟨_, rfl, ?_⟩
      have v13 : Var 66 h13 h9.size c.tv := (v11.ext x12).only g13.only fun hx => by have := low1 _ hx; omega
      have t13 := t12.step w13 g13 (lenf _ _ t12.one.len) fun x hx => t12.one.fit x (List.mem_filter.1 hx).1
      refine ⟨lone_sub v11 v13, name_spec fun h14 x14 => ⟨_, rfl, ?_⟩⟩
      have t14 := (t13.more x14).symm
      refine oof_spec t14.one.wl t14.one.text fun h15 A5 tb cs w15 g15 hcs o15 out15 => ⟨_, rfl, ?_⟩
      have v15 : Var 66 h15 h9.size c.tv := (v13.ext x14).only g15.only fun hx => by have := low2 _ hx; omega
      have t15 := (t14.step w15 g15 (lenf _ _ t14.one.len) fun x hx => t14.one.fit x (List.mem_filter.1 hx).1).symm
      obtain ⟨n7, hn1, hn2, hn3, K7⟩ := out13.ex
      obtain ⟨n8, hm1, hm2, hm3, K8⟩ := out15.ex
      have z12 := x12.size
      have hfs := filter_strip hst (p := fun x => decide (x.fr = name c.n)) fun x => rfl
      have hfn := filter_strip hst (p := fun x => !decide (x.fr = name c.n)) fun x => rfl
      have o1315 : Own 74 85 h15 ta (bs.map Bk.tvB) := (o13.ext x14).only g15.only fun l hl hx => by have := low2 _ hx; have := hn3 l hl; omega
      have rs : bs.map Bk.r = cs.map Bk.r := by
        have e1 : bs.map Bk.r = (S1.filter fun x => decide (x.fr = name c.n)).map It.root := by
          have := congrArg (List.map Prod.fst) hbs
          rw [List.map_map, List.map_map] at this
          exact this
        have e2 : cs.map Bk.r = (S2.filter fun x => decide (x.fr = name c.n)).map It.root := by
          have := congrArg (List.map Prod.fst) hcs
          rw [List.map_map, List.map_map] at this
          exact this
        rw [e1, e2]
        exact map_strip hfs (f := It.root) fun x => rfl
      have lbc : bs.length = cs.length := by have := congrArg List.length rs; simpa using this
      have lta := o1315.len
      rw [List.length_map] at lta
      have ltb := o15.len
      rw [List.length_map] at ltb
      have lbs : bs.length = (S1.filter fun x => decide (x.fr = name c.n)).length := by have := congrArg List.length hbs; simpa using this
      have hlf := List.length_filter_le (fun x : It => decide (x.fr = name c.n)) S1
      intro J HJ
      refine If.split (fun hbb => by rw [← lta, ← ltb, lbc] at hbb; simp at hbb) fun _ => ?_
      refine ⟨c.n, v15.at1 rfl, name_spec fun h16 x16 => ⟨_, rfl, ?_⟩⟩
      have t16 := t15.more x16
      refine oof_spec t16.one.wl t16.one.text fun h17 A7 tc es w17 g17 hes o17 out17 => ⟨_, rfl, ?_⟩
      have hff : (S1.filter fun x => !decide (x.fr = name c.n)).filter (fun x => decide (x.fr = name c.n)) = [] := by
        rw [List.filter_filter]
        exact List.filter_eq_nil_iff.2 fun x _ => by simp
      have hff2 : (S1.filter fun x => !decide (x.fr = name c.n)).filter (fun x => !decide (x.fr = name c.n)) = S1.filter fun x => !decide (x.fr = name c.n) := by
        rw [List.filter_filter]
        exact List.filter_congr fun x _ => by simp
      rw [hff] at hes
      rw [hff2] at w17
      have tcl : tc.len = 0 := by
        have a1 := congrArg List.length hes
        have a2 := o17.len
        rw [List.length_map] at a2
        have : es.length = 0 := by simpa using a1
        omega
      rw [tcl]
      refine If.no (HJ _ _ ?_)
      clear HJ J
      have t17 := t16.step w17 g17 (lenf _ _ tw.one.len) fun x hx => tw.one.fit x (List.mem_filter.1 hx).1
      have oa : Own 74 85 h17 ta (bs.map Bk.tvB) := (o1315.ext x16).only g17.only fun l hl hx => by have := hn2 _ hx; have := hn3 l hl; omega
      have ob : Own 74 85 h17 tb (cs.map Bk.tvB) := (o15.ext x16).only g17.only fun l hl hx => by have := t15.one.wl.pl.lt hx; have := hm3 l hl; have := t13.one.wl.pl.lt hx; have := x14.size; omega
      have hsrt : Srt (S1.filter fun x => decide (x.fr = name c.n)) := List.Pairwise.filter _ tw.one.wl.pl.srt
      refine ⟨fun σ hh => 0 ≤ σ.2 ∧ σ.2 ≤ bs.length ∧ Ext h17 hh, fun σ _ => ((bs.length : Int) - σ.2).toNat, ⟨Int.le_refl 0, by first | omega | (dsimp only; omega), Ext.refl _⟩, ?_⟩
      rintro ⟨f2, k⟩ h18 ⟨k0, k1, x18⟩
      dsimp only at k0 k1 ⊢
      have t18 := t17.more x18
      refine If.dec.2 ⟨fun hk => ?_, fun hk => ?_⟩
      · have item : ∀ (i : Nat) (y : Bk), bs[i]? = some y → ∃ x, (S1.filter fun x => decide (x.fr = name c.n))[i]? = some x ∧ y.r = x.root ∧ y.d.slot = x.slot ∧ y.d.target = x.fr := by
          intro i y hy
          have h1' : (bs.map Bk.of)[i]? = some y.of := by rw [List.getElem?_map, hy]; rfl
          rw [hbs, List.getElem?_map] at h1'
          obtain ⟨x, hx, hxe⟩ := Option.map_eq_some_iff.1 h1'
          injection hxe with h2' h3'
          obtain ⟨_, d, hd, _, hxi⟩ := tw.one.fit x (List.mem_filter.1 (List.mem_of_getElem? hx)).1
          have hyd : y.d = d := by rw [← dmOf_some hd]; exact h3'.symm
          refine ⟨x, hx, h2'.symm, ?_, ?_⟩
          · rw [hyd, hxi]; rfl
          · rw [hyd, hxi]; rfl
        have rd : ∀ {i : Int} {K : Vc.Loc → Bk → Prop}, 0 ≤ i → i < bs.length → (∀ l y, bs[i.toNat]? = some y → y.tvB.at h18 l.b (l.o + i.toNat * 85) → K l y) → 0 ≤ i ∧ i < (ta.len : Int) ∧ Nn ta.a fun l => ∃ y, K l y := fun hi0 hi1 hK => (oa.elems.ext x18).read hi0 (by omega) fun l tt _ htt hat => by
          rw [List.getElem?_map] at htt
          obtain ⟨y, hy, rfl⟩ := Option.map_eq_some_iff.1 htt
          exact ⟨y, hK l y hy hat⟩
        refine ⟨h18, Sub.refl _, (oa.elems.ext x18).read k0 hk fun l1 t1 _ ht1 hat1 => ?_⟩
        rw [List.getElem?_map] at ht1
        obtain ⟨y, hy, rfl⟩ := Option.map_eq_some_iff.1 ht1
        refine ⟨y.r, hat1.1, (ob.elems.ext x18).read k0 (by omega) fun l2 t2 _ ht2 hat2 => ?_⟩
        rw [List.getElem?_map] at ht2
        obtain ⟨z, hz, rfl⟩ := Option.map_eq_some_iff.1 ht2
        have hyz : y.r = z.r := by
          have h1' : (bs.map Bk.r)[k.toNat]? = some y.r := by rw [List.getElem?_map, hy]; rfl
          rw [rs, List.getElem?_map, hz] at h1'
          exact (Option.some.inj h1').symm
        refine ⟨z.r, hat2.1, If.split (fun hbb => by rw [hyz] at hbb; simp at hbb) fun _ => ?_⟩
        obtain ⟨x, hx, hyr, hysl, hytg⟩ := item _ y hy
        have hxm := List.mem_filter.1 (List.mem_of_getElem? hx)
        have hxf : x.fr = name c.n := of_decide_eq_true hxm.2
        refine (oa.elems.ext x18).read k0 hk fun l3 t3 _ ht3 hat3 => ?_
        rw [List.getElem?_map, hy] at ht3
        obtain rfl : y.tvB = t3 := Option.some.inj ht3
        refine ⟨y.d.target, hat3.2.2.2.1, ?_⟩
        have v18 : Var 66 h18 h9.size c.tv := ((v15.ext x16).only g17.only fun hx => by have := low1 _ ((fun (h : Mine hb.size A3 h9.size) => (g13.new _ h).elim id fun h' => by omega) hx); omega).ext x18
        refine ⟨c.n, v18.at1 rfl, name_spec fun h19 x19 => ⟨_, rfl, x19.sub, ?_⟩⟩
        rw [hytg, hxf]
        refine If.split (fun hbb => by simp at hbb) fun _ => ?_
        refine (oa.elems.ext x18).read k0 hk fun l4 t4 _ ht4 hat4 => ?_
        rw [List.getElem?_map, hy] at ht4
        obtain rfl : y.tvB = t4 := Option.some.inj ht4
        refine ⟨y.r, hat4.1, ohas_spec (t18.more x19).one.wl fun h20 x20 => ⟨_, rfl, (x19.trans x20).sub, ?_⟩⟩
        have hno : has y.r (S1.filter fun x => !decide (x.fr = name c.n)) = false := by
          cases hh : has y.r (S1.filter fun x => !decide (x.fr = name c.n)) with
          | false => rfl
          | true =>
            obtain ⟨z, hz, hzr⟩ := List.any_eq_true.1 hh
            obtain ⟨hz1, hz2⟩ := List.mem_filter.1 hz
            have hzr' : z.root = x.root := by rw [← hyr]; exact of_decide_eq_true hzr
            have hzx : z = x := root_inj tw.one.wl.pl.names hxm.1 hz1 hzr'
            rw [hzx] at hz2
            simp [hxf] at hz2
        rw [hno]
        have last : (0 ≤ IntKind.wrap .i64 (k + 1) ∧ IntKind.wrap .i64 (k + 1) ≤ bs.length ∧ Ext h17 h20) ∧ ((bs.length : Int) - IntKind.wrap .i64 (k + 1)).toNat < ((bs.length : Int) - k).toNat := by
          rw [wrap_i64 (n := k + 1) (by omega) (by omega)]
          exact ⟨⟨by omega, by omega, (x18.trans x19).trans x20⟩, by omega⟩
        refine If.no (If.dec.2 ⟨fun hk0 => ?_, fun _ => last⟩)
        rw [wrap_i64 (n := k - 1) (by omega) (by omega)]
        refine (oa.elems.ext x18).read (i := k - 1) (by omega) (by omega) fun l5 t5 _ ht5 hat5 => ?_
        rw [List.getElem?_map] at ht5
        obtain ⟨z5, hz5, rfl⟩ := Option.map_eq_some_iff.1 ht5
        obtain ⟨xz, hxz, _, hzsl, _⟩ := item _ z5 hz5
        refine ⟨z5.d.slot, hat5.2.2.1, (oa.elems.ext x18).read k0 hk fun l6 t6 _ ht6 hat6 => ?_⟩
        rw [List.getElem?_map, hy] at ht6
        obtain rfl : y.tvB = t6 := Option.some.inj ht6
        refine ⟨y.d.slot, hat6.2.2.1, If.dec.2 ⟨fun hb => ?_, fun _ => last⟩⟩
        have hlt : xz.slot ≤ x.slot := by
          have hp := List.pairwise_iff_getElem.1 hsrt
          obtain ⟨i1', e1'⟩ := List.getElem?_eq_some_iff.1 hxz
          obtain ⟨i2', e2'⟩ := List.getElem?_eq_some_iff.1 hx
          have := hp (k - 1).toNat k.toNat i1' i2' (by omega)
          rw [e1', e2'] at this
          rcases bf_iff.1 this with h9 | h9 <;> omega
        omega
      · rw [wrap_i64 (n := j + 1) (by omega) (by omega)]
        exact ⟨⟨by first | omega | (dsimp only; omega), by first | omega | (dsimp only; omega), _, _, _, _, t18, hfn⟩, by first | omega | (dsimp only; omega)⟩
    · refine olen_spec tw.one.wl ⟨_, rfl, olen_spec tw.two.wl ⟨_, rfl, ?_⟩⟩
      have hsl : S1.length = S2.length := by have := congrArg List.length hst; simpa using this
      rw [hsl, decide_eq_true rfl]
      exact hr h9 (x0b.trans tw.one.old)

end
end Go.Proofs.YtldocdpdjdekiaaGreat.Pool
end

section
/- Arrays of bytes that come in. -/
namespace Go.Vc
open Go

def byteOfV : Value → UInt8
  | .int _ n => UInt8.ofNat n.toNat
  | _ => 0

theorem bytes_in {P : Program} {w : World} {r : Reach} {base : Nat} {t e : TypeId} {n : Nat} (ht : P.underlying t = some (.array n e)) (he : P.underlying e = some (.int .u8)) (hc : P.cellsOf t = n)
    (hct : P.cellTypes P.depth t = some (List.replicate n e)) {v : Value} (h : Value.okWide P w r base t v) : ∃ b : Bs n, v = (TV.bytes n b).val := by
  unfold Value.okWide at h
  rw [ht] at h
  simp only at h
  obtain ⟨cs, rfl, hs, ts, hts, _, hcell⟩ := h
  rw [hct] at hts
  obtain rfl := Option.some.inj hts
  have each : ∀ (i : Nat) (v : Value), cs[i]? = some v → v = Value.int .u8 ((byteOfV v).toNat : Int) := fun i v hv => by
    obtain ⟨u, hu, hok⟩ := hcell i v hv
    have : u = e := List.eq_of_mem_replicate (List.mem_of_getElem? hu)
    subst this
    unfold Cell.okWide at hok
    rw [he] at hok
    have hok' : Cell.ok P w r base u v := by
      revert hok
      cases v <;> exact id
    unfold Cell.ok at hok'
    rw [he] at hok'
    cases v <;> simp only at hok'
    case int k m =>
      obtain ⟨rfl, h0, h1⟩ := hok'
      have h0' : 0 ≤ m := h0
      have h1' : m ≤ 255 := h1
      unfold byteOfV
      rw [UInt8.toNat_ofNat']
      congr 1
      omega
  refine ⟨⟨cs.toList.map byteOfV, by simp [hs, hc]⟩, ?_⟩
  simp only [TV.val]
  congr 1
  apply Array.ext_getElem?
  intro i
  simp only [List.map_map, List.getElem?_toArray, List.getElem?_map, Array.getElem?_toList]
  cases hv : cs[i]? with
  | none => rfl
  | some v =>
    simp only [Option.map_some, Function.comp]
    rw [← each i v hv]

end Go.Vc
end

section
/- Scripts that come in. -/
namespace Go.Proofs.YtldocdpdjdekiaaGreat.Pool
open Go Go.Vc

section
variable {H : Type} {enc : TypeId × Value → H} {w : World} {base fuel : Nat} {spare : Nat → Bool} {held : Bool}

/-- A slice whose elements are known one by one. -/
theorem slice_in {α : Type} [Inhabited α] {tv : α → TV} {sz t e : Nat} (ht : Tryz.prog.underlying t = some (.slice e)) (he : Tryz.prog.cellsOf e = sz) (hsz : ∀ x, (tv x).size = sz)
    (hin : ∀ {fuel : Nat} {cs : List Value} {x : DataW H × List MemPlace}, DataW.trod enc Tryz.prog w base spare held fuel e cs = some x → ∃ v : α, cs = (tv v).cells)
    {a : Option Addr} {len cap : Nat} {x : DataW H × List MemPlace} (hs : ∀ x, a = some x → x.spot = none) (h : DataW.trod enc Tryz.prog w base spare held fuel t [.slice a len cap] = some x) :
    ∃ (sl : Sl) (cs : List α), Value.slice a len cap = (TV.slice sl).val ∧ Elems sz w.heap sl (cs.map tv) := by
  rcases Deep.open_slice ht h with ⟨hc, _⟩ | ⟨a', l', c', m, n, D, Pl, hc, _, hl, _, hm, _, hel⟩
  · simp only [List.cons.injEq, Value.slice.injEq, and_true] at hc
    obtain ⟨rfl, rfl, rfl⟩ := hc
    exact ⟨Sl.nil, [], rfl, Elems.nil_ sz _⟩
  · simp only [List.cons.injEq, Value.slice.injEq, and_true] at hc
    obtain ⟨rfl, rfl, rfl⟩ := hc
    have hsp := hs a' rfl
    have hlm : len ≤ m := by rw [hm]; split <;> omega
    have each : ∀ i, i < len → ∃ c : α, (tv c).at w.heap a'.block (a'.off + i * sz) := by
      intro i hi
      obtain ⟨cs', h1, h2⟩ := hel i (by omega)
      rw [he] at h1
      obtain ⟨_, hlen, hcell⟩ := World.cells?_some h1
      obtain ⟨c, rfl⟩ := hin h2
      refine ⟨c, ?_⟩
      rw [TV.at_iff]
      intro j hj
      have hj5 : j < sz := by rw [hsz] at hj; exact hj
      have := hcell j hj5
      rw [Deep.add_add] at this
      have hc2 := cel_of_cell hsp (i := i * sz + j) (v := (tv c).cells[j]'(by rw [TV.cells_length]; exact hj)) (by
        rw [this]
        simp [TV.cells_length, hj])
      rw [List.getElem?_eq_getElem (by rw [TV.cells_length]; exact hj), ← hc2, Nat.add_assoc]
    obtain ⟨f, hf⟩ := Deep.choose_lt each
    refine ⟨⟨some ⟨a'.block, a'.off⟩, len, cap⟩, (List.range len).map f, ?_, ⟨?_, ?_, ?_⟩⟩
    · cases a'
      simp only at hsp
      subst hsp
      rfl
    · simp
    · intro hn; cases hn
    · rintro l ⟨rfl⟩ i t ht
      rw [List.getElem?_map, Option.map_eq_some_iff] at ht
      obtain ⟨c, hc, rfl⟩ := ht
      rw [List.getElem?_map, Option.map_eq_some_iff] at hc
      obtain ⟨k, hk, rfl⟩ := hc
      have hk' := List.getElem?_eq_some_iff.1 hk
      obtain ⟨hi, he⟩ := hk'
      simp only [List.length_range] at hi
      simp only [List.getElem_range] at he
      subst he
      exact hf i hi

set_option maxRecDepth 100000 in
theorem oc_in {cs : List Value} {x : DataW H × List MemPlace} (h : DataW.trod enc Tryz.prog w base spare held fuel 66 cs = some x) : ∃ v : Oc, cs = v.tv.cells := by
  have hd : ∃ f0 f1 f2 f3 f4 f5 : Field, Tryz.prog.underlying 66 = some (.struct #[f0, f1, f2, f3, f4, f5]) ∧ f0.type = 3 ∧ f0.offset = 0 ∧ f1.type = 3 ∧ f1.offset = 1 ∧ f2.type = 9 ∧ f2.offset = 2 ∧ f3.type = 3 ∧ f3.offset = 3 ∧ f4.type = 3 ∧ f4.offset = 4 ∧ f5.type = 53 ∧ f5.offset = 5 := ⟨_, _, _, _, _, _, Tryz.underlying66, rfl, rfl, rfl, rfl, rfl, rfl, rfl, rfl, rfl, rfl, rfl, rfl⟩
  obtain ⟨f0, f1, f2, f3, f4, f5, hu, e0, g0, e1, g1, e2, g2, e3, g3, e4, g4, e5, g5⟩ := hd
  obtain ⟨xs, n, _, rfl, hlen, hl, hf⟩ := DataW.trod_struct hu h
  have c3 : Tryz.prog.cellsOf 3 = 1 := by kernel_rfl
  have c9 : Tryz.prog.cellsOf 9 = 1 := by kernel_rfl
  have c53 : Tryz.prog.cellsOf 53 = 1 := by kernel_rfl
  have cT : Tryz.prog.cellsOf 66 = 6 := by kernel_rfl
  match xs, hl with
  | [y0, y1, y2, y3, y4, y5], _ =>
    have t0 := hf 0 f0 rfl
    rw [e0, g0, c3] at t0
    have t1 := hf 1 f1 rfl
    rw [e1, g1, c3] at t1
    have t2 := hf 2 f2 rfl
    rw [e2, g2, c9] at t2
    have t3 := hf 3 f3 rfl
    rw [e3, g3, c3] at t3
    have t4 := hf 4 f4 rfl
    rw [e4, g4, c3] at t4
    have t5 := hf 5 f5 rfl
    rw [e5, g5, c53] at t5
    obtain ⟨n0, h0, _, w0⟩ := DataW.trod_int Tryz.underlying3 t0
    obtain ⟨n1, h1, _, w1⟩ := DataW.trod_int Tryz.underlying3 t1
    obtain ⟨n2, h2, _, _⟩ := DataW.trod_string Tryz.underlying9 t2
    obtain ⟨n3, h3, _, w3⟩ := DataW.trod_int Tryz.underlying3 t3
    obtain ⟨n4, h4, _, w4⟩ := DataW.trod_int Tryz.underlying3 t4
    obtain ⟨n5, h5, _, w5⟩ := DataW.trod_int Tryz.underlying53 t5
    rw [cT] at hlen
    match cs, hlen with
    | [v0, v1, v2, v3, v4, v5], _ =>
      simp only [List.drop_zero, List.take_succ_cons, List.take_zero, List.drop_succ_cons, List.cons.injEq, and_true] at h0 h1 h2 h3 h4 h5
      subst h0; subst h1; subst h2; subst h3; subst h4; subst h5
      exact ⟨⟨n0, n1, n2.data.toList, n3, n4, n5, wf_u64 w5⟩, by simp [Oc.tv, TV.cells, TVs.cells]⟩

theorem ocs_in {a : Option Addr} {len cap : Nat} {x : DataW H × List MemPlace} (hs : ∀ x, a = some x → x.spot = none) (h : DataW.trod enc Tryz.prog w base spare held fuel 61 [.slice a len cap] = some x) :
    ∃ (sl : Sl) (l : List Oc), Value.slice a len cap = (TV.slice sl).val ∧ Elems 6 w.heap sl (l.map Oc.tv) :=
  slice_in (tv := Oc.tv) Tryz.underlying61 (by kernel_rfl) (fun _ => rfl) (fun h => oc_in h) hs h

end
end Go.Proofs.YtldocdpdjdekiaaGreat.Pool
end
