/- The conditions of functions, as the generator reckons them out, each with the proof that it is that. -/
import Derived.Test.YtjadpjbiiidioaaCtx
namespace Go.Proofs.Ytjadpjbiiidioaa
open Go Go.Vc
set_option maxRecDepth 100000
set_option linter.unusedVariables false

def tollerlaw15_PoolTurned_vc (script : Sl) (turn : Int) (h : Heap) (R : Value → Heap → Prop) : Prop :=
 CallsH Try.prog (10 : Nat) (TVs.vals []) h fun (v : Value) (h : Heap) ↦
 ∃ (b : Bool),
 v = TV.val (TV.bool b) ∧
 If (!b) (R (TV.val (TV.bool false)) h)
 (Join
 (fun (s : Bool) (h : Array Obj) ↦
 CallsH Try.prog (12 : Nat) (TVs.vals [TV.int IntKind.i64 (64 : Int), TV.int IntKind.i64 (64 : Int)]) h fun (v : Value) (h : Array Obj) ↦
 ∃ (p : Option Go.Vc.Loc),
 v = TV.val (TV.ptr p) ∧
 CallsH Try.prog (12 : Nat) (TVs.vals [TV.int IntKind.i64 (64 : Int), TV.int IntKind.i64 (64 : Int)]) h fun (v : Value) (h : Array Obj) ↦
 ∃ (p_1 : Option Go.Vc.Loc),
 v = TV.val (TV.ptr p_1) ∧
 IntKind.wrap IntKind.u64 (↑script.len : Int) ≠ (0 : Int) ∧
 Go.Vc.Loop (s, (0 : Int)) h fun (s_1 : Bool × Int) (h : Array Obj) (K : Bool × Int → Array Obj → Prop) ↦
 If (decide (s_1.snd < (↑script.len : Int)))
 ((0 : Int) ≤ s_1.snd ∧
 s_1.snd < (↑script.len : Int) ∧
 Nn script.a fun (l : Go.Vc.Loc) ↦
 ∃ (n : Int),
 ∃ (n_1 : Int),
 ∃ (n_2 : Int),
 ∃ (n_3 : Int),
 ∃ (s_2 : List UInt8),
 (at1 h l.b (l.o + Int.toNat s_1.snd * (5 : Nat)) (Value.int IntKind.i64 n) ∧
 at1 h l.b (l.o + Int.toNat s_1.snd * (5 : Nat) + (1 : Nat)) (Value.int IntKind.i64 n_1) ∧
 at1 h l.b (l.o + Int.toNat s_1.snd * (5 : Nat) + (1 : Nat) + (1 : Nat)) (Value.int IntKind.i64 n_2) ∧
 at1 h l.b (l.o + Int.toNat s_1.snd * (5 : Nat) + (1 : Nat) + (1 : Nat) + (1 : Nat))
 (Value.int IntKind.i64 n_3) ∧
 at1 h l.b (l.o + Int.toNat s_1.snd * (5 : Nat) + (1 : Nat) + (1 : Nat) + (1 : Nat) + (1 : Nat))
 (Value.string (ByteArray.mk (List.toArray s_2)))) ∧
 CallsH Try.prog (14 : Nat)
 (TVs.vals
 [TV.agg
 [TV.int IntKind.i64 n, TV.int IntKind.i64 n_1, TV.int IntKind.i64 n_2, TV.int IntKind.i64 n_3,
 TV.str s_2]])
 h fun (v : Value) (h : Array Obj) ↦
 ∃ (n : Int),
 ∃ (b : Bs (32 : Nat)),
 ∃ (n_4 : Int),
 ∃ (b_1 : Bs (32 : Nat)),
 ∃ (s_3 : List UInt8),
 v =
 TV.val
 (TV.agg
 [TV.int IntKind.i64 n, TV.bytes (32 : Nat) b, TV.int IntKind.i64 n_4,
 TV.bytes (32 : Nat) b_1, TV.str s_3]) ∧
 CallsH Try.prog (13 : Nat)
 (TVs.vals
 [TV.ptr p,
 TV.agg
 [TV.int IntKind.i64 n, TV.bytes (32 : Nat) b, TV.int IntKind.i64 n_4,
 TV.bytes (32 : Nat) b_1, TV.str s_3]])
 h fun (v : Value) (h : Array Obj) ↦
 ∃ (n : Int),
 ∃ (n_5 : Int),
 ∃ (b : Bs (32 : Nat)),
 ∃ (n_6 : Int),
 ∃ (b_2 : Bs (32 : Nat)),
 ∃ (s_4 : List UInt8),
 v =
 TV.val
 (TV.tup
 [TV.int IntKind.i64 n,
 TV.agg
 [TV.int IntKind.i64 n_5, TV.bytes (32 : Nat) b, TV.int IntKind.i64 n_6,
 TV.bytes (32 : Nat) b_2, TV.str s_4]]) ∧
 Vc.Bind
 (newTV h
 (TV.agg
 [TV.int IntKind.i64 (0 : Int), TV.bytes (32 : Nat) (Bs.zero (32 : Nat)),
 TV.int IntKind.i64 (0 : Int), TV.bytes (32 : Nat) (Bs.zero (32 : Nat)),
 TV.str []])
 (32 : Nat))
 fun (h_1 : Array Obj) ↦
 wok h_1 (Array.size h) (0 : Nat)
 (Nat.succ
 (Nat.add (1 : Nat) (Nat.add (32 : Nat) (Nat.add (1 : Nat) (32 : Nat))))) ∧
 Vc.Bind
 (TV.put h_1 (Array.size h) (0 : Nat)
 (TV.agg
 [TV.int IntKind.i64 n_5, TV.bytes (32 : Nat) b, TV.int IntKind.i64 n_6,
 TV.bytes (32 : Nat) b_2, TV.str s_4]))
 fun (h : Array Obj) ↦
 (↑script.len : Int) ≠ (0 : Int) ∧
 (0 : Int) ≤
 IntKind.wrap IntKind.i64
 (IntKind.wrap IntKind.i64 ((↑script.len : Int) - (1 : Int)) -
 Int.tmod
 (IntKind.wrap IntKind.i64
 (s_1.snd +
 IntKind.wrap IntKind.i64
 (Int.tmod (IntKind.wrap IntKind.u64 turn)
 (IntKind.wrap IntKind.u64 (↑script.len : Int)))))
 (↑script.len : Int)) ∧
 IntKind.wrap IntKind.i64
 (IntKind.wrap IntKind.i64 ((↑script.len : Int) - (1 : Int)) -
 Int.tmod
 (IntKind.wrap IntKind.i64
 (s_1.snd +
 IntKind.wrap IntKind.i64
 (Int.tmod (IntKind.wrap IntKind.u64 turn)
 (IntKind.wrap IntKind.u64 (↑script.len : Int)))))
 (↑script.len : Int)) <
 (↑script.len : Int) ∧
 Nn script.a fun (l : Go.Vc.Loc) ↦
 ∃ (n_7 : Int),
 ∃ (n_8 : Int),
 ∃ (n_9 : Int),
 ∃ (n_10 : Int),
 ∃ (s_5 : List UInt8),
 (at1 h l.b
 (l.o +
 Int.toNat
 (IntKind.wrap IntKind.i64
 (IntKind.wrap IntKind.i64
 ((↑script.len : Int) - (1 : Int)) -
 Int.tmod
 (IntKind.wrap IntKind.i64
 (s_1.snd +
 IntKind.wrap IntKind.i64
 (Int.tmod
 (IntKind.wrap IntKind.u64 turn)
 (IntKind.wrap IntKind.u64
 (↑script.len : Int)))))
 (↑script.len : Int))) *
 (5 : Nat))
 (Value.int IntKind.i64 n_7) ∧
 at1 h l.b
 (l.o +
 Int.toNat
 (IntKind.wrap IntKind.i64
 (IntKind.wrap IntKind.i64
 ((↑script.len : Int) - (1 : Int)) -
 Int.tmod
 (IntKind.wrap IntKind.i64
 (s_1.snd +
 IntKind.wrap IntKind.i64
 (Int.tmod
 (IntKind.wrap IntKind.u64
 turn)
 (IntKind.wrap IntKind.u64
 (↑script.len : Int)))))
 (↑script.len : Int))) *
 (5 : Nat) +
 (1 : Nat))
 (Value.int IntKind.i64 n_8) ∧
 at1 h l.b
 (l.o +
 Int.toNat
 (IntKind.wrap IntKind.i64
 (IntKind.wrap IntKind.i64
 ((↑script.len : Int) -
 (1 : Int)) -
 Int.tmod
 (IntKind.wrap IntKind.i64
 (s_1.snd +
 IntKind.wrap IntKind.i64
 (Int.tmod
 (IntKind.wrap
 IntKind.u64 turn)
 (IntKind.wrap
 IntKind.u64
 (↑script.len :
 Int)))))
 (↑script.len : Int))) *
 (5 : Nat) +
 (1 : Nat) +
 (1 : Nat))
 (Value.int IntKind.i64 n_9) ∧
 at1 h l.b
 (l.o +
 Int.toNat
 (IntKind.wrap IntKind.i64
 (IntKind.wrap IntKind.i64
 ((↑script.len : Int) -
 (1 : Int)) -
 Int.tmod
 (IntKind.wrap IntKind.i64
 (s_1.snd +
 IntKind.wrap IntKind.i64
 (Int.tmod
 (IntKind.wrap
 IntKind.u64 turn)
 (IntKind.wrap
 IntKind.u64
 (↑script.len :
 Int)))))
 (↑script.len : Int))) *
 (5 : Nat) +
 (1 : Nat) +
 (1 : Nat) +
 (1 : Nat))
 (Value.int IntKind.i64 n_10) ∧
 at1 h l.b
 (l.o +
 Int.toNat
 (IntKind.wrap IntKind.i64
 (IntKind.wrap IntKind.i64
 ((↑script.len : Int) -
 (1 : Int)) -
 Int.tmod
 (IntKind.wrap IntKind.i64
 (s_1.snd +
 IntKind.wrap
 IntKind.i64
 (Int.tmod
 (IntKind.wrap
 IntKind.u64
 turn)
 (IntKind.wrap
 IntKind.u64
 (↑script.len :
 Int)))))
 (↑script.len : Int))) *
 (5 : Nat) +
 (1 : Nat) +
 (1 : Nat) +
 (1 : Nat) +
 (1 : Nat))
 (Value.string
 (ByteArray.mk (List.toArray s_5)))) ∧
 CallsH Try.prog (14 : Nat)
 (TVs.vals
 [TV.agg
 [TV.int IntKind.i64 n_7, TV.int IntKind.i64 n_8,
 TV.int IntKind.i64 n_9,
 TV.int IntKind.i64 n_10, TV.str s_5]])
 h fun (v : Value) (h : Array Obj) ↦
 ∃ (n_11 : Int),
 ∃ (b : Bs (32 : Nat)),
 ∃ (n_12 : Int),
 ∃ (b_3 : Bs (32 : Nat)),
 ∃ (s_6 : List UInt8),
 v =
 TV.val
 (TV.agg
 [TV.int IntKind.i64 n_11,
 TV.bytes (32 : Nat) b,
 TV.int IntKind.i64 n_12,
 TV.bytes (32 : Nat) b_3,
 TV.str s_6]) ∧
 CallsH Try.prog (13 : Nat)
 (TVs.vals
 [TV.ptr p_1,
 TV.agg
 [TV.int IntKind.i64 n_11,
 TV.bytes (32 : Nat) b,
 TV.int IntKind.i64 n_12,
 TV.bytes (32 : Nat) b_3,
 TV.str s_6]])
 h fun (v : Value) (h : Array Obj) ↦
 ∃ (n_13 : Int),
 ∃ (n_14 : Int),
 ∃ (b : Bs (32 : Nat)),
 ∃ (n_15 : Int),
 ∃ (b_4 : Bs (32 : Nat)),
 ∃ (s_7 : List UInt8),
 v =
 TV.val
 (TV.tup
 [TV.int IntKind.i64
 n_13,
 TV.agg
 [TV.int
 IntKind.i64
 n_14,
 TV.bytes
 (32 : Nat)
 b,
 TV.int
 IntKind.i64
 n_15,
 TV.bytes
 (32 : Nat)
 b_4,
 TV.str
 s_7]]) ∧
 Vc.Bind
 (newTV h
 (TV.agg
 [TV.int IntKind.i64
 (0 : Int),
 TV.bytes
 (32 : Nat)
 (Bs.zero
 (32 : Nat)),
 TV.int IntKind.i64
 (0 : Int),
 TV.bytes
 (32 : Nat)
 (Bs.zero
 (32 : Nat)),
 TV.str []])
 (32 : Nat))
 fun (h_2 : Array Obj) ↦
 wok h_2 (Array.size h)
 (0 : Nat)
 (Nat.succ
 (Nat.add (1 : Nat)
 (Nat.add
 (32 : Nat)
 (Nat.add
 (1 : Nat)
 (32 :
 Nat))))) ∧
 Vc.Bind
 (TV.put h_2
 (Array.size h)
 (0 : Nat)
 (TV.agg
 [TV.int
 IntKind.i64
 n_14,
 TV.bytes
 (32 : Nat)
 b,
 TV.int
 IntKind.i64
 n_15,
 TV.bytes
 (32 : Nat)
 b_4,
 TV.str s_7]))
 fun
 (h : Array Obj) ↦
 Join
 (fun (s_8 : Bool)
 (h :
 Array Obj) ↦
 If s_8
 (If
 (decide
 (n =
 (1 :
 Int)))
 (R
 (TV.val
 (TV.bool
 true))
 h)
 (If
 (decide
 (n =
 (9 :
 Int)))
 (R
 (TV.val
 (TV.bool
 true))
 h)
 (R
 (TV.val
 (TV.bool
 (decide
 (n_13 =
 (9 :
 Int)))))
 h)))
 (K
 (s_1.fst,
 IntKind.wrap
 IntKind.i64
 (s_1.snd +
 (1 :
 Int)))
 h))
 fun
 (J :
 Bool →
 Array Obj →
 Prop) ↦
 If
 (!decide
 (n =
 (1 :
 Int)))
 (J true h)
 (J
 (!decide
 (n_13 =
 (1 :
 Int)))
 h))
 (CallsH Try.prog (17 : Nat) (TVs.vals [TV.ptr p]) h fun (v : Value) (h : Array Obj) ↦
 ∃ (s : Sl),
 v = TV.val (TV.slice s) ∧
 CallsH Try.prog (16 : Nat) (TVs.vals [TV.slice s]) h fun (v : Value) (h : Array Obj) ↦
 ∃ (s : Sl),
 v = TV.val (TV.slice s) ∧
 CallsH Try.prog (17 : Nat) (TVs.vals [TV.ptr p_1]) h fun (v : Value) (h : Array Obj) ↦
 ∃ (s_2 : Sl),
 v = TV.val (TV.slice s_2) ∧
 CallsH Try.prog (16 : Nat) (TVs.vals [TV.slice s_2]) h fun (v : Value) (h : Array Obj) ↦
 ∃ (s_3 : Sl),
 v = TV.val (TV.slice s_3) ∧
 CallsH Try.prog (15 : Nat) (TVs.vals [TV.slice s, TV.slice s_3]) h fun (v : Value) (h : Array Obj) ↦
 ∃ (b : Bool), v = TV.val (TV.bool b) ∧ R (TV.val (TV.bool b)) h))
 fun (J : Bool → Array Obj → Prop) ↦
 CallsH Try.prog (11 : Nat) (TVs.vals [TV.slice script]) h fun (v : Value) (h : Heap) ↦
 ∃ (b : Bool),
 v = TV.val (TV.bool b) ∧
 If b (R (TV.val (TV.bool true)) h)
 (If (decide ((60 : Int) < (↑script.len : Int))) (R (TV.val (TV.bool true)) h)
 (If (decide ((↑script.len : Int) = (0 : Int))) (R (TV.val (TV.bool true)) h) (J false h))))

theorem tollerlaw15_PoolTurned_calls (script : Sl) (turn : Int) (h : Heap) (R : Value → Heap → Prop) (H : tollerlaw15_PoolTurned_vc script turn h R) : CallsH Try.prog 3 (TVs.vals [TV.slice script, TV.int IntKind.i64 turn]) h R :=
 vcFn_sound (C := ctx) ctx_ok (fn := Try.f3) Try.func3 ((by kernel_rfl : tollerlaw15_PoolTurned_vc script turn h R = vcFn ctx Try.f3 [TV.slice script, TV.int IntKind.i64 turn] h R) ▸ H)


def tollerlaw15_PoolGives_vc (most : Int) (quota : Int) (script : Sl) (h : Heap) (R : Value → Heap → Prop) : Prop :=
 CallsH Try.prog (10 : Nat) (TVs.vals []) h fun (v : Value) (h : Heap) ↦
 ∃ (b : Bool),
 v = TV.val (TV.bool b) ∧
 If (!b) (R (TV.val (TV.bool false)) h)
 (CallsH Try.prog (11 : Nat) (TVs.vals [TV.slice script]) h fun (v : Value) (h : Heap) ↦
 ∃ (b : Bool),
 v = TV.val (TV.bool b) ∧
 If b (R (TV.val (TV.bool true)) h)
 (CallsH Try.prog (12 : Nat) (TVs.vals [TV.int IntKind.i64 most, TV.int IntKind.i64 quota]) h fun (v : Value) (h : Heap) ↦
 ∃ (p : Option Go.Vc.Loc),
 v = TV.val (TV.ptr p) ∧
 If (Option.isNone p) (R (TV.val (TV.bool true)) h)
 (Go.Vc.Loop (false, (0 : Int)) h fun (s : Bool × Int) (h : Array Obj) (K : Bool × Int → Array Obj → Prop) ↦
 If (decide (s.snd < (↑script.len : Int)))
 ((0 : Int) ≤ s.snd ∧
 s.snd < (↑script.len : Int) ∧
 Nn script.a fun (l : Go.Vc.Loc) ↦
 ∃ (n : Int),
 ∃ (n_1 : Int),
 ∃ (n_2 : Int),
 ∃ (n_3 : Int),
 ∃ (s_1 : List UInt8),
 (at1 h l.b (l.o + Int.toNat s.snd * (5 : Nat)) (Value.int IntKind.i64 n) ∧
 at1 h l.b (l.o + Int.toNat s.snd * (5 : Nat) + (1 : Nat)) (Value.int IntKind.i64 n_1) ∧
 at1 h l.b (l.o + Int.toNat s.snd * (5 : Nat) + (1 : Nat) + (1 : Nat)) (Value.int IntKind.i64 n_2) ∧
 at1 h l.b (l.o + Int.toNat s.snd * (5 : Nat) + (1 : Nat) + (1 : Nat) + (1 : Nat))
 (Value.int IntKind.i64 n_3) ∧
 at1 h l.b (l.o + Int.toNat s.snd * (5 : Nat) + (1 : Nat) + (1 : Nat) + (1 : Nat) + (1 : Nat))
 (Value.string (ByteArray.mk (List.toArray s_1)))) ∧
 Vc.Bind
 (newTV h
 (TV.agg
 [TV.int IntKind.i64 (0 : Int), TV.int IntKind.i64 (0 : Int), TV.int IntKind.i64 (0 : Int),
 TV.int IntKind.i64 (0 : Int), TV.str []])
 (36 : Nat))
 fun (h_1 : Array Obj) ↦
 wok h_1 (Array.size h) (0 : Nat)
 (Nat.succ (Nat.add (1 : Nat) (Nat.add (1 : Nat) (Nat.add (1 : Nat) (1 : Nat))))) ∧
 Vc.Bind
 (TV.put h_1 (Array.size h) (0 : Nat)
 (TV.agg
 [TV.int IntKind.i64 n, TV.int IntKind.i64 n_1, TV.int IntKind.i64 n_2, TV.int IntKind.i64 n_3,
 TV.str s_1]))
 fun (h_2 : Array Obj) ↦
 CallsH Try.prog (17 : Nat) (TVs.vals [TV.ptr p]) h_2 fun (v : Value) (h_3 : Array Obj) ↦
 ∃ (s_2 : Sl),
 v = TV.val (TV.slice s_2) ∧
 CallsH Try.prog (16 : Nat) (TVs.vals [TV.slice s_2]) h_3 fun (v : Value) (h_4 : Array Obj) ↦
 ∃ (s_3 : Sl),
 v = TV.val (TV.slice s_3) ∧
 ∃ (n : Int),
 ∃ (n_4 : Int),
 ∃ (n_5 : Int),
 ∃ (n_6 : Int),
 ∃ (s_4 : List UInt8),
 (at1 h_4 (Array.size h) (0 : Nat) (Value.int IntKind.i64 n) ∧
 at1 h_4 (Array.size h) (1 : Nat) (Value.int IntKind.i64 n_4) ∧
 at1 h_4 (Array.size h) (2 : Nat) (Value.int IntKind.i64 n_5) ∧
 at1 h_4 (Array.size h) (3 : Nat) (Value.int IntKind.i64 n_6) ∧
 at1 h_4 (Array.size h) (4 : Nat)
 (Value.string (ByteArray.mk (List.toArray s_4)))) ∧
 CallsH Try.prog (14 : Nat)
 (TVs.vals
 [TV.agg
 [TV.int IntKind.i64 n, TV.int IntKind.i64 n_4, TV.int IntKind.i64 n_5,
 TV.int IntKind.i64 n_6, TV.str s_4]])
 h_4 fun (v : Value) (h_5 : Array Obj) ↦
 ∃ (n : Int),
 ∃ (b : Bs (32 : Nat)),
 ∃ (n_7 : Int),
 ∃ (b_1 : Bs (32 : Nat)),
 ∃ (s_5 : List UInt8),
 v =
 TV.val
 (TV.agg
 [TV.int IntKind.i64 n, TV.bytes (32 : Nat) b,
 TV.int IntKind.i64 n_7, TV.bytes (32 : Nat) b_1,
 TV.str s_5]) ∧
 CallsH Try.prog (13 : Nat)
 (TVs.vals
 [TV.ptr p,
 TV.agg
 [TV.int IntKind.i64 n, TV.bytes (32 : Nat) b,
 TV.int IntKind.i64 n_7, TV.bytes (32 : Nat) b_1,
 TV.str s_5]])
 h_5 fun (v : Value) (h_6 : Array Obj) ↦
 ∃ (n : Int),
 ∃ (n_8 : Int),
 ∃ (b : Bs (32 : Nat)),
 ∃ (n_9 : Int),
 ∃ (b_2 : Bs (32 : Nat)),
 ∃ (s_6 : List UInt8),
 v =
 TV.val
 (TV.tup
 [TV.int IntKind.i64 n,
 TV.agg
 [TV.int IntKind.i64 n_8,
 TV.bytes (32 : Nat) b,
 TV.int IntKind.i64 n_9,
 TV.bytes (32 : Nat) b_2, TV.str s_6]]) ∧
 Vc.Bind
 (newTV h_6
 (TV.agg
 [TV.int IntKind.i64 (0 : Int),
 TV.bytes (32 : Nat) (Bs.zero (32 : Nat)),
 TV.int IntKind.i64 (0 : Int),
 TV.bytes (32 : Nat) (Bs.zero (32 : Nat)),
 TV.str []])
 (32 : Nat))
 fun (h_7 : Array Obj) ↦
 wok h_7 (Array.size h_6) (0 : Nat)
 (Nat.succ
 (Nat.add (1 : Nat)
 (Nat.add (32 : Nat)
 (Nat.add (1 : Nat) (32 : Nat))))) ∧
 Vc.Bind
 (TV.put h_7 (Array.size h_6) (0 : Nat)
 (TV.agg
 [TV.int IntKind.i64 n_8,
 TV.bytes (32 : Nat) b,
 TV.int IntKind.i64 n_9,
 TV.bytes (32 : Nat) b_2, TV.str s_6]))
 fun (h_8 : Array Obj) ↦
 CallsH Try.prog (17 : Nat) (TVs.vals [TV.ptr p])
 h_8 fun (v : Value) (h_9 : Array Obj) ↦
 ∃ (s_7 : Sl),
 v = TV.val (TV.slice s_7) ∧
 If (decide (n = (1 : Int)))
 (If
 (!decide
 ((↑s_7.len : Int) =
 IntKind.wrap IntKind.i64
 ((↑s_3.len : Int) +
 (1 : Int))))
 (R (TV.val (TV.bool false)) h_9)
 (∃ (n : Int),
 ∃ (n_10 : Int),
 ∃ (n_11 : Int),
 ∃ (n_12 : Int),
 ∃ (s_8 : List UInt8),
 (at1 h_9 (Array.size h)
 (0 : Nat)
 (Value.int IntKind.i64
 n) ∧
 at1 h_9 (Array.size h)
 (1 : Nat)
 (Value.int
 IntKind.i64
 n_10) ∧
 at1 h_9 (Array.size h)
 (2 : Nat)
 (Value.int
 IntKind.i64
 n_11) ∧
 at1 h_9
 (Array.size h)
 (3 : Nat)
 (Value.int
 IntKind.i64
 n_12) ∧
 at1 h_9
 (Array.size h)
 (4 : Nat)
 (Value.string
 (ByteArray.mk
 (List.toArray
 s_8)))) ∧
 CallsH Try.prog (14 : Nat)
 (TVs.vals
 [TV.agg
 [TV.int
 IntKind.i64 n,
 TV.int
 IntKind.i64
 n_10,
 TV.int
 IntKind.i64
 n_11,
 TV.int
 IntKind.i64
 n_12,
 TV.str s_8]])
 h_9
 fun (v : Value)
 (h : Array Obj) ↦
 ∃ (n : Int),
 ∃ (b : Bs (32 : Nat)),
 ∃ (n_13 : Int),
 ∃ (b_3 :
 Bs (32 : Nat)),
 ∃ (s_9 :
 List UInt8),
 v =
 TV.val
 (TV.agg
 [TV.int
 IntKind.i64
 n,
 TV.bytes
 (32 :
 Nat)
 b,
 TV.int
 IntKind.i64
 n_13,
 TV.bytes
 (32 :
 Nat)
 b_3,
 TV.str
 s_9]) ∧
 CallsH
 Try.prog
 (18 : Nat)
 (TVs.vals
 [TV.ptr
 p,
 TV.bytes
 (32 :
 Nat)
 b])
 h
 fun
 (v :
 Value)
 (h :
 Array
 Obj) ↦
 ∃ (b :
 Bool),
 v =
 TV.val
 (TV.bool
 b) ∧
 If
 (!b)
 (R
 (TV.val
 (TV.bool
 false))
 h)
 (K
 (s.fst,
 IntKind.wrap
 IntKind.i64
 (s.snd +
 (1 :
 Int)))
 h)))
 (If (decide (n = (2 : Int)))
 (Join
 (fun (s_8 : Bool) (h : Array Obj) ↦
 Go.Vc.Loop (s_8, (0 : Int)) h
 fun (s_9 : Bool × Int)
 (h : Array Obj)
 (K_1 :
 Bool × Int →
 Array Obj → Prop) ↦
 If
 (decide
 (s_9.snd <
 (↑s_7.len : Int)))
 ((0 : Int) ≤ s_9.snd ∧
 s_9.snd < (↑s_7.len : Int) ∧
 Nn s_7.a
 fun (l : Go.Vc.Loc) ↦
 ∃ (n : Int),
 ∃ (b : Bs (32 : Nat)),
 ∃ (n_10 : Int),
 ∃ (b_3 :
 Bs (32 : Nat)),
 ∃ (s :
 List UInt8),
 (at1 h l.b
 (l.o +
 Int.toNat
 s_9.snd *
 (67 :
 Nat))
 (Value.int
 IntKind.i64
 n) ∧
 atBytes h
 l.b
 (l.o +
 Int.toNat
 s_9.snd *
 (67 :
 Nat) +
 (1 :
 Nat))
 (32 :
 Nat)
 b ∧
 at1 h
 l.b
 (l.o +
 Int.toNat
 s_9.snd *
 (67 :
 Nat) +
 (1 :
 Nat) +
 (32 :
 Nat))
 (Value.int
 IntKind.i64
 n_10) ∧
 atBytes
 h
 l.b
 (l.o +
 Int.toNat
 s_9.snd *
 (67 :
 Nat) +
 (1 :
 Nat) +
 (32 :
 Nat) +
 (1 :
 Nat))
 (32 :
 Nat)
 b_3 ∧
 at1
 h
 l.b
 (l.o +
 Int.toNat
 s_9.snd *
 (67 :
 Nat) +
 (1 :
 Nat) +
 (32 :
 Nat) +
 (1 :
 Nat) +
 (32 :
 Nat))
 (Value.string
 (ByteArray.mk
 (List.toArray
 s)))) ∧
 Vc.Bind
 (newTV h
 (TV.agg
 [TV.int
 IntKind.i64
 (0 :
 Int),
 TV.bytes
 (32 :
 Nat)
 (Bs.zero
 (32 :
 Nat)),
 TV.int
 IntKind.i64
 (0 :
 Int),
 TV.bytes
 (32 :
 Nat)
 (Bs.zero
 (32 :
 Nat)),
 TV.str
 []])
 (32 :
 Nat))
 fun
 (h_10 :
 Array
 Obj) ↦
 wok h_10
 (Array.size
 h)
 (0 :
 Nat)
 (Nat.succ
 (Nat.add
 (1 :
 Nat)
 (Nat.add
 (32 :
 Nat)
 (Nat.add
 (1 :
 Nat)
 (32 :
 Nat))))) ∧
 Vc.Bind
 (TV.put
 h_10
 (Array.size
 h)
 (0 :
 Nat)
 (TV.agg
 [TV.int
 IntKind.i64
 n,
 TV.bytes
 (32 :
 Nat)
 b,
 TV.int
 IntKind.i64
 n_10,
 TV.bytes
 (32 :
 Nat)
 b_3,
 TV.str
 s]))
 fun
 (h_11 :
 Array
 Obj) ↦
 ∃ (n :
 Int),
 ∃ (b
 :
 Bs
 (32 :
 Nat)),
 ∃
 (n_11
 :
 Int),
 ∃
 (b_4
 :
 Bs
 (32 :
 Nat)),
 ∃
 (s
 :
 List
 UInt8),
 (at1
 h_11
 (Array.size
 h)
 (0 :
 Nat)
 (Value.int
 IntKind.i64
 n) ∧
 atBytes
 h_11
 (Array.size
 h)
 (1 :
 Nat)
 (32 :
 Nat)
 b ∧
 at1
 h_11
 (Array.size
 h)
 (33 :
 Nat)
 (Value.int
 IntKind.i64
 n_11) ∧
 atBytes
 h_11
 (Array.size
 h)
 (34 :
 Nat)
 (32 :
 Nat)
 b_4 ∧
 at1
 h_11
 (Array.size
 h)
 (66 :
 Nat)
 (Value.string
 (ByteArray.mk
 (List.toArray
 s)))) ∧
 ∃
 (n_12
 :
 Int),
 ∃
 (b_5
 :
 Bs
 (32 :
 Nat)),
 ∃
 (n_13
 :
 Int),
 ∃
 (b_6
 :
 Bs
 (32 :
 Nat)),
 ∃
 (s_10
 :
 List
 UInt8),
 (at1
 h_11
 (Array.size
 h_6)
 (0 :
 Nat)
 (Value.int
 IntKind.i64
 n_12) ∧
 atBytes
 h_11
 (Array.size
 h_6)
 (1 :
 Nat)
 (32 :
 Nat)
 b_5 ∧
 at1
 h_11
 (Array.size
 h_6)
 (33 :
 Nat)
 (Value.int
 IntKind.i64
 n_13) ∧
 atBytes
 h_11
 (Array.size
 h_6)
 (34 :
 Nat)
 (32 :
 Nat)
 b_6 ∧
 at1
 h_11
 (Array.size
 h_6)
 (66 :
 Nat)
 (Value.string
 (ByteArray.mk
 (List.toArray
 s_10)))) ∧
 CallsH
 Try.prog
 (19 :
 Nat)
 (TVs.vals
 [TV.agg
 [TV.int
 IntKind.i64
 n,
 TV.bytes
 (32 :
 Nat)
 b,
 TV.int
 IntKind.i64
 n_11,
 TV.bytes
 (32 :
 Nat)
 b_4,
 TV.str
 s],
 TV.agg
 [TV.int
 IntKind.i64
 n_12,
 TV.bytes
 (32 :
 Nat)
 b_5,
 TV.int
 IntKind.i64
 n_13,
 TV.bytes
 (32 :
 Nat)
 b_6,
 TV.str
 s_10]])
 h_11
 fun
 (v :
 Value)
 (h :
 Array
 Obj) ↦
 ∃
 (b
 :
 Bool),
 v =
 TV.val
 (TV.bool
 b) ∧
 If
 (!b)
 (R
 (TV.val
 (TV.bool
 false))
 h)
 (K_1
 (s_9.fst,
 IntKind.wrap
 IntKind.i64
 (s_9.snd +
 (1 :
 Int)))
 h))
 (K
 (s_9.fst,
 IntKind.wrap IntKind.i64
 (s.snd + (1 : Int)))
 h))
 fun (J : Bool → Array Obj → Prop) ↦
 If
 (!decide
 ((↑s_7.len : Int) =
 (↑s_3.len : Int)))
 (R (TV.val (TV.bool false)) h_9)
 (∃ (b : Bs (32 : Nat)),
 atBytes h_9 (Array.size h_6)
 (1 : Nat) (32 : Nat) b ∧
 CallsH Try.prog (18 : Nat)
 (TVs.vals
 [TV.ptr p,
 TV.bytes (32 : Nat) b])
 h_9
 fun (v : Value)
 (h_10 : Array Obj) ↦
 ∃ (b : Bool),
 v = TV.val (TV.bool b) ∧
 If b
 (R
 (TV.val
 (TV.bool false))
 h_10)
 (∃ (n : Int),
 ∃ (n_10 : Int),
 ∃ (n_11 : Int),
 ∃ (n_12 : Int),
 ∃ (s_8 :
 List UInt8),
 (at1 h_10
 (Array.size
 h)
 (0 :
 Nat)
 (Value.int
 IntKind.i64
 n) ∧
 at1 h_10
 (Array.size
 h)
 (1 :
 Nat)
 (Value.int
 IntKind.i64
 n_10) ∧
 at1
 h_10
 (Array.size
 h)
 (2 :
 Nat)
 (Value.int
 IntKind.i64
 n_11) ∧
 at1
 h_10
 (Array.size
 h)
 (3 :
 Nat)
 (Value.int
 IntKind.i64
 n_12) ∧
 at1
 h_10
 (Array.size
 h)
 (4 :
 Nat)
 (Value.string
 (ByteArray.mk
 (List.toArray
 s_8)))) ∧
 CallsH
 Try.prog
 (14 :
 Nat)
 (TVs.vals
 [TV.agg
 [TV.int
 IntKind.i64
 n,
 TV.int
 IntKind.i64
 n_10,
 TV.int
 IntKind.i64
 n_11,
 TV.int
 IntKind.i64
 n_12,
 TV.str
 s_8]])
 h_10
 fun
 (v :
 Value)
 (h :
 Array
 Obj) ↦
 ∃ (n :
 Int),
 ∃ (b :
 Bs
 (32 :
 Nat)),
 ∃
 (n_13
 :
 Int),
 ∃
 (b_3
 :
 Bs
 (32 :
 Nat)),
 ∃
 (s_9
 :
 List
 UInt8),
 v =
 TV.val
 (TV.agg
 [TV.int
 IntKind.i64
 n,
 TV.bytes
 (32 :
 Nat)
 b,
 TV.int
 IntKind.i64
 n_13,
 TV.bytes
 (32 :
 Nat)
 b_3,
 TV.str
 s_9]) ∧
 CallsH
 Try.prog
 (18 :
 Nat)
 (TVs.vals
 [TV.ptr
 p,
 TV.bytes
 (32 :
 Nat)
 b])
 h
 fun
 (v :
 Value)
 (h :
 Array
 Obj) ↦
 ∃
 (b
 :
 Bool),
 v =
 TV.val
 (TV.bool
 b) ∧
 If
 (!b)
 (R
 (TV.val
 (TV.bool
 false))
 h)
 (J
 s.fst
 h))))
 (CallsH Try.prog (16 : Nat)
 (TVs.vals [TV.slice s_7]) h_9
 fun (v : Value) (h : Array Obj) ↦
 ∃ (s_8 : Sl),
 v = TV.val (TV.slice s_8) ∧
 CallsH Try.prog (15 : Nat)
 (TVs.vals
 [TV.slice s_8,
 TV.slice s_3])
 h
 fun (v : Value)
 (h : Array Obj) ↦
 ∃ (b : Bool),
 v = TV.val (TV.bool b) ∧
 If (!b)
 (R
 (TV.val
 (TV.bool false))
 h)
 (K
 (s.fst,
 IntKind.wrap
 IntKind.i64
 (s.snd +
 (1 : Int)))
 h))))
 (R (TV.val (TV.bool true)) h))))

theorem tollerlaw15_PoolGives_calls (most : Int) (quota : Int) (script : Sl) (h : Heap) (R : Value → Heap → Prop) (H : tollerlaw15_PoolGives_vc most quota script h R) : CallsH Try.prog 4 (TVs.vals [TV.int IntKind.i64 most, TV.int IntKind.i64 quota, TV.slice script]) h R :=
 vcFn_sound (C := ctx) ctx_ok (fn := Try.f4) Try.func4 ((by kernel_rfl : tollerlaw15_PoolGives_vc most quota script h R = vcFn ctx Try.f4 [TV.int IntKind.i64 most, TV.int IntKind.i64 quota, TV.slice script] h R) ▸ H)


def tollerlaw15_PoolPeers_vc (most : Int) (script : Sl) (h : Heap) (R : Value → Heap → Prop) : Prop :=
 CallsH Try.prog (10 : Nat) (TVs.vals []) h fun (v : Value) (h : Heap) ↦
 ∃ (b : Bool),
 v = TV.val (TV.bool b) ∧
 If (!b) (R (TV.val (TV.bool false)) h)
 (Join
 (fun (s : Bool) (h : Array Obj) ↦
 CallsH Try.prog (12 : Nat) (TVs.vals [TV.int IntKind.i64 most, TV.int IntKind.i64 (64 : Int)]) h fun (v : Value) (h : Array Obj) ↦
 ∃ (p : Option Go.Vc.Loc),
 v = TV.val (TV.ptr p) ∧
 CallsH Try.prog (12 : Nat) (TVs.vals [TV.int IntKind.i64 most, TV.int IntKind.i64 (64 : Int)]) h fun (v : Value) (h : Array Obj) ↦
 ∃ (p_1 : Option Go.Vc.Loc),
 v = TV.val (TV.ptr p_1) ∧
 Join
 (fun (s : Bool) (h : Array Obj) ↦
 Go.Vc.Loop (Sl.mk none (0 : Nat) (0 : Nat), (0 : Int)) h fun (s_1 : Sl × Int) (h : Array Obj) (K : Sl × Int → Array Obj → Prop) ↦
 If (decide (s_1.snd < (↑script.len : Int)))
 ((0 : Int) ≤ s_1.snd ∧
 s_1.snd < (↑script.len : Int) ∧
 Nn script.a fun (l : Go.Vc.Loc) ↦
 ∃ (n : Int),
 ∃ (n_1 : Int),
 ∃ (n_2 : Int),
 ∃ (n_3 : Int),
 ∃ (s : List UInt8),
 (at1 h l.b (l.o + Int.toNat s_1.snd * (5 : Nat)) (Value.int IntKind.i64 n) ∧
 at1 h l.b (l.o + Int.toNat s_1.snd * (5 : Nat) + (1 : Nat)) (Value.int IntKind.i64 n_1) ∧
 at1 h l.b (l.o + Int.toNat s_1.snd * (5 : Nat) + (1 : Nat) + (1 : Nat)) (Value.int IntKind.i64 n_2) ∧
 at1 h l.b (l.o + Int.toNat s_1.snd * (5 : Nat) + (1 : Nat) + (1 : Nat) + (1 : Nat))
 (Value.int IntKind.i64 n_3) ∧
 at1 h l.b (l.o + Int.toNat s_1.snd * (5 : Nat) + (1 : Nat) + (1 : Nat) + (1 : Nat) + (1 : Nat))
 (Value.string (ByteArray.mk (List.toArray s)))) ∧
 Vc.Bind
 (newTV h
 (TV.agg
 [TV.int IntKind.i64 (0 : Int), TV.int IntKind.i64 (0 : Int), TV.int IntKind.i64 (0 : Int),
 TV.int IntKind.i64 (0 : Int), TV.str []])
 (36 : Nat))
 fun (h_1 : Array Obj) ↦
 wok h_1 (Array.size h) (0 : Nat)
 (Nat.succ (Nat.add (1 : Nat) (Nat.add (1 : Nat) (Nat.add (1 : Nat) (1 : Nat))))) ∧
 Vc.Bind
 (TV.put h_1 (Array.size h) (0 : Nat)
 (TV.agg
 [TV.int IntKind.i64 n, TV.int IntKind.i64 n_1, TV.int IntKind.i64 n_2, TV.int IntKind.i64 n_3,
 TV.str s]))
 fun (h_2 : Array Obj) ↦
 ∃ (n : Int),
 ∃ (n_4 : Int),
 ∃ (n_5 : Int),
 ∃ (n_6 : Int),
 ∃ (s : List UInt8),
 (at1 h_2 (Array.size h) (0 : Nat) (Value.int IntKind.i64 n) ∧
 at1 h_2 (Array.size h) (1 : Nat) (Value.int IntKind.i64 n_4) ∧
 at1 h_2 (Array.size h) (2 : Nat) (Value.int IntKind.i64 n_5) ∧
 at1 h_2 (Array.size h) (3 : Nat) (Value.int IntKind.i64 n_6) ∧
 at1 h_2 (Array.size h) (4 : Nat) (Value.string (ByteArray.mk (List.toArray s)))) ∧
 CallsH Try.prog (14 : Nat)
 (TVs.vals
 [TV.agg
 [TV.int IntKind.i64 n, TV.int IntKind.i64 n_4, TV.int IntKind.i64 n_5,
 TV.int IntKind.i64 n_6, TV.str s]])
 h_2 fun (v : Value) (h_3 : Array Obj) ↦
 ∃ (n : Int),
 ∃ (b : Bs (32 : Nat)),
 ∃ (n_7 : Int),
 ∃ (b_1 : Bs (32 : Nat)),
 ∃ (s : List UInt8),
 v =
 TV.val
 (TV.agg
 [TV.int IntKind.i64 n, TV.bytes (32 : Nat) b, TV.int IntKind.i64 n_7,
 TV.bytes (32 : Nat) b_1, TV.str s]) ∧
 CallsH Try.prog (13 : Nat)
 (TVs.vals
 [TV.ptr p,
 TV.agg
 [TV.int IntKind.i64 n, TV.bytes (32 : Nat) b, TV.int IntKind.i64 n_7,
 TV.bytes (32 : Nat) b_1, TV.str s]])
 h_3 fun (v : Value) (h_4 : Array Obj) ↦
 ∃ (n : Int),
 ∃ (n_8 : Int),
 ∃ (b : Bs (32 : Nat)),
 ∃ (n_9 : Int),
 ∃ (b_2 : Bs (32 : Nat)),
 ∃ (s : List UInt8),
 v =
 TV.val
 (TV.tup
 [TV.int IntKind.i64 n,
 TV.agg
 [TV.int IntKind.i64 n_8, TV.bytes (32 : Nat) b,
 TV.int IntKind.i64 n_9, TV.bytes (32 : Nat) b_2,
 TV.str s]]) ∧
 ∃ (n : Int),
 ∃ (n_10 : Int),
 ∃ (n_11 : Int),
 ∃ (n_12 : Int),
 ∃ (s : List UInt8),
 (at1 h_4 (Array.size h) (0 : Nat)
 (Value.int IntKind.i64 n) ∧
 at1 h_4 (Array.size h) (1 : Nat)
 (Value.int IntKind.i64 n_10) ∧
 at1 h_4 (Array.size h) (2 : Nat)
 (Value.int IntKind.i64 n_11) ∧
 at1 h_4 (Array.size h) (3 : Nat)
 (Value.int IntKind.i64 n_12) ∧
 at1 h_4 (Array.size h) (4 : Nat)
 (Value.string
 (ByteArray.mk (List.toArray s)))) ∧
 CallsH Try.prog (14 : Nat)
 (TVs.vals
 [TV.agg
 [TV.int IntKind.i64 n,
 TV.int IntKind.i64 n_10,
 TV.int IntKind.i64 n_11,
 TV.int IntKind.i64 n_12, TV.str s]])
 h_4 fun (v : Value) (h_5 : Array Obj) ↦
 ∃ (n : Int),
 ∃ (b : Bs (32 : Nat)),
 ∃ (n_13 : Int),
 ∃ (b_3 : Bs (32 : Nat)),
 ∃ (s : List UInt8),
 v =
 TV.val
 (TV.agg
 [TV.int IntKind.i64 n,
 TV.bytes (32 : Nat) b,
 TV.int IntKind.i64 n_13,
 TV.bytes (32 : Nat) b_3,
 TV.str s]) ∧
 Vc.Bind
 (newTV h_5
 (TV.agg
 [TV.int IntKind.i64 (0 : Int),
 TV.bytes (32 : Nat)
 (Bs.zero (32 : Nat)),
 TV.int IntKind.i64
 (0 : Int),
 TV.bytes (32 : Nat)
 (Bs.zero (32 : Nat)),
 TV.str []])
 (32 : Nat))
 fun (h_6 : Array Obj) ↦
 wok h_6 (Array.size h_5) (0 : Nat)
 (Nat.succ
 (Nat.add (1 : Nat)
 (Nat.add (32 : Nat)
 (Nat.add (1 : Nat)
 (32 : Nat))))) ∧
 Vc.Bind
 (TV.put h_6 (Array.size h_5)
 (0 : Nat)
 (TV.agg
 [TV.int IntKind.i64 n,
 TV.bytes (32 : Nat) b,
 TV.int IntKind.i64 n_13,
 TV.bytes (32 : Nat) b_3,
 TV.str s]))
 fun (h_7 : Array Obj) ↦
 wok h_7 (Array.size h_5)
 (33 : Nat) (1 : Nat) ∧
 Vc.Bind
 (TV.put h_7
 (Array.size h_5)
 (33 : Nat)
 (TV.int IntKind.i64
 (0 : Int)))
 fun (h_8 : Array Obj) ↦
 ∃ (n : Int),
 ∃ (b : Bs (32 : Nat)),
 ∃ (n_14 : Int),
 ∃ (b_4 :
 Bs (32 : Nat)),
 ∃ (s :
 List UInt8),
 (at1 h_8
 (Array.size
 h_5)
 (0 : Nat)
 (Value.int
 IntKind.i64
 n) ∧
 atBytes h_8
 (Array.size
 h_5)
 (1 :
 Nat)
 (32 :
 Nat)
 b ∧
 at1 h_8
 (Array.size
 h_5)
 (33 :
 Nat)
 (Value.int
 IntKind.i64
 n_14) ∧
 atBytes
 h_8
 (Array.size
 h_5)
 (34 :
 Nat)
 (32 :
 Nat)
 b_4 ∧
 at1
 h_8
 (Array.size
 h_5)
 (66 :
 Nat)
 (Value.string
 (ByteArray.mk
 (List.toArray
 s)))) ∧
 CallsH
 Try.prog
 (13 : Nat)
 (TVs.vals
 [TV.ptr
 p_1,
 TV.agg
 [TV.int
 IntKind.i64
 n,
 TV.bytes
 (32 :
 Nat)
 b,
 TV.int
 IntKind.i64
 n_14,
 TV.bytes
 (32 :
 Nat)
 b_4,
 TV.str
 s]])
 h_8
 fun
 (v :
 Value)
 (h_9 :
 Array
 Obj) ↦
 ∃ (n : Int),
 ∃ (n_15 :
 Int),
 ∃ (b :
 Bs
 (32 :
 Nat)),
 ∃
 (n_16
 :
 Int),
 ∃
 (b_5
 :
 Bs
 (32 :
 Nat)),
 ∃
 (s
 :
 List
 UInt8),
 v =
 TV.val
 (TV.tup
 [TV.int
 IntKind.i64
 n,
 TV.agg
 [TV.int
 IntKind.i64
 n_15,
 TV.bytes
 (32 :
 Nat)
 b,
 TV.int
 IntKind.i64
 n_16,
 TV.bytes
 (32 :
 Nat)
 b_5,
 TV.str
 s]]) ∧
 Go.Vc.Loop
 (false,
 (0 :
 Int))
 h_9
 fun
 (s :
 Bool ×
 Int)
 (h_10 :
 Array
 Obj)
 (K_1 :
 Bool ×
 Int →
 Array
 Obj →
 Prop) ↦
 If
 (decide
 (s.snd <
 (↑s_1.fst.len :
 Int)))
 ((0 :
 Int) ≤
 s.snd ∧
 s.snd <
 (↑s_1.fst.len :
 Int) ∧
 Nn
 s_1.fst.a
 fun
 (l :
 Go.Vc.Loc) ↦
 ∃
 (n
 :
 Int),
 at1
 h_10
 l.b
 (l.o +
 Int.toNat
 s.snd *
 (1 :
 Nat))
 (Value.int
 IntKind.i64
 n) ∧
 If
 s.fst
 (K_1
 (true,
 IntKind.wrap
 IntKind.i64
 (s.snd +
 (1 :
 Int)))
 h_10)
 (∃
 (n_17
 :
 Int),
 at1
 h_10
 (Array.size
 h)
 (3 :
 Nat)
 (Value.int
 IntKind.i64
 n_17) ∧
 K_1
 (decide
 (n =
 n_17),
 IntKind.wrap
 IntKind.i64
 (s.snd +
 (1 :
 Int)))
 h_10))
 (If
 (!s.fst)
 (∃
 (n
 :
 Int),
 at1
 h_10
 (Array.size
 h)
 (3 :
 Nat)
 (Value.int
 IntKind.i64
 n) ∧
 ∃
 (new
 :
 List
 Value),
 slAt
 (Array.push
 h_10
 (row
 (TVs.cells
 [TV.int
 IntKind.i64
 n])
 (3 :
 Nat)))
 (Sl.mk
 (some
 (Loc.mk
 (Array.size
 h_10)
 (0 :
 Nat)))
 (1 :
 Nat)
 (1 :
 Nat))
 (1 :
 Nat)
 new ∧
 (∀
 (v :
 Value),
 v ∈
 new →
 isOne
 v =
 true) ∧
 vcAppend
 Ytjadpjbiiidioaa.ctx
 (3 :
 Nat)
 s_1.fst
 (1 :
 Nat)
 new
 (Array.push
 h_10
 (row
 (TVs.cells
 [TV.int
 IntKind.i64
 n])
 (3 :
 Nat)))
 fun
 (s :
 Sl)
 (h :
 Array
 Obj) ↦
 K
 (s,
 IntKind.wrap
 IntKind.i64
 (s_1.snd +
 (1 :
 Int)))
 h)
 (K
 (s_1.fst,
 IntKind.wrap
 IntKind.i64
 (s_1.snd +
 (1 :
 Int)))
 h_10)))
 (Go.Vc.Loop ((0 : Int), (0 : Int)) h fun (s_2 : Int × Int) (h : Array Obj) (K : Int × Int → Array Obj → Prop) ↦
 If (decide (s_2.snd < (↑s_1.fst.len : Int)))
 ((0 : Int) ≤ s_2.snd ∧
 s_2.snd < (↑s_1.fst.len : Int) ∧
 Nn s_1.fst.a fun (l : Go.Vc.Loc) ↦
 ∃ (n : Int),
 at1 h l.b (l.o + Int.toNat s_2.snd * (1 : Nat)) (Value.int IntKind.i64 n) ∧
 CallsH Try.prog (20 : Nat) (TVs.vals [TV.ptr p, TV.int IntKind.i64 n]) h fun (v : Value) (h : Array Obj) ↦
 ∃ (n : Int),
 v = TV.val (TV.int IntKind.i64 n) ∧
 K (IntKind.wrap IntKind.i64 (s_2.fst + n), IntKind.wrap IntKind.i64 (s_2.snd + (1 : Int))) h)
 (CallsH Try.prog (17 : Nat) (TVs.vals [TV.ptr p]) h fun (v : Value) (h : Array Obj) ↦
 ∃ (s_3 : Sl),
 v = TV.val (TV.slice s_3) ∧
 CallsH Try.prog (17 : Nat) (TVs.vals [TV.ptr p_1]) h fun (v : Value) (h : Array Obj) ↦
 ∃ (s_4 : Sl),
 v = TV.val (TV.slice s_4) ∧
 Join
 (fun (s : Bool) (h : Array Obj) ↦
 Go.Vc.Loop (s, (0 : Int)) h fun (s_5 : Bool × Int) (h : Array Obj) (K : Bool × Int → Array Obj → Prop) ↦
 If (decide (s_5.snd < (↑s_3.len : Int)))
 ((0 : Int) ≤ s_5.snd ∧
 s_5.snd < (↑s_3.len : Int) ∧
 Nn s_3.a fun (l : Go.Vc.Loc) ↦
 ∃ (b : Bs (32 : Nat)),
 atBytes h l.b (l.o + Int.toNat s_5.snd * (67 : Nat) + (1 : Nat)) (32 : Nat) b ∧
 (0 : Int) ≤ s_5.snd ∧
 s_5.snd < (↑s_4.len : Int) ∧
 Nn s_4.a fun (l : Go.Vc.Loc) ↦
 ∃ (b_1 : Bs (32 : Nat)),
 atBytes h l.b (l.o + Int.toNat s_5.snd * (67 : Nat) + (1 : Nat)) (32 : Nat) b_1 ∧
 If (!decide (b.1 = b_1.1)) (R (TV.val (TV.bool false)) h)
 (K (s_5.fst, IntKind.wrap IntKind.i64 (s_5.snd + (1 : Int))) h))
 (CallsH Try.prog (20 : Nat) (TVs.vals [TV.ptr p_1, TV.int IntKind.i64 (0 : Int)]) h
 fun (v : Value) (h : Array Obj) ↦
 ∃ (n : Int),
 v = TV.val (TV.int IntKind.i64 n) ∧ R (TV.val (TV.bool (decide (n = (↑s_4.len : Int))))) h))
 fun (J : Bool → Array Obj → Prop) ↦
 If (!decide (s_2.fst = (↑s_3.len : Int))) (R (TV.val (TV.bool false)) h)
 (If (!decide ((↑s_3.len : Int) = (↑s_4.len : Int))) (R (TV.val (TV.bool false)) h) (J s h)))))
 fun (J : Bool → Array Obj → Prop) ↦
 If (Option.isNone p)
 (If (decide (most < (1 : Int))) (R (TV.val (TV.bool true)) h) (R (TV.val (TV.bool (decide ((64 : Int) < most)))) h))
 (If (Option.isNone p_1)
 (If (decide (most < (1 : Int))) (R (TV.val (TV.bool true)) h) (R (TV.val (TV.bool (decide ((64 : Int) < most)))) h)) (J s h)))
 fun (J : Bool → Array Obj → Prop) ↦
 CallsH Try.prog (11 : Nat) (TVs.vals [TV.slice script]) h fun (v : Value) (h : Heap) ↦
 ∃ (b : Bool),
 v = TV.val (TV.bool b) ∧
 If b (R (TV.val (TV.bool true)) h) (If (decide ((60 : Int) < (↑script.len : Int))) (R (TV.val (TV.bool true)) h) (J false h)))

theorem tollerlaw15_PoolPeers_calls (most : Int) (script : Sl) (h : Heap) (R : Value → Heap → Prop) (H : tollerlaw15_PoolPeers_vc most script h R) : CallsH Try.prog 5 (TVs.vals [TV.int IntKind.i64 most, TV.slice script]) h R :=
 vcFn_sound (C := ctx) ctx_ok (fn := Try.f5) Try.func5 ((by kernel_rfl : tollerlaw15_PoolPeers_vc most script h R = vcFn ctx Try.f5 [TV.int IntKind.i64 most, TV.slice script] h R) ▸ H)


def tollerlaw15_PoolBounds_vc (most : Int) (quota : Int) (script : Sl) (h : Heap) (R : Value → Heap → Prop) : Prop :=
 CallsH Try.prog (10 : Nat) (TVs.vals []) h fun (v : Value) (h : Heap) ↦
 ∃ (b : Bool),
 v = TV.val (TV.bool b) ∧
 If (!b) (R (TV.val (TV.bool false)) h)
 (CallsH Try.prog (11 : Nat) (TVs.vals [TV.slice script]) h fun (v : Value) (h : Heap) ↦
 ∃ (b_1 : Bool),
 v = TV.val (TV.bool b_1) ∧
 If b_1 (R (TV.val (TV.bool true)) h)
 (CallsH Try.prog (12 : Nat) (TVs.vals [TV.int IntKind.i64 most, TV.int IntKind.i64 quota]) h fun (v : Value) (h : Heap) ↦
 ∃ (p : Option Go.Vc.Loc),
 v = TV.val (TV.ptr p) ∧
 If (Option.isNone p) (R (TV.val (TV.bool true)) h)
 (Go.Vc.Loop (false, (0 : Int)) h fun (s : Bool × Int) (h : Array Obj) (K : Bool × Int → Array Obj → Prop) ↦
 If (decide (s.snd < (↑script.len : Int)))
 ((0 : Int) ≤ s.snd ∧
 s.snd < (↑script.len : Int) ∧
 Nn script.a fun (l : Go.Vc.Loc) ↦
 ∃ (n : Int),
 ∃ (n_1 : Int),
 ∃ (n_2 : Int),
 ∃ (n_3 : Int),
 ∃ (s_1 : List UInt8),
 (at1 h l.b (l.o + Int.toNat s.snd * (5 : Nat)) (Value.int IntKind.i64 n) ∧
 at1 h l.b (l.o + Int.toNat s.snd * (5 : Nat) + (1 : Nat)) (Value.int IntKind.i64 n_1) ∧
 at1 h l.b (l.o + Int.toNat s.snd * (5 : Nat) + (1 : Nat) + (1 : Nat)) (Value.int IntKind.i64 n_2) ∧
 at1 h l.b (l.o + Int.toNat s.snd * (5 : Nat) + (1 : Nat) + (1 : Nat) + (1 : Nat))
 (Value.int IntKind.i64 n_3) ∧
 at1 h l.b (l.o + Int.toNat s.snd * (5 : Nat) + (1 : Nat) + (1 : Nat) + (1 : Nat) + (1 : Nat))
 (Value.string (ByteArray.mk (List.toArray s_1)))) ∧
 Vc.Bind
 (newTV h
 (TV.agg
 [TV.int IntKind.i64 (0 : Int), TV.int IntKind.i64 (0 : Int), TV.int IntKind.i64 (0 : Int),
 TV.int IntKind.i64 (0 : Int), TV.str []])
 (36 : Nat))
 fun (h_1 : Array Obj) ↦
 wok h_1 (Array.size h) (0 : Nat)
 (Nat.succ (Nat.add (1 : Nat) (Nat.add (1 : Nat) (Nat.add (1 : Nat) (1 : Nat))))) ∧
 Vc.Bind
 (TV.put h_1 (Array.size h) (0 : Nat)
 (TV.agg
 [TV.int IntKind.i64 n, TV.int IntKind.i64 n_1, TV.int IntKind.i64 n_2, TV.int IntKind.i64 n_3,
 TV.str s_1]))
 fun (h_2 : Array Obj) ↦
 Join
 (fun (s_2 : PUnit) (h_3 : Array Obj) ↦
 CallsH Try.prog (17 : Nat) (TVs.vals [TV.ptr p]) h_3 fun (v : Value) (h_4 : Array Obj) ↦
 ∃ (s_3 : Sl),
 v = TV.val (TV.slice s_3) ∧
 Join
 (fun (s_4 : Bool) (h : Array Obj) ↦
 Go.Vc.Loop (s_4, (1 : Int)) h
 fun (s_5 : Bool × Int) (h : Array Obj) (K_1 : Bool × Int → Array Obj → Prop) ↦
 If (decide (s_5.snd < (↑s_3.len : Int)))
 ((0 : Int) ≤ IntKind.wrap IntKind.i64 (s_5.snd - (1 : Int)) ∧
 IntKind.wrap IntKind.i64 (s_5.snd - (1 : Int)) < (↑s_3.len : Int) ∧
 Nn s_3.a fun (l_1 : Go.Vc.Loc) ↦
 ∃ (n_4 : Int),
 ∃ (b_2 : Bs (32 : Nat)),
 ∃ (n_5 : Int),
 ∃ (b_3 : Bs (32 : Nat)),
 ∃ (s_6 : List UInt8),
 (at1 h l_1.b
 (l_1.o +
 Int.toNat (IntKind.wrap IntKind.i64 (s_5.snd - (1 : Int))) *
 (67 : Nat))
 (Value.int IntKind.i64 n_4) ∧
 atBytes h l_1.b
 (l_1.o +
 Int.toNat (IntKind.wrap IntKind.i64 (s_5.snd - (1 : Int))) *
 (67 : Nat) +
 (1 : Nat))
 (32 : Nat) b_2 ∧
 at1 h l_1.b
 (l_1.o +
 Int.toNat
 (IntKind.wrap IntKind.i64 (s_5.snd - (1 : Int))) *
 (67 : Nat) +
 (1 : Nat) +
 (32 : Nat))
 (Value.int IntKind.i64 n_5) ∧
 atBytes h l_1.b
 (l_1.o +
 Int.toNat
 (IntKind.wrap IntKind.i64 (s_5.snd - (1 : Int))) *
 (67 : Nat) +
 (1 : Nat) +
 (32 : Nat) +
 (1 : Nat))
 (32 : Nat) b_3 ∧
 at1 h l_1.b
 (l_1.o +
 Int.toNat
 (IntKind.wrap IntKind.i64
 (s_5.snd - (1 : Int))) *
 (67 : Nat) +
 (1 : Nat) +
 (32 : Nat) +
 (1 : Nat) +
 (32 : Nat))
 (Value.string (ByteArray.mk (List.toArray s_6)))) ∧
 (0 : Int) ≤ s_5.snd ∧
 s_5.snd < (↑s_3.len : Int) ∧
 Nn s_3.a fun (l_2 : Go.Vc.Loc) ↦
 ∃ (n_6 : Int),
 ∃ (b_4 : Bs (32 : Nat)),
 ∃ (n_7 : Int),
 ∃ (b_5 : Bs (32 : Nat)),
 ∃ (s_7 : List UInt8),
 (at1 h l_2.b (l_2.o + Int.toNat s_5.snd * (67 : Nat))
 (Value.int IntKind.i64 n_6) ∧
 atBytes h l_2.b
 (l_2.o + Int.toNat s_5.snd * (67 : Nat) +
 (1 : Nat))
 (32 : Nat) b_4 ∧
 at1 h l_2.b
 (l_2.o + Int.toNat s_5.snd * (67 : Nat) +
 (1 : Nat) +
 (32 : Nat))
 (Value.int IntKind.i64 n_7) ∧
 atBytes h l_2.b
 (l_2.o + Int.toNat s_5.snd * (67 : Nat) +
 (1 : Nat) +
 (32 : Nat) +
 (1 : Nat))
 (32 : Nat) b_5 ∧
 at1 h l_2.b
 (l_2.o + Int.toNat s_5.snd * (67 : Nat) +
 (1 : Nat) +
 (32 : Nat) +
 (1 : Nat) +
 (32 : Nat))
 (Value.string
 (ByteArray.mk (List.toArray s_7)))) ∧
 CallsH Try.prog (19 : Nat)
 (TVs.vals
 [TV.agg
 [TV.int IntKind.i64 n_4,
 TV.bytes (32 : Nat) b_2,
 TV.int IntKind.i64 n_5,
 TV.bytes (32 : Nat) b_3, TV.str s_6],
 TV.agg
 [TV.int IntKind.i64 n_6,
 TV.bytes (32 : Nat) b_4,
 TV.int IntKind.i64 n_7,
 TV.bytes (32 : Nat) b_5, TV.str s_7]])
 h fun (v : Value) (h : Array Obj) ↦
 ∃ (b_6 : Bool),
 v = TV.val (TV.bool b_6) ∧
 If (!b_6) (R (TV.val (TV.bool false)) h)
 ((0 : Int) ≤ s_5.snd ∧
 s_5.snd < (↑s_3.len : Int) ∧
 Nn s_3.a fun (l_3 : Go.Vc.Loc) ↦
 ∃ (n_8 : Int),
 ∃ (b_7 : Bs (32 : Nat)),
 ∃ (n_9 : Int),
 ∃ (b_8 : Bs (32 : Nat)),
 ∃ (s_8 : List UInt8),
 (at1 h l_3.b
 (l_3.o +
 Int.toNat s_5.snd *
 (67 : Nat))
 (Value.int IntKind.i64
 n_8) ∧
 atBytes h l_3.b
 (l_3.o +
 Int.toNat
 s_5.snd *
 (67 : Nat) +
 (1 : Nat))
 (32 : Nat) b_7 ∧
 at1 h l_3.b
 (l_3.o +
 Int.toNat
 s_5.snd *
 (67 : Nat) +
 (1 : Nat) +
 (32 : Nat))
 (Value.int
 IntKind.i64 n_9) ∧
 atBytes h l_3.b
 (l_3.o +
 Int.toNat
 s_5.snd *
 (67 :
 Nat) +
 (1 : Nat) +
 (32 : Nat) +
 (1 : Nat))
 (32 : Nat) b_8 ∧
 at1 h l_3.b
 (l_3.o +
 Int.toNat
 s_5.snd *
 (67 :
 Nat) +
 (1 :
 Nat) +
 (32 : Nat) +
 (1 : Nat) +
 (32 : Nat))
 (Value.string
 (ByteArray.mk
 (List.toArray
 s_8)))) ∧
 (0 : Int) ≤
 IntKind.wrap IntKind.i64
 (s_5.snd -
 (1 : Int)) ∧
 IntKind.wrap IntKind.i64
 (s_5.snd -
 (1 : Int)) <
 (↑s_3.len : Int) ∧
 Nn s_3.a
 fun (l_4 : Go.Vc.Loc) ↦
 ∃ (n_10 : Int),
 ∃ (b_9 :
 Bs (32 : Nat)),
 ∃ (n_11 : Int),
 ∃ (b_10 :
 Bs
 (32 : Nat)),
 ∃ (s_9 :
 List UInt8),
 (at1 h l_4.b
 (l_4.o +
 Int.toNat
 (IntKind.wrap
 IntKind.i64
 (s_5.snd -
 (1 :
 Int))) *
 (67 :
 Nat))
 (Value.int
 IntKind.i64
 n_10) ∧
 atBytes
 h
 l_4.b
 (l_4.o +
 Int.toNat
 (IntKind.wrap
 IntKind.i64
 (s_5.snd -
 (1 :
 Int))) *
 (67 :
 Nat) +
 (1 :
 Nat))
 (32 :
 Nat)
 b_9 ∧
 at1 h
 l_4.b
 (l_4.o +
 Int.toNat
 (IntKind.wrap
 IntKind.i64
 (s_5.snd -
 (1 :
 Int))) *
 (67 :
 Nat) +
 (1 :
 Nat) +
 (32 :
 Nat))
 (Value.int
 IntKind.i64
 n_11) ∧
 atBytes
 h
 l_4.b
 (l_4.o +
 Int.toNat
 (IntKind.wrap
 IntKind.i64
 (s_5.snd -
 (1 :
 Int))) *
 (67 :
 Nat) +
 (1 :
 Nat) +
 (32 :
 Nat) +
 (1 :
 Nat))
 (32 :
 Nat)
 b_10 ∧
 at1
 h
 l_4.b
 (l_4.o +
 Int.toNat
 (IntKind.wrap
 IntKind.i64
 (s_5.snd -
 (1 :
 Int))) *
 (67 :
 Nat) +
 (1 :
 Nat) +
 (32 :
 Nat) +
 (1 :
 Nat) +
 (32 :
 Nat))
 (Value.string
 (ByteArray.mk
 (List.toArray
 s_9)))) ∧
 CallsH
 Try.prog
 (19 :
 Nat)
 (TVs.vals
 [TV.agg
 [TV.int
 IntKind.i64
 n_8,
 TV.bytes
 (32 :
 Nat)
 b_7,
 TV.int
 IntKind.i64
 n_9,
 TV.bytes
 (32 :
 Nat)
 b_8,
 TV.str
 s_8],
 TV.agg
 [TV.int
 IntKind.i64
 n_10,
 TV.bytes
 (32 :
 Nat)
 b_9,
 TV.int
 IntKind.i64
 n_11,
 TV.bytes
 (32 :
 Nat)
 b_10,
 TV.str
 s_9]])
 h
 fun
 (v :
 Value)
 (h :
 Array
 Obj) ↦
 ∃ (b_11
 :
 Bool),
 v =
 TV.val
 (TV.bool
 b_11) ∧
 If
 b_11
 (R
 (TV.val
 (TV.bool
 false))
 h)
 ((0 :
 Int) ≤
 s_5.snd ∧
 s_5.snd <
 (↑s_3.len :
 Int) ∧
 Nn
 s_3.a
 fun
 (l_5 :
 Go.Vc.Loc) ↦
 ∃
 (b_12
 :
 Bs
 (32 :
 Nat)),
 atBytes
 h
 l_5.b
 (l_5.o +
 Int.toNat
 s_5.snd *
 (67 :
 Nat) +
 (1 :
 Nat))
 (32 :
 Nat)
 b_12 ∧
 (0 :
 Int) ≤
 IntKind.wrap
 IntKind.i64
 (s_5.snd -
 (1 :
 Int)) ∧
 IntKind.wrap
 IntKind.i64
 (s_5.snd -
 (1 :
 Int)) <
 (↑s_3.len :
 Int) ∧
 Nn
 s_3.a
 fun
 (l_6 :
 Go.Vc.Loc) ↦
 ∃
 (b_13
 :
 Bs
 (32 :
 Nat)),
 atBytes
 h
 l_6.b
 (l_6.o +
 Int.toNat
 (IntKind.wrap
 IntKind.i64
 (s_5.snd -
 (1 :
 Int))) *
 (67 :
 Nat) +
 (1 :
 Nat))
 (32 :
 Nat)
 b_13 ∧
 If
 (decide
 (b_12.1 =
 b_13.1))
 (R
 (TV.val
 (TV.bool
 false))
 h)
 (K_1
 (s_5.fst,
 IntKind.wrap
 IntKind.i64
 (s_5.snd +
 (1 :
 Int)))
 h))))
 (K (s_5.fst, IntKind.wrap IntKind.i64 (s.snd + (1 : Int))) h))
 fun (J : Bool → Array Obj → Prop) ↦
 If (decide (most < (↑s_3.len : Int))) (R (TV.val (TV.bool false)) h_4)
 (∃ (n : Int),
 at1 h_4 (Array.size h) (3 : Nat) (Value.int IntKind.i64 n) ∧
 CallsH Try.prog (20 : Nat) (TVs.vals [TV.ptr p, TV.int IntKind.i64 n]) h_4
 fun (v : Value) (h : Array Obj) ↦
 ∃ (n : Int),
 v = TV.val (TV.int IntKind.i64 n) ∧
 If (decide (quota < n)) (R (TV.val (TV.bool false)) h) (J s.fst h)))
 fun (J : PUnit → Array Obj → Prop) ↦
 ∃ (n : Int),
 at1 h_2 (Array.size h) (0 : Nat) (Value.int IntKind.i64 n) ∧
 If (decide (n = (0 : Int)))
 (∃ (n : Int),
 ∃ (n_4 : Int),
 ∃ (n_5 : Int),
 ∃ (n_6 : Int),
 ∃ (s : List UInt8),
 (at1 h_2 (Array.size h) (0 : Nat) (Value.int IntKind.i64 n) ∧
 at1 h_2 (Array.size h) (1 : Nat) (Value.int IntKind.i64 n_4) ∧
 at1 h_2 (Array.size h) (2 : Nat) (Value.int IntKind.i64 n_5) ∧
 at1 h_2 (Array.size h) (3 : Nat) (Value.int IntKind.i64 n_6) ∧
 at1 h_2 (Array.size h) (4 : Nat)
 (Value.string (ByteArray.mk (List.toArray s)))) ∧
 CallsH Try.prog (14 : Nat)
 (TVs.vals
 [TV.agg
 [TV.int IntKind.i64 n, TV.int IntKind.i64 n_4, TV.int IntKind.i64 n_5,
 TV.int IntKind.i64 n_6, TV.str s]])
 h_2 fun (v : Value) (h : Array Obj) ↦
 ∃ (n : Int),
 ∃ (b : Bs (32 : Nat)),
 ∃ (n_7 : Int),
 ∃ (b_2 : Bs (32 : Nat)),
 ∃ (s : List UInt8),
 v =
 TV.val
 (TV.agg
 [TV.int IntKind.i64 n, TV.bytes (32 : Nat) b,
 TV.int IntKind.i64 n_7, TV.bytes (32 : Nat) b_2, TV.str s]) ∧
 CallsH Try.prog (13 : Nat)
 (TVs.vals
 [TV.ptr p,
 TV.agg
 [TV.int IntKind.i64 n, TV.bytes (32 : Nat) b,
 TV.int IntKind.i64 n_7, TV.bytes (32 : Nat) b_2, TV.str s]])
 h fun (v : Value) (h : Array Obj) ↦
 ∃ (n : Int),
 ∃ (n_8 : Int),
 ∃ (b : Bs (32 : Nat)),
 ∃ (n_9 : Int),
 ∃ (b_3 : Bs (32 : Nat)),
 ∃ (s : List UInt8),
 v =
 TV.val
 (TV.tup
 [TV.int IntKind.i64 n,
 TV.agg
 [TV.int IntKind.i64 n_8, TV.bytes (32 : Nat) b,
 TV.int IntKind.i64 n_9,
 TV.bytes (32 : Nat) b_3, TV.str s]]) ∧
 J PUnit.unit h)
 (CallsH Try.prog (22 : Nat)
 (TVs.vals
 [TV.ptr p, TV.fn (Fn.func (29 : Nat)) [] [TV.ptr (some (Loc.mk (Array.size h) (0 : Nat)))]])
 h_2 fun (v : Value) (h : Array Obj) ↦ ∃ (s : Sl), v = TV.val (TV.slice s) ∧ J PUnit.unit h))
 (R (TV.val (TV.bool true)) h))))

theorem tollerlaw15_PoolBounds_calls (most : Int) (quota : Int) (script : Sl) (h : Heap) (R : Value → Heap → Prop) (H : tollerlaw15_PoolBounds_vc most quota script h R) : CallsH Try.prog 8 (TVs.vals [TV.int IntKind.i64 most, TV.int IntKind.i64 quota, TV.slice script]) h R :=
 vcFn_sound (C := ctx) ctx_ok (fn := Try.f8) Try.func8 ((by kernel_rfl : tollerlaw15_PoolBounds_vc most quota script h R = vcFn ctx Try.f8 [TV.int IntKind.i64 most, TV.int IntKind.i64 quota, TV.slice script] h R) ▸ H)


def tollerlaw15_PoolTakes_vc (most : Int) (quota : Int) (script : Sl) (slot : Int) (h : Heap) (R : Value → Heap → Prop) : Prop :=
 Vc.Bind (newTV h (TV.int IntKind.i64 slot) (3 : Nat)) fun (h_1 : Array Obj) ↦
 CallsH Try.prog (10 : Nat) (TVs.vals []) h_1 fun (v : Value) (h_2 : Array Obj) ↦
 ∃ (b : Bool),
 v = TV.val (TV.bool b) ∧
 If (!b) (R (TV.val (TV.bool false)) h_2)
 (CallsH Try.prog (11 : Nat) (TVs.vals [TV.slice script]) h_2 fun (v : Value) (h_3 : Array Obj) ↦
 ∃ (b : Bool),
 v = TV.val (TV.bool b) ∧
 If b (R (TV.val (TV.bool true)) h_3)
 (CallsH Try.prog (12 : Nat) (TVs.vals [TV.int IntKind.i64 most, TV.int IntKind.i64 quota]) h_3 fun (v : Value) (h_4 : Array Obj) ↦
 ∃ (p : Option Go.Vc.Loc),
 v = TV.val (TV.ptr p) ∧
 If (Option.isNone p) (R (TV.val (TV.bool true)) h_4)
 (Go.Vc.Loop (0 : Int) h_4 fun (s : Int) (h_5 : Array Obj) (K : Int → Array Obj → Prop) ↦
 If (decide (s < (↑script.len : Int)))
 ((0 : Int) ≤ s ∧
 s < (↑script.len : Int) ∧
 Nn script.a fun (l : Go.Vc.Loc) ↦
 ∃ (n : Int),
 ∃ (n_1 : Int),
 ∃ (n_2 : Int),
 ∃ (n_3 : Int),
 ∃ (s_1 : List UInt8),
 (at1 h_5 l.b (l.o + Int.toNat s * (5 : Nat)) (Value.int IntKind.i64 n) ∧
 at1 h_5 l.b (l.o + Int.toNat s * (5 : Nat) + (1 : Nat)) (Value.int IntKind.i64 n_1) ∧
 at1 h_5 l.b (l.o + Int.toNat s * (5 : Nat) + (1 : Nat) + (1 : Nat)) (Value.int IntKind.i64 n_2) ∧
 at1 h_5 l.b (l.o + Int.toNat s * (5 : Nat) + (1 : Nat) + (1 : Nat) + (1 : Nat))
 (Value.int IntKind.i64 n_3) ∧
 at1 h_5 l.b (l.o + Int.toNat s * (5 : Nat) + (1 : Nat) + (1 : Nat) + (1 : Nat) + (1 : Nat))
 (Value.string (ByteArray.mk (List.toArray s_1)))) ∧
 Vc.Bind
 (newTV h_5
 (TV.agg
 [TV.int IntKind.i64 (0 : Int), TV.int IntKind.i64 (0 : Int), TV.int IntKind.i64 (0 : Int),
 TV.int IntKind.i64 (0 : Int), TV.str []])
 (36 : Nat))
 fun (h : Array Obj) ↦
 wok h (Array.size h_5) (0 : Nat)
 (Nat.succ (Nat.add (1 : Nat) (Nat.add (1 : Nat) (Nat.add (1 : Nat) (1 : Nat))))) ∧
 Vc.Bind
 (TV.put h (Array.size h_5) (0 : Nat)
 (TV.agg
 [TV.int IntKind.i64 n, TV.int IntKind.i64 n_1, TV.int IntKind.i64 n_2, TV.int IntKind.i64 n_3,
 TV.str s_1]))
 fun (h : Array Obj) ↦
 ∃ (n : Int),
 ∃ (n_4 : Int),
 ∃ (n_5 : Int),
 ∃ (n_6 : Int),
 ∃ (s_2 : List UInt8),
 (at1 h (Array.size h_5) (0 : Nat) (Value.int IntKind.i64 n) ∧
 at1 h (Array.size h_5) (1 : Nat) (Value.int IntKind.i64 n_4) ∧
 at1 h (Array.size h_5) (2 : Nat) (Value.int IntKind.i64 n_5) ∧
 at1 h (Array.size h_5) (3 : Nat) (Value.int IntKind.i64 n_6) ∧
 at1 h (Array.size h_5) (4 : Nat) (Value.string (ByteArray.mk (List.toArray s_2)))) ∧
 CallsH Try.prog (14 : Nat)
 (TVs.vals
 [TV.agg
 [TV.int IntKind.i64 n, TV.int IntKind.i64 n_4, TV.int IntKind.i64 n_5,
 TV.int IntKind.i64 n_6, TV.str s_2]])
 h fun (v : Value) (h : Array Obj) ↦
 ∃ (n : Int),
 ∃ (b : Bs (32 : Nat)),
 ∃ (n_7 : Int),
 ∃ (b_1 : Bs (32 : Nat)),
 ∃ (s_3 : List UInt8),
 v =
 TV.val
 (TV.agg
 [TV.int IntKind.i64 n, TV.bytes (32 : Nat) b, TV.int IntKind.i64 n_7,
 TV.bytes (32 : Nat) b_1, TV.str s_3]) ∧
 CallsH Try.prog (13 : Nat)
 (TVs.vals
 [TV.ptr p,
 TV.agg
 [TV.int IntKind.i64 n, TV.bytes (32 : Nat) b, TV.int IntKind.i64 n_7,
 TV.bytes (32 : Nat) b_1, TV.str s_3]])
 h fun (v : Value) (h : Array Obj) ↦
 ∃ (n : Int),
 ∃ (n_8 : Int),
 ∃ (b : Bs (32 : Nat)),
 ∃ (n_9 : Int),
 ∃ (b_2 : Bs (32 : Nat)),
 ∃ (s_4 : List UInt8),
 v =
 TV.val
 (TV.tup
 [TV.int IntKind.i64 n,
 TV.agg
 [TV.int IntKind.i64 n_8, TV.bytes (32 : Nat) b,
 TV.int IntKind.i64 n_9, TV.bytes (32 : Nat) b_2,
 TV.str s_4]]) ∧
 K (IntKind.wrap IntKind.i64 (s + (1 : Int))) h)
 (CallsH Try.prog (17 : Nat) (TVs.vals [TV.ptr p]) h_5 fun (v : Value) (h_6 : Array Obj) ↦
 ∃ (s : Sl),
 v = TV.val (TV.slice s) ∧
 CallsH Try.prog (16 : Nat) (TVs.vals [TV.slice s]) h_6 fun (v : Value) (h_7 : Array Obj) ↦
 ∃ (s : Sl),
 v = TV.val (TV.slice s) ∧
 CallsH Try.prog (22 : Nat)
 (TVs.vals [TV.ptr p, TV.fn (Fn.func (30 : Nat)) [] [TV.ptr (some (Loc.mk (Array.size h) (0 : Nat)))]]) h_7
 fun (v : Value) (h_8 : Array Obj) ↦
 ∃ (s_1 : Sl),
 v = TV.val (TV.slice s_1) ∧
 CallsH Try.prog (16 : Nat) (TVs.vals [TV.slice s_1]) h_8 fun (v : Value) (h_9 : Array Obj) ↦
 ∃ (s_2 : Sl),
 v = TV.val (TV.slice s_2) ∧
 CallsH Try.prog (17 : Nat) (TVs.vals [TV.ptr p]) h_9 fun (v : Value) (h_10 : Array Obj) ↦
 ∃ (s_3 : Sl),
 v = TV.val (TV.slice s_3) ∧
 CallsH Try.prog (16 : Nat) (TVs.vals [TV.slice s_3]) h_10 fun (v : Value) (h_11 : Array Obj) ↦
 ∃ (s_4 : Sl),
 v = TV.val (TV.slice s_4) ∧
 If (!decide (IntKind.wrap IntKind.i64 ((↑s_2.len : Int) + (↑s_4.len : Int)) = (↑s.len : Int)))
 (R (TV.val (TV.bool false)) h_11)
 (CallsH Try.prog (22 : Nat)
 (TVs.vals
 [TV.ptr p,
 TV.fn (Fn.func (31 : Nat)) [] [TV.ptr (some (Loc.mk (Array.size h) (0 : Nat)))]])
 h_11 fun (v : Value) (h : Array Obj) ↦
 ∃ (s_5 : Sl),
 v = TV.val (TV.slice s_5) ∧
 If (!decide ((↑s_5.len : Int) = (0 : Int))) (R (TV.val (TV.bool false)) h)
 (∃ (new : List Value),
 slAt (Array.push h (row (TVs.cells []) (68 : Nat))) s_2 (67 : Nat) new ∧
 (∀ (v : Value), v ∈ new → isOne v = true) ∧
 vcAppend Ytjadpjbiiidioaa.ctx (68 : Nat)
 (Sl.mk (some (Loc.mk (Array.size h) (0 : Nat))) (0 : Nat) (0 : Nat)) s_2.len
 new (Array.push h (row (TVs.cells []) (68 : Nat)))
 fun (s_6 : Sl) (h : Array Obj) ↦
 ∃ (new : List Value),
 slAt h s_4 (67 : Nat) new ∧
 (∀ (v : Value), v ∈ new → isOne v = true) ∧
 vcAppend Ytjadpjbiiidioaa.ctx (68 : Nat) s_6 s_4.len new h
 fun (s_7 : Sl) (h : Array Obj) ↦
 CallsH Try.prog (15 : Nat) (TVs.vals [TV.slice s_7, TV.slice s]) h
 fun (v : Value) (h : Array Obj) ↦
 ∃ (b : Bool),
 v = TV.val (TV.bool b) ∧ R (TV.val (TV.bool b)) h))))))

theorem tollerlaw15_PoolTakes_calls (most : Int) (quota : Int) (script : Sl) (slot : Int) (h : Heap) (R : Value → Heap → Prop) (H : tollerlaw15_PoolTakes_vc most quota script slot h R) : CallsH Try.prog 9 (TVs.vals [TV.int IntKind.i64 most, TV.int IntKind.i64 quota, TV.slice script, TV.int IntKind.i64 slot]) h R :=
 vcFn_sound (C := ctx) ctx_ok (fn := Try.f9) Try.func9 ((by kernel_rfl : tollerlaw15_PoolTakes_vc most quota script slot h R = vcFn ctx Try.f9 [TV.int IntKind.i64 most, TV.int IntKind.i64 quota, TV.slice script, TV.int IntKind.i64 slot] h R) ▸ H)


end Go.Proofs.Ytjadpjbiiidioaa
