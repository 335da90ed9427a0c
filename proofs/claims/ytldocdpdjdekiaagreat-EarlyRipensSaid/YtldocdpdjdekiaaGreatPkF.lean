/- Texts that the proof needs, joined: VsLawS, LawS, LawG0, LawT, VcB2, FrameE. -/
import Derived.Deep.Strs
import Derived.Test.YtldocdpdjdekiaaGreatPkE

section
/- The conditions of functions, as the generator reckons them out, each with the proof that it is that. -/
namespace Go.Proofs.YtldocdpdjdekiaaGreat
open Go Go.Vc
set_option maxRecDepth 100000
set_option linter.unusedVariables false

def tollerlaw17_twins_vc (script : Sl) (h : Heap) (R : Value → Heap → Prop) : Prop :=
 Go.Vc.Loop (false, (0 : Int)) h fun (s : Bool × Int) (h : Array Obj) (K : Bool × Int → Array Obj → Prop) ↦
 If (decide (s.snd < (↑script.len : Int)))
 ((0 : Int) ≤ s.snd ∧
 s.snd < (↑script.len : Int) ∧
 Nn script.a fun (l : Go.Vc.Loc) ↦
 ∃ (n : Int),
 ∃ (n_1 : Int),
 ∃ (s_1 : List UInt8),
 ∃ (n_2 : Int),
 ∃ (n_3 : Int),
 ∃ (n_4 : Int),
 (at1 h l.b (l.o + Int.toNat s.snd * (6 : Nat)) (Value.int IntKind.i64 n) ∧
 at1 h l.b (l.o + Int.toNat s.snd * (6 : Nat) + (1 : Nat)) (Value.int IntKind.i64 n_1) ∧
 at1 h l.b (l.o + Int.toNat s.snd * (6 : Nat) + (1 : Nat) + (1 : Nat)) (Value.string (ByteArray.mk (List.toArray s_1))) ∧
 at1 h l.b (l.o + Int.toNat s.snd * (6 : Nat) + (1 : Nat) + (1 : Nat) + (1 : Nat)) (Value.int IntKind.i64 n_2) ∧
 at1 h l.b (l.o + Int.toNat s.snd * (6 : Nat) + (1 : Nat) + (1 : Nat) + (1 : Nat) + (1 : Nat)) (Value.int IntKind.i64 n_3) ∧
 at1 h l.b (l.o + Int.toNat s.snd * (6 : Nat) + (1 : Nat) + (1 : Nat) + (1 : Nat) + (1 : Nat) + (1 : Nat))
 (Value.int IntKind.i64 n_4)) ∧
 Vc.Bind
 (newTV h
 (TV.agg
 [TV.int IntKind.i64 (0 : Int), TV.int IntKind.i64 (0 : Int), TV.str [], TV.int IntKind.i64 (0 : Int),
 TV.int IntKind.i64 (0 : Int), TV.int IntKind.i64 (0 : Int)])
 (40 : Nat))
 fun (h_1 : Array Obj) ↦
 wok h_1 (Array.size h) (0 : Nat) (6 : Nat) ∧
 Vc.Bind
 (TV.put h_1 (Array.size h) (0 : Nat)
 (TV.agg
 [TV.int IntKind.i64 n, TV.int IntKind.i64 n_1, TV.str s_1, TV.int IntKind.i64 n_2, TV.int IntKind.i64 n_3,
 TV.int IntKind.i64 n_4]))
 fun (h_2 : Array Obj) ↦
 ∃ (n : Int),
 ∃ (n_5 : Int),
 ∃ (s_2 : List UInt8),
 ∃ (n_6 : Int),
 ∃ (n_7 : Int),
 ∃ (n_8 : Int),
 (at1 h_2 (Array.size h) (0 : Nat) (Value.int IntKind.i64 n) ∧
 at1 h_2 (Array.size h) (1 : Nat) (Value.int IntKind.i64 n_5) ∧
 at1 h_2 (Array.size h) (2 : Nat) (Value.string (ByteArray.mk (List.toArray s_2))) ∧
 at1 h_2 (Array.size h) (3 : Nat) (Value.int IntKind.i64 n_6) ∧
 at1 h_2 (Array.size h) (4 : Nat) (Value.int IntKind.i64 n_7) ∧
 at1 h_2 (Array.size h) (5 : Nat) (Value.int IntKind.i64 n_8)) ∧
 CallsH Tryz.prog (18 : Nat)
 (TVs.vals
 [TV.agg
 [TV.int IntKind.i64 n, TV.int IntKind.i64 n_5, TV.str s_2, TV.int IntKind.i64 n_6, TV.int IntKind.i64 n_7,
 TV.int IntKind.i64 n_8]])
 h_2 fun (v : Value) (h_3 : Array Obj) ↦
 ∃ (s_3 : List UInt8),
 v = TV.val (TV.str s_3) ∧
 CallsH Tryz.prog (48 : Nat) (TVs.vals [TV.str s_3]) h_3 fun (v : Value) (h_4 : Array Obj) ↦
 ∃ (n : Int),
 ∃ (n_9 : Int),
 ∃ (b : Bs (32 : Nat)),
 ∃ (n_10 : Int),
 ∃ (n_11 : Int),
 ∃ (s_4 : Sl),
 ∃ (b_1 : Bs (16 : Nat)),
 ∃ (b_2 : Bool),
 v =
 TV.val
 (TV.tup
 [TV.agg
 [TV.int IntKind.i64 n, TV.int IntKind.i64 n_9, TV.bytes (32 : Nat) b,
 TV.int IntKind.i64 n_10, TV.int IntKind.u64 n_11, TV.slice s_4,
 TV.bytes (16 : Nat) b_1],
 TV.bool b_2]) ∧
 Vc.Bind
 (newTV h_4
 (TV.agg
 [TV.int IntKind.i64 (0 : Int), TV.int IntKind.i64 (0 : Int),
 TV.bytes (32 : Nat) (Bs.zero (32 : Nat)), TV.int IntKind.i64 (0 : Int),
 TV.int IntKind.u64 (0 : Int), TV.slice Sl.nil,
 TV.bytes (16 : Nat) (Bs.zero (16 : Nat))])
 (58 : Nat))
 fun (h_5 : Array Obj) ↦
 wok h_5 (Array.size h_4) (0 : Nat) (53 : Nat) ∧
 Vc.Bind
 (TV.put h_5 (Array.size h_4) (0 : Nat)
 (TV.agg
 [TV.int IntKind.i64 n, TV.int IntKind.i64 n_9, TV.bytes (32 : Nat) b,
 TV.int IntKind.i64 n_10, TV.int IntKind.u64 n_11, TV.slice s_4,
 TV.bytes (16 : Nat) b_1]))
 fun (h_6 : Array Obj) ↦
 (0 : Int) ≤ s.snd ∧
 s.snd ≤ (↑script.cap : Int) ∧
 Go.Vc.Loop (s.fst, (0 : Int)) h_6
 fun (s_5 : Bool × Int) (h_7 : Array Obj)
 (K_1 : Bool × Int → Array Obj → Prop) ↦
 If
 (decide
 (s_5.snd <
 (↑(cutSl script (0 : Nat) (Int.toNat s.snd) (6 : Nat)).len : Int)))
 ((0 : Int) ≤ s_5.snd ∧
 s_5.snd <
 (↑(cutSl script (0 : Nat) (Int.toNat s.snd) (6 : Nat)).len : Int) ∧
 Nn (cutSl script (0 : Nat) (Int.toNat s.snd) (6 : Nat)).a
 fun (l : Go.Vc.Loc) ↦
 ∃ (n : Int),
 ∃ (n_12 : Int),
 ∃ (s_6 : List UInt8),
 ∃ (n_13 : Int),
 ∃ (n_14 : Int),
 ∃ (n_15 : Int),
 (at1 h_7 l.b (l.o + Int.toNat s_5.snd * (6 : Nat))
 (Value.int IntKind.i64 n) ∧
 at1 h_7 l.b
 (l.o + Int.toNat s_5.snd * (6 : Nat) + (1 : Nat))
 (Value.int IntKind.i64 n_12) ∧
 at1 h_7 l.b
 (l.o + Int.toNat s_5.snd * (6 : Nat) +
 (1 : Nat) +
 (1 : Nat))
 (Value.string
 (ByteArray.mk (List.toArray s_6))) ∧
 at1 h_7 l.b
 (l.o + Int.toNat s_5.snd * (6 : Nat) +
 (1 : Nat) +
 (1 : Nat) +
 (1 : Nat))
 (Value.int IntKind.i64 n_13) ∧
 at1 h_7 l.b
 (l.o + Int.toNat s_5.snd * (6 : Nat) +
 (1 : Nat) +
 (1 : Nat) +
 (1 : Nat) +
 (1 : Nat))
 (Value.int IntKind.i64 n_14) ∧
 at1 h_7 l.b
 (l.o + Int.toNat s_5.snd * (6 : Nat) +
 (1 : Nat) +
 (1 : Nat) +
 (1 : Nat) +
 (1 : Nat) +
 (1 : Nat))
 (Value.int IntKind.i64 n_15)) ∧
 Vc.Bind
 (newTV h_7
 (TV.agg
 [TV.int IntKind.i64 (0 : Int),
 TV.int IntKind.i64 (0 : Int), TV.str [],
 TV.int IntKind.i64 (0 : Int),
 TV.int IntKind.i64 (0 : Int),
 TV.int IntKind.i64 (0 : Int)])
 (40 : Nat))
 fun (h_8 : Array Obj) ↦
 wok h_8 (Array.size h_7) (0 : Nat) (6 : Nat) ∧
 Vc.Bind
 (TV.put h_8 (Array.size h_7) (0 : Nat)
 (TV.agg
 [TV.int IntKind.i64 n,
 TV.int IntKind.i64 n_12, TV.str s_6,
 TV.int IntKind.i64 n_13,
 TV.int IntKind.i64 n_14,
 TV.int IntKind.i64 n_15]))
 fun (h_9 : Array Obj) ↦
 ∃ (n : Int),
 ∃ (n_16 : Int),
 ∃ (s_7 : List UInt8),
 ∃ (n_17 : Int),
 ∃ (n_18 : Int),
 ∃ (n_19 : Int),
 (at1 h_9 (Array.size h_7) (0 : Nat)
 (Value.int IntKind.i64 n) ∧
 at1 h_9 (Array.size h_7) (1 : Nat)
 (Value.int IntKind.i64 n_16) ∧
 at1 h_9 (Array.size h_7)
 (2 : Nat)
 (Value.string
 (ByteArray.mk
 (List.toArray s_7))) ∧
 at1 h_9 (Array.size h_7)
 (3 : Nat)
 (Value.int IntKind.i64
 n_17) ∧
 at1 h_9 (Array.size h_7)
 (4 : Nat)
 (Value.int IntKind.i64
 n_18) ∧
 at1 h_9 (Array.size h_7)
 (5 : Nat)
 (Value.int IntKind.i64
 n_19)) ∧
 CallsH Tryz.prog (18 : Nat)
 (TVs.vals
 [TV.agg
 [TV.int IntKind.i64 n,
 TV.int IntKind.i64 n_16,
 TV.str s_7,
 TV.int IntKind.i64 n_17,
 TV.int IntKind.i64 n_18,
 TV.int IntKind.i64 n_19]])
 h_9
 fun (v : Value)
 (h_10 : Array Obj) ↦
 ∃ (s_8 : List UInt8),
 v = TV.val (TV.str s_8) ∧
 CallsH Tryz.prog (48 : Nat)
 (TVs.vals [TV.str s_8]) h_10
 fun (v : Value)
 (h_11 : Array Obj) ↦
 ∃ (n : Int),
 ∃ (n_20 : Int),
 ∃ (b : Bs (32 : Nat)),
 ∃ (n_21 : Int),
 ∃ (n_22 : Int),
 ∃ (s_9 : Sl),
 ∃ (b_3 :
 Bs
 (16 : Nat)),
 ∃ (b_4 :
 Bool),
 v =
 TV.val
 (TV.tup
 [TV.agg
 [TV.int
 IntKind.i64
 n,
 TV.int
 IntKind.i64
 n_20,
 TV.bytes
 (32 :
 Nat)
 b,
 TV.int
 IntKind.i64
 n_21,
 TV.int
 IntKind.u64
 n_22,
 TV.slice
 s_9,
 TV.bytes
 (16 :
 Nat)
 b_3],
 TV.bool
 b_4]) ∧
 Vc.Bind
 (newTV
 h_11
 (TV.agg
 [TV.int
 IntKind.i64
 (0 :
 Int),
 TV.int
 IntKind.i64
 (0 :
 Int),
 TV.bytes
 (32 :
 Nat)
 (Bs.zero
 (32 :
 Nat)),
 TV.int
 IntKind.i64
 (0 :
 Int),
 TV.int
 IntKind.u64
 (0 :
 Int),
 TV.slice
 Sl.nil,
 TV.bytes
 (16 :
 Nat)
 (Bs.zero
 (16 :
 Nat))])
 (58 :
 Nat))
 fun
 (h_12 :
 Array
 Obj) ↦
 wok h_12
 (Array.size
 h_11)
 (0 :
 Nat)
 (53 :
 Nat) ∧
 Vc.Bind
 (TV.put
 h_12
 (Array.size
 h_11)
 (0 :
 Nat)
 (TV.agg
 [TV.int
 IntKind.i64
 n,
 TV.int
 IntKind.i64
 n_20,
 TV.bytes
 (32 :
 Nat)
 b,
 TV.int
 IntKind.i64
 n_21,
 TV.int
 IntKind.u64
 n_22,
 TV.slice
 s_9,
 TV.bytes
 (16 :
 Nat)
 b_3]))
 fun
 (h_13 :
 Array
 Obj) ↦
 If
 b_2
 (If
 b_4
 (∃
 (n
 :
 Int),
 ∃
 (n_23
 :
 Int),
 ∃
 (s_10
 :
 List
 UInt8),
 ∃
 (n_24
 :
 Int),
 ∃
 (n_25
 :
 Int),
 ∃
 (n_26
 :
 Int),
 (at1
 h_13
 (Array.size
 h)
 (0 :
 Nat)
 (Value.int
 IntKind.i64
 n) ∧
 at1
 h_13
 (Array.size
 h)
 (1 :
 Nat)
 (Value.int
 IntKind.i64
 n_23) ∧
 at1
 h_13
 (Array.size
 h)
 (2 :
 Nat)
 (Value.string
 (ByteArray.mk
 (List.toArray
 s_10))) ∧
 at1
 h_13
 (Array.size
 h)
 (3 :
 Nat)
 (Value.int
 IntKind.i64
 n_24) ∧
 at1
 h_13
 (Array.size
 h)
 (4 :
 Nat)
 (Value.int
 IntKind.i64
 n_25) ∧
 at1
 h_13
 (Array.size
 h)
 (5 :
 Nat)
 (Value.int
 IntKind.i64
 n_26)) ∧
 ∃
 (n_27
 :
 Int),
 ∃
 (n_28
 :
 Int),
 ∃
 (s_11
 :
 List
 UInt8),
 ∃
 (n_29
 :
 Int),
 ∃
 (n_30
 :
 Int),
 ∃
 (n_31
 :
 Int),
 (at1
 h_13
 (Array.size
 h_7)
 (0 :
 Nat)
 (Value.int
 IntKind.i64
 n_27) ∧
 at1
 h_13
 (Array.size
 h_7)
 (1 :
 Nat)
 (Value.int
 IntKind.i64
 n_28) ∧
 at1
 h_13
 (Array.size
 h_7)
 (2 :
 Nat)
 (Value.string
 (ByteArray.mk
 (List.toArray
 s_11))) ∧
 at1
 h_13
 (Array.size
 h_7)
 (3 :
 Nat)
 (Value.int
 IntKind.i64
 n_29) ∧
 at1
 h_13
 (Array.size
 h_7)
 (4 :
 Nat)
 (Value.int
 IntKind.i64
 n_30) ∧
 at1
 h_13
 (Array.size
 h_7)
 (5 :
 Nat)
 (Value.int
 IntKind.i64
 n_31)) ∧
 CallsH
 Tryz.prog
 (18 :
 Nat)
 (TVs.vals
 [TV.agg
 [TV.int
 IntKind.i64
 n,
 TV.int
 IntKind.i64
 n_23,
 TV.str
 s_10,
 TV.int
 IntKind.i64
 n_24,
 TV.int
 IntKind.i64
 n_25,
 TV.int
 IntKind.i64
 n_26]])
 h_13
 fun
 (v :
 Value)
 (h :
 Array
 Obj) ↦
 ∃
 (s_12
 :
 List
 UInt8),
 v =
 TV.val
 (TV.str
 s_12) ∧
 Ext
 h_13
 h ∧
 CallsH
 Tryz.prog
 (18 :
 Nat)
 (TVs.vals
 [TV.agg
 [TV.int
 IntKind.i64
 n_27,
 TV.int
 IntKind.i64
 n_28,
 TV.str
 s_11,
 TV.int
 IntKind.i64
 n_29,
 TV.int
 IntKind.i64
 n_30,
 TV.int
 IntKind.i64
 n_31]])
 h
 fun
 (v :
 Value)
 (h :
 Array
 Obj) ↦
 ∃
 (s_13
 :
 List
 UInt8),
 v =
 TV.val
 (TV.str
 s_13) ∧
 If
 (!decide
 (s_12 =
 s_13))
 (∃
 (n
 :
 Int),
 ∃
 (n_32
 :
 Int),
 ∃
 (b
 :
 Bs
 (32 :
 Nat)),
 ∃
 (n_33
 :
 Int),
 ∃
 (n_34
 :
 Int),
 ∃
 (s_14
 :
 Sl),
 ∃
 (b_5
 :
 Bs
 (16 :
 Nat)),
 (at1
 h
 (Array.size
 h_4)
 (0 :
 Nat)
 (Value.int
 IntKind.i64
 n) ∧
 at1
 h
 (Array.size
 h_4)
 (1 :
 Nat)
 (Value.int
 IntKind.i64
 n_32) ∧
 atBytes
 h
 (Array.size
 h_4)
 (2 :
 Nat)
 (32 :
 Nat)
 b ∧
 at1
 h
 (Array.size
 h_4)
 (34 :
 Nat)
 (Value.int
 IntKind.i64
 n_33) ∧
 at1
 h
 (Array.size
 h_4)
 (35 :
 Nat)
 (Value.int
 IntKind.u64
 n_34) ∧
 at1
 h
 (Array.size
 h_4)
 (36 :
 Nat)
 (slVal
 s_14) ∧
 atBytes
 h
 (Array.size
 h_4)
 (37 :
 Nat)
 (16 :
 Nat)
 b_5) ∧
 ∃
 (n_35
 :
 Int),
 ∃
 (n_36
 :
 Int),
 ∃
 (b_6
 :
 Bs
 (32 :
 Nat)),
 ∃
 (n_37
 :
 Int),
 ∃
 (n_38
 :
 Int),
 ∃
 (s_15
 :
 Sl),
 ∃
 (b_7
 :
 Bs
 (16 :
 Nat)),
 (at1
 h
 (Array.size
 h_11)
 (0 :
 Nat)
 (Value.int
 IntKind.i64
 n_35) ∧
 at1
 h
 (Array.size
 h_11)
 (1 :
 Nat)
 (Value.int
 IntKind.i64
 n_36) ∧
 atBytes
 h
 (Array.size
 h_11)
 (2 :
 Nat)
 (32 :
 Nat)
 b_6 ∧
 at1
 h
 (Array.size
 h_11)
 (34 :
 Nat)
 (Value.int
 IntKind.i64
 n_37) ∧
 at1
 h
 (Array.size
 h_11)
 (35 :
 Nat)
 (Value.int
 IntKind.u64
 n_38) ∧
 at1
 h
 (Array.size
 h_11)
 (36 :
 Nat)
 (slVal
 s_15) ∧
 atBytes
 h
 (Array.size
 h_11)
 (37 :
 Nat)
 (16 :
 Nat)
 b_7) ∧
 CallsH
 Tryz.prog
 (22 :
 Nat)
 (TVs.vals
 [TV.agg
 [TV.int
 IntKind.i64
 n,
 TV.int
 IntKind.i64
 n_32,
 TV.bytes
 (32 :
 Nat)
 b,
 TV.int
 IntKind.i64
 n_33,
 TV.int
 IntKind.u64
 n_34,
 TV.slice
 s_14,
 TV.bytes
 (16 :
 Nat)
 b_5]])
 h
 fun
 (v :
 Value)
 (h_14 :
 Array
 Obj) ↦
 ∃
 (b
 :
 Bs
 (32 :
 Nat)),
 v =
 TV.val
 (TV.bytes
 (32 :
 Nat)
 b) ∧
 Ext
 h
 h_14 ∧
 CallsH
 Tryz.prog
 (22 :
 Nat)
 (TVs.vals
 [TV.agg
 [TV.int
 IntKind.i64
 n_35,
 TV.int
 IntKind.i64
 n_36,
 TV.bytes
 (32 :
 Nat)
 b_6,
 TV.int
 IntKind.i64
 n_37,
 TV.int
 IntKind.u64
 n_38,
 TV.slice
 s_15,
 TV.bytes
 (16 :
 Nat)
 b_7]])
 h_14
 fun
 (v :
 Value)
 (h :
 Array
 Obj) ↦
 ∃
 (b_8
 :
 Bs
 (32 :
 Nat)),
 v =
 TV.val
 (TV.bytes
 (32 :
 Nat)
 b_8) ∧
 If
 (decide
 (b.l =
 b_8.l))
 (R
 (TV.val
 (TV.bool
 true))
 h)
 (K_1
 (s_5.fst,
 IntKind.wrap
 IntKind.i64
 (s_5.snd +
 (1 :
 Int)))
 h))
 (K_1
 (s_5.fst,
 IntKind.wrap
 IntKind.i64
 (s_5.snd +
 (1 :
 Int)))
 h))
 (K_1
 (s_5.fst,
 IntKind.wrap
 IntKind.i64
 (s_5.snd +
 (1 :
 Int)))
 h_13))
 (K_1
 (s_5.fst,
 IntKind.wrap
 IntKind.i64
 (s_5.snd +
 (1 :
 Int)))
 h_13))
 (K (s_5.fst, IntKind.wrap IntKind.i64 (s.snd + (1 : Int))) h_7))
 (R (TV.val (TV.bool false)) h)

theorem tollerlaw17_twins_calls (script : Sl) (h : Heap) (R : Value → Heap → Prop) (H : tollerlaw17_twins_vc script h R) : CallsH Tryz.prog 21 (TVs.vals [TV.slice script]) h R :=
 vcFn_sound (C := ctx) ctx_ok (fn := Tryz.f21) Tryz.func21 ((by kernel_rfl : tollerlaw17_twins_vc script h R = vcFn ctx Tryz.f21 [TV.slice script] h R) ▸ H)


def tollerlaw17_EarlyRipens_vc (script : Sl) (turn : Int) (now : Int) (h : Heap) (R : Value → Heap → Prop) : Prop :=
 CallsH Tryz.prog (8 : Nat) (TVs.vals []) h fun (v : Value) (h : Heap) ↦
 ∃ (b : Bool),
 v = TV.val (TV.bool b) ∧
 If (!b) (R (TV.val (TV.bool false)) h)
 (Join
 (fun (s : Bool) (h : Array Obj) ↦
 CallsH Tryz.prog (14 : Nat) (TVs.vals [TV.int IntKind.i64 (64 : Int), TV.int IntKind.i64 (64 : Int)]) h fun (v : Value) (h : Array Obj) ↦
 ∃ (p : Option Go.Vc.Loc),
 v = TV.val (TV.ptr p) ∧
 CallsH Tryz.prog (14 : Nat) (TVs.vals [TV.int IntKind.i64 (64 : Int), TV.int IntKind.i64 (64 : Int)]) h fun (v : Value) (h : Array Obj) ↦
 ∃ (p_1 : Option Go.Vc.Loc),
 v = TV.val (TV.ptr p_1) ∧
 ∃ (new : List Value),
 slAt (Array.push h (row (TVs.cells []) (40 : Nat))) script (6 : Nat) new ∧
 (∀ (v : Value), v ∈ new → isOne v = true) ∧
 vcAppend YtldocdpdjdekiaaGreat.ctx (40 : Nat) (Sl.mk (some (Loc.mk (Array.size h) (0 : Nat))) (0 : Nat) (0 : Nat)) script.len new
 (Array.push h (row (TVs.cells []) (40 : Nat))) fun (s_1 : Sl) (h_1 : Array Obj) ↦
 Go.Vc.Loop (0 : Int) h_1 fun (s_2 : Int) (h_2 : Array Obj) (K : Int → Array Obj → Prop) ↦
 If (decide (s_2 < (↑s_1.len : Int)))
 ((0 : Int) ≤ s_2 ∧
 s_2 < (↑s_1.len : Int) ∧
 Nn s_1.a fun (l : Go.Vc.Loc) ↦
 wok h_2 l.b (l.o + Int.toNat s_2 * (6 : Nat)) (1 : Nat) ∧
 Vc.Bind (TV.put h_2 l.b (l.o + Int.toNat s_2 * (6 : Nat)) (TV.int IntKind.i64 (2 : Int))) fun (h : Array Obj) ↦
 K (IntKind.wrap IntKind.i64 (s_2 + (1 : Int))) h)
 (CallsH Tryz.prog (21 : Nat) (TVs.vals [TV.slice s_1]) h_2 fun (v : Value) (h_3 : Array Obj) ↦
 ∃ (b_1 : Bool),
 v = TV.val (TV.bool b_1) ∧
 If b_1 (R (TV.val (TV.bool true)) h_3)
 (IntKind.wrap IntKind.u64 (↑s_1.len : Int) ≠ (0 : Int) ∧
 Go.Vc.Loop (0 : Int) h_3 fun (s_3 : Int) (h_4 : Array Obj) (K : Int → Array Obj → Prop) ↦
 If (decide (s_3 < (↑s_1.len : Int)))
 (Join
 (fun (s_4 : Option Go.Vc.Loc × Option Go.Vc.Loc) (h_5 : Array Obj) ↦
 Nn s_4.fst fun (l : Go.Vc.Loc) ↦
 wok h_5 l.b l.o (1 : Nat) ∧
 Vc.Bind (TV.put h_5 l.b l.o (TV.int IntKind.i64 (2 : Int))) fun (h_6 : Array Obj) ↦
 Nn s_4.snd fun (l : Go.Vc.Loc) ↦
 wok h_6 l.b l.o (1 : Nat) ∧
 Vc.Bind (TV.put h_6 l.b l.o (TV.int IntKind.i64 (2 : Int))) fun (h_7 : Array Obj) ↦
 Nn s_4.fst fun (l : Go.Vc.Loc) ↦
 ∃ (n : Int),
 at1 h_7 l.b (l.o + (1 : Nat)) (Value.int IntKind.i64 n) ∧
 Nn s_4.fst fun (l : Go.Vc.Loc) ↦
 ∃ (n_1 : Int),
 ∃ (n_2 : Int),
 ∃ (s_5 : List UInt8),
 ∃ (n_3 : Int),
 ∃ (n_4 : Int),
 ∃ (n_5 : Int),
 (at1 h_7 l.b l.o (Value.int IntKind.i64 n_1) ∧
 at1 h_7 l.b (l.o + (1 : Nat)) (Value.int IntKind.i64 n_2) ∧
 at1 h_7 l.b (l.o + (1 : Nat) + (1 : Nat))
 (Value.string (ByteArray.mk (List.toArray s_5))) ∧
 at1 h_7 l.b (l.o + (1 : Nat) + (1 : Nat) + (1 : Nat))
 (Value.int IntKind.i64 n_3) ∧
 at1 h_7 l.b
 (l.o + (1 : Nat) + (1 : Nat) + (1 : Nat) + (1 : Nat))
 (Value.int IntKind.i64 n_4) ∧
 at1 h_7 l.b
 (l.o + (1 : Nat) + (1 : Nat) + (1 : Nat) + (1 : Nat) +
 (1 : Nat))
 (Value.int IntKind.i64 n_5)) ∧
 CallsH Tryz.prog (18 : Nat)
 (TVs.vals
 [TV.agg
 [TV.int IntKind.i64 n_1, TV.int IntKind.i64 n_2, TV.str s_5,
 TV.int IntKind.i64 n_3, TV.int IntKind.i64 n_4,
 TV.int IntKind.i64 n_5]])
 h_7 fun (v : Value) (h_8 : Array Obj) ↦
 ∃ (s_6 : List UInt8),
 v = TV.val (TV.str s_6) ∧
 Ext h_7 h_8 ∧
 CallsH Tryz.prog (10 : Nat)
 (TVs.vals [TV.ptr p, TV.int IntKind.i64 n, TV.str s_6]) h_8
 fun (v : Value) (h_9 : Array Obj) ↦
 ∃ (n : Int),
 ∃ (b_2 : Bs (32 : Nat)),
 v =
 TV.val
 (TV.tup
 [TV.int IntKind.i64 n, TV.bytes (32 : Nat) b_2]) ∧
 Nn s_4.snd fun (l : Go.Vc.Loc) ↦
 ∃ (n : Int),
 at1 h_9 l.b (l.o + (1 : Nat))
 (Value.int IntKind.i64 n) ∧
 Nn s_4.snd fun (l : Go.Vc.Loc) ↦
 ∃ (n_6 : Int),
 ∃ (n_7 : Int),
 ∃ (s : List UInt8),
 ∃ (n_8 : Int),
 ∃ (n_9 : Int),
 ∃ (n_10 : Int),
 (at1 h_9 l.b l.o
 (Value.int IntKind.i64 n_6) ∧
 at1 h_9 l.b (l.o + (1 : Nat))
 (Value.int IntKind.i64
 n_7) ∧
 at1 h_9 l.b
 (l.o + (1 : Nat) +
 (1 : Nat))
 (Value.string
 (ByteArray.mk
 (List.toArray s))) ∧
 at1 h_9 l.b
 (l.o + (1 : Nat) +
 (1 : Nat) +
 (1 : Nat))
 (Value.int IntKind.i64
 n_8) ∧
 at1 h_9 l.b
 (l.o + (1 : Nat) +
 (1 : Nat) +
 (1 : Nat) +
 (1 : Nat))
 (Value.int IntKind.i64
 n_9) ∧
 at1 h_9 l.b
 (l.o + (1 : Nat) +
 (1 : Nat) +
 (1 : Nat) +
 (1 : Nat) +
 (1 : Nat))
 (Value.int IntKind.i64
 n_10)) ∧
 CallsH Tryz.prog (18 : Nat)
 (TVs.vals
 [TV.agg
 [TV.int IntKind.i64 n_6,
 TV.int IntKind.i64 n_7,
 TV.str s,
 TV.int IntKind.i64 n_8,
 TV.int IntKind.i64 n_9,
 TV.int IntKind.i64
 n_10]])
 h_9
 fun (v : Value)
 (h : Array Obj) ↦
 ∃ (s : List UInt8),
 v = TV.val (TV.str s) ∧
 Ext h_9 h ∧
 CallsH Tryz.prog
 (10 : Nat)
 (TVs.vals
 [TV.ptr p_1,
 TV.int IntKind.i64
 n,
 TV.str s])
 h
 fun (v : Value)
 (h : Array Obj) ↦
 ∃ (n : Int),
 ∃ (b : Bs (32 : Nat)),
 v =
 TV.val
 (TV.tup
 [TV.int
 IntKind.i64
 n,
 TV.bytes
 (32 :
 Nat)
 b]) ∧
 K
 (IntKind.wrap
 IntKind.i64
 (s_3 +
 (1 : Int)))
 h)
 fun (J : Option Go.Vc.Loc × Option Go.Vc.Loc → Array Obj → Prop) ↦
 (0 : Int) ≤ s_3 ∧
 s_3 < (↑s_1.len : Int) ∧
 Nn s_1.a fun (l : Go.Vc.Loc) ↦
 ∃ (n : Int),
 ∃ (n_1 : Int),
 ∃ (s : List UInt8),
 ∃ (n_2 : Int),
 ∃ (n_3 : Int),
 ∃ (n_4 : Int),
 (at1 h_4 l.b (l.o + Int.toNat s_3 * (6 : Nat)) (Value.int IntKind.i64 n) ∧
 at1 h_4 l.b (l.o + Int.toNat s_3 * (6 : Nat) + (1 : Nat))
 (Value.int IntKind.i64 n_1) ∧
 at1 h_4 l.b (l.o + Int.toNat s_3 * (6 : Nat) + (1 : Nat) + (1 : Nat))
 (Value.string (ByteArray.mk (List.toArray s))) ∧
 at1 h_4 l.b (l.o + Int.toNat s_3 * (6 : Nat) + (1 : Nat) + (1 : Nat) + (1 : Nat))
 (Value.int IntKind.i64 n_2) ∧
 at1 h_4 l.b
 (l.o + Int.toNat s_3 * (6 : Nat) + (1 : Nat) + (1 : Nat) + (1 : Nat) +
 (1 : Nat))
 (Value.int IntKind.i64 n_3) ∧
 at1 h_4 l.b
 (l.o + Int.toNat s_3 * (6 : Nat) + (1 : Nat) + (1 : Nat) + (1 : Nat) +
 (1 : Nat) +
 (1 : Nat))
 (Value.int IntKind.i64 n_4)) ∧
 (↑s_1.len : Int) ≠ (0 : Int) ∧
 (0 : Int) ≤
 IntKind.wrap IntKind.i64
 (IntKind.wrap IntKind.i64 ((↑s_1.len : Int) - (1 : Int)) -
 Int.tmod
 (IntKind.wrap IntKind.i64
 (s_3 +
 IntKind.wrap IntKind.i64
 (Int.tmod (IntKind.wrap IntKind.u64 turn)
 (IntKind.wrap IntKind.u64 (↑s_1.len : Int)))))
 (↑s_1.len : Int)) ∧
 IntKind.wrap IntKind.i64
 (IntKind.wrap IntKind.i64 ((↑s_1.len : Int) - (1 : Int)) -
 Int.tmod
 (IntKind.wrap IntKind.i64
 (s_3 +
 IntKind.wrap IntKind.i64
 (Int.tmod (IntKind.wrap IntKind.u64 turn)
 (IntKind.wrap IntKind.u64 (↑s_1.len : Int)))))
 (↑s_1.len : Int)) <
 (↑s_1.len : Int) ∧
 Nn s_1.a fun (l : Go.Vc.Loc) ↦
 ∃ (n_5 : Int),
 ∃ (n_6 : Int),
 ∃ (s_4 : List UInt8),
 ∃ (n_7 : Int),
 ∃ (n_8 : Int),
 ∃ (n_9 : Int),
 (at1 h_4 l.b
 (l.o +
 Int.toNat
 (IntKind.wrap IntKind.i64
 (IntKind.wrap IntKind.i64
 ((↑s_1.len : Int) - (1 : Int)) -
 Int.tmod
 (IntKind.wrap IntKind.i64
 (s_3 +
 IntKind.wrap IntKind.i64
 (Int.tmod (IntKind.wrap IntKind.u64 turn)
 (IntKind.wrap IntKind.u64
 (↑s_1.len : Int)))))
 (↑s_1.len : Int))) *
 (6 : Nat))
 (Value.int IntKind.i64 n_5) ∧
 at1 h_4 l.b
 (l.o +
 Int.toNat
 (IntKind.wrap IntKind.i64
 (IntKind.wrap IntKind.i64
 ((↑s_1.len : Int) - (1 : Int)) -
 Int.tmod
 (IntKind.wrap IntKind.i64
 (s_3 +
 IntKind.wrap IntKind.i64
 (Int.tmod
 (IntKind.wrap IntKind.u64 turn)
 (IntKind.wrap IntKind.u64
 (↑s_1.len : Int)))))
 (↑s_1.len : Int))) *
 (6 : Nat) +
 (1 : Nat))
 (Value.int IntKind.i64 n_6) ∧
 at1 h_4 l.b
 (l.o +
 Int.toNat
 (IntKind.wrap IntKind.i64
 (IntKind.wrap IntKind.i64
 ((↑s_1.len : Int) - (1 : Int)) -
 Int.tmod
 (IntKind.wrap IntKind.i64
 (s_3 +
 IntKind.wrap IntKind.i64
 (Int.tmod
 (IntKind.wrap IntKind.u64 turn)
 (IntKind.wrap IntKind.u64
 (↑s_1.len : Int)))))
 (↑s_1.len : Int))) *
 (6 : Nat) +
 (1 : Nat) +
 (1 : Nat))
 (Value.string (ByteArray.mk (List.toArray s_4))) ∧
 at1 h_4 l.b
 (l.o +
 Int.toNat
 (IntKind.wrap IntKind.i64
 (IntKind.wrap IntKind.i64
 ((↑s_1.len : Int) - (1 : Int)) -
 Int.tmod
 (IntKind.wrap IntKind.i64
 (s_3 +
 IntKind.wrap IntKind.i64
 (Int.tmod
 (IntKind.wrap IntKind.u64
 turn)
 (IntKind.wrap IntKind.u64
 (↑s_1.len : Int)))))
 (↑s_1.len : Int))) *
 (6 : Nat) +
 (1 : Nat) +
 (1 : Nat) +
 (1 : Nat))
 (Value.int IntKind.i64 n_7) ∧
 at1 h_4 l.b
 (l.o +
 Int.toNat
 (IntKind.wrap IntKind.i64
 (IntKind.wrap IntKind.i64
 ((↑s_1.len : Int) - (1 : Int)) -
 Int.tmod
 (IntKind.wrap IntKind.i64
 (s_3 +
 IntKind.wrap IntKind.i64
 (Int.tmod
 (IntKind.wrap IntKind.u64
 turn)
 (IntKind.wrap IntKind.u64
 (↑s_1.len : Int)))))
 (↑s_1.len : Int))) *
 (6 : Nat) +
 (1 : Nat) +
 (1 : Nat) +
 (1 : Nat) +
 (1 : Nat))
 (Value.int IntKind.i64 n_8) ∧
 at1 h_4 l.b
 (l.o +
 Int.toNat
 (IntKind.wrap IntKind.i64
 (IntKind.wrap IntKind.i64
 ((↑s_1.len : Int) - (1 : Int)) -
 Int.tmod
 (IntKind.wrap IntKind.i64
 (s_3 +
 IntKind.wrap IntKind.i64
 (Int.tmod
 (IntKind.wrap
 IntKind.u64 turn)
 (IntKind.wrap
 IntKind.u64
 (↑s_1.len : Int)))))
 (↑s_1.len : Int))) *
 (6 : Nat) +
 (1 : Nat) +
 (1 : Nat) +
 (1 : Nat) +
 (1 : Nat) +
 (1 : Nat))
 (Value.int IntKind.i64 n_9)) ∧
 (Vc.Bind
 (newTV h_4
 (TV.agg
 [TV.int IntKind.i64 (0 : Int),
 TV.int IntKind.i64 (0 : Int), TV.str [],
 TV.int IntKind.i64 (0 : Int),
 TV.int IntKind.i64 (0 : Int),
 TV.int IntKind.i64 (0 : Int)])
 (40 : Nat))
 fun (h : Array Obj) ↦
 Ext h_4 h ∧
 Vc.Bind
 (newTV h
 (TV.agg
 [TV.int IntKind.i64 (0 : Int),
 TV.int IntKind.i64 (0 : Int), TV.str [],
 TV.int IntKind.i64 (0 : Int),
 TV.int IntKind.i64 (0 : Int),
 TV.int IntKind.i64 (0 : Int)])
 (40 : Nat))
 fun (h_5 : Array Obj) ↦
 Ext h_4 h_5 ∧
 wok h_5 (Array.size h_4) (0 : Nat) (6 : Nat) ∧
 Vc.Bind
 (TV.put h_5 (Array.size h_4) (0 : Nat)
 (TV.agg
 [TV.int IntKind.i64 n, TV.int IntKind.i64 n_1,
 TV.str s, TV.int IntKind.i64 n_2,
 TV.int IntKind.i64 n_3,
 TV.int IntKind.i64 n_4]))
 fun (h_6 : Array Obj) ↦
 Ext h_4 h_6 ∧
 wok h_6 (Array.size h) (0 : Nat) (6 : Nat) ∧
 Vc.Bind
 (TV.put h_6 (Array.size h) (0 : Nat)
 (TV.agg
 [TV.int IntKind.i64 n_5,
 TV.int IntKind.i64 n_6, TV.str s_4,
 TV.int IntKind.i64 n_7,
 TV.int IntKind.i64 n_8,
 TV.int IntKind.i64 n_9]))
 fun (h_7 : Array Obj) ↦
 J
 (some (Loc.mk (Array.size h_4) (0 : Nat)),
 some (Loc.mk (Array.size h) (0 : Nat)))
 h_7) ∧
 Vc.Bind
 (newTV h_4
 (TV.agg
 [TV.int IntKind.i64 (0 : Int),
 TV.int IntKind.i64 (0 : Int), TV.str [],
 TV.int IntKind.i64 (0 : Int),
 TV.int IntKind.i64 (0 : Int),
 TV.int IntKind.i64 (0 : Int)])
 (40 : Nat))
 fun (h : Array Obj) ↦
 Ext h_4 h ∧
 Vc.Bind
 (newTV h
 (TV.agg
 [TV.int IntKind.i64 (0 : Int),
 TV.int IntKind.i64 (0 : Int), TV.str [],
 TV.int IntKind.i64 (0 : Int),
 TV.int IntKind.i64 (0 : Int),
 TV.int IntKind.i64 (0 : Int)])
 (40 : Nat))
 fun (h_5 : Array Obj) ↦
 Ext h_4 h_5 ∧
 wok h_5 (Array.size h) (0 : Nat) (6 : Nat) ∧
 Vc.Bind
 (TV.put h_5 (Array.size h) (0 : Nat)
 (TV.agg
 [TV.int IntKind.i64 n, TV.int IntKind.i64 n_1,
 TV.str s, TV.int IntKind.i64 n_2,
 TV.int IntKind.i64 n_3,
 TV.int IntKind.i64 n_4]))
 fun (h_6 : Array Obj) ↦
 Ext h_4 h_6 ∧
 wok h_6 (Array.size h_4) (0 : Nat) (6 : Nat) ∧
 Vc.Bind
 (TV.put h_6 (Array.size h_4) (0 : Nat)
 (TV.agg
 [TV.int IntKind.i64 n_5,
 TV.int IntKind.i64 n_6, TV.str s_4,
 TV.int IntKind.i64 n_7,
 TV.int IntKind.i64 n_8,
 TV.int IntKind.i64 n_9]))
 fun (h_7 : Array Obj) ↦
 J
 (some (Loc.mk (Array.size h) (0 : Nat)),
 some (Loc.mk (Array.size h_4) (0 : Nat)))
 h_7)
 (CallsH Tryz.prog (11 : Nat) (TVs.vals [TV.ptr p, TV.int IntKind.i64 now]) h_4
 fun (v : Value) (h : Array Obj) ↦
 ∃ (s_4 : Sl),
 v = TV.val (TV.slice s_4) ∧
 CallsH Tryz.prog (11 : Nat) (TVs.vals [TV.ptr p_1, TV.int IntKind.i64 now]) h
 fun (v : Value) (h : Array Obj) ↦
 ∃ (s_5 : Sl),
 v = TV.val (TV.slice s_5) ∧
 Join
 (fun (s : Bool) (h : Array Obj) ↦
 Go.Vc.Loop (s, (0 : Int)) h
 fun (s_6 : Bool × Int) (h : Array Obj) (K : Bool × Int → Array Obj → Prop) ↦
 If (decide (s_6.snd < (↑s_4.len : Int)))
 ((0 : Int) ≤ s_6.snd ∧
 s_6.snd < (↑s_4.len : Int) ∧
 Nn s_4.a fun (l : Go.Vc.Loc) ↦
 ∃ (n : Int),
 ∃ (n_1 : Int),
 ∃ (b : Bs (32 : Nat)),
 ∃ (n_2 : Int),
 ∃ (n_3 : Int),
 ∃ (s_7 : Sl),
 ∃ (b_2 : Bs (16 : Nat)),
 (at1 h l.b (l.o + Int.toNat s_6.snd * (53 : Nat))
 (Value.int IntKind.i64 n) ∧
 at1 h l.b (l.o + Int.toNat s_6.snd * (53 : Nat) + (1 : Nat))
 (Value.int IntKind.i64 n_1) ∧
 atBytes h l.b
 (l.o + Int.toNat s_6.snd * (53 : Nat) + (1 : Nat) +
 (1 : Nat))
 (32 : Nat) b ∧
 at1 h l.b
 (l.o + Int.toNat s_6.snd * (53 : Nat) + (1 : Nat) +
 (1 : Nat) +
 (32 : Nat))
 (Value.int IntKind.i64 n_2) ∧
 at1 h l.b
 (l.o + Int.toNat s_6.snd * (53 : Nat) + (1 : Nat) +
 (1 : Nat) +
 (32 : Nat) +
 (1 : Nat))
 (Value.int IntKind.u64 n_3) ∧
 at1 h l.b
 (l.o + Int.toNat s_6.snd * (53 : Nat) + (1 : Nat) +
 (1 : Nat) +
 (32 : Nat) +
 (1 : Nat) +
 (1 : Nat))
 (slVal s_7) ∧
 atBytes h l.b
 (l.o + Int.toNat s_6.snd * (53 : Nat) + (1 : Nat) +
 (1 : Nat) +
 (32 : Nat) +
 (1 : Nat) +
 (1 : Nat) +
 (1 : Nat))
 (16 : Nat) b_2) ∧
 Vc.Bind
 (newTV h
 (TV.agg
 [TV.int IntKind.i64 (0 : Int), TV.int IntKind.i64 (0 : Int),
 TV.bytes (32 : Nat) (Bs.zero (32 : Nat)),
 TV.int IntKind.i64 (0 : Int), TV.int IntKind.u64 (0 : Int),
 TV.slice Sl.nil, TV.bytes (16 : Nat) (Bs.zero (16 : Nat))])
 (58 : Nat))
 fun (h_5 : Array Obj) ↦
 wok h_5 (Array.size h) (0 : Nat) (53 : Nat) ∧
 Vc.Bind
 (TV.put h_5 (Array.size h) (0 : Nat)
 (TV.agg
 [TV.int IntKind.i64 n, TV.int IntKind.i64 n_1,
 TV.bytes (32 : Nat) b, TV.int IntKind.i64 n_2,
 TV.int IntKind.u64 n_3, TV.slice s_7,
 TV.bytes (16 : Nat) b_2]))
 fun (h_6 : Array Obj) ↦
 ∃ (n : Int),
 at1 h_6 (Array.size h) (1 : Nat) (Value.int IntKind.i64 n) ∧
 If (decide (now ≤ n)) (R (TV.val (TV.bool false)) h_6)
 (If (decide ((0 : Int) < s_6.snd))
 ((0 : Int) ≤
 IntKind.wrap IntKind.i64 (s_6.snd - (1 : Int)) ∧
 IntKind.wrap IntKind.i64 (s_6.snd - (1 : Int)) <
 (↑s_4.len : Int) ∧
 Nn s_4.a fun (l : Go.Vc.Loc) ↦
 ∃ (n : Int),
 at1 h_6 l.b
 (l.o +
 Int.toNat
 (IntKind.wrap IntKind.i64
 (s_6.snd - (1 : Int))) *
 (53 : Nat) +
 (1 : Nat))
 (Value.int IntKind.i64 n) ∧
 ∃ (n_4 : Int),
 at1 h_6 (Array.size h) (1 : Nat)
 (Value.int IntKind.i64 n_4) ∧
 If (decide (n_4 < n))
 (R (TV.val (TV.bool false)) h_6)
 (∃ (n : Int),
 ∃ (n_5 : Int),
 ∃ (b : Bs (32 : Nat)),
 ∃ (n_6 : Int),
 ∃ (n_7 : Int),
 ∃ (s_8 : Sl),
 ∃ (b_3 : Bs (16 : Nat)),
 (at1 h_6 (Array.size h)
 (0 : Nat)
 (Value.int
 IntKind.i64 n) ∧
 at1 h_6
 (Array.size h)
 (1 : Nat)
 (Value.int
 IntKind.i64
 n_5) ∧
 atBytes h_6
 (Array.size h)
 (2 : Nat)
 (32 : Nat) b ∧
 at1 h_6
 (Array.size
 h)
 (34 : Nat)
 (Value.int
 IntKind.i64
 n_6) ∧
 at1 h_6
 (Array.size
 h)
 (35 : Nat)
 (Value.int
 IntKind.u64
 n_7) ∧
 at1 h_6
 (Array.size
 h)
 (36 :
 Nat)
 (slVal
 s_8) ∧
 atBytes
 h_6
 (Array.size
 h)
 (37 :
 Nat)
 (16 :
 Nat)
 b_3) ∧
 CallsH Tryz.prog
 (22 : Nat)
 (TVs.vals
 [TV.agg
 [TV.int
 IntKind.i64
 n,
 TV.int
 IntKind.i64
 n_5,
 TV.bytes
 (32 : Nat)
 b,
 TV.int
 IntKind.i64
 n_6,
 TV.int
 IntKind.u64
 n_7,
 TV.slice
 s_8,
 TV.bytes
 (16 : Nat)
 b_3]])
 h_6
 fun (v : Value)
 (h : Array Obj) ↦
 ∃ (b :
 Bs (32 : Nat)),
 v =
 TV.val
 (TV.bytes
 (32 : Nat)
 b) ∧
 CallsH Tryz.prog
 (12 : Nat)
 (TVs.vals
 [TV.ptr p,
 TV.bytes
 (32 :
 Nat)
 b])
 h
 fun
 (v : Value)
 (h :
 Array
 Obj) ↦
 ∃ (b : Bool),
 v =
 TV.val
 (TV.bool
 b) ∧
 If b
 (R
 (TV.val
 (TV.bool
 false))
 h)
 (K
 (s_6.fst,
 IntKind.wrap
 IntKind.i64
 (s_6.snd +
 (1 :
 Int)))
 h)))
 (∃ (n : Int),
 ∃ (n_4 : Int),
 ∃ (b : Bs (32 : Nat)),
 ∃ (n_5 : Int),
 ∃ (n_6 : Int),
 ∃ (s_8 : Sl),
 ∃ (b_3 : Bs (16 : Nat)),
 (at1 h_6 (Array.size h) (0 : Nat)
 (Value.int IntKind.i64 n) ∧
 at1 h_6 (Array.size h) (1 : Nat)
 (Value.int IntKind.i64 n_4) ∧
 atBytes h_6 (Array.size h)
 (2 : Nat) (32 : Nat) b ∧
 at1 h_6 (Array.size h)
 (34 : Nat)
 (Value.int IntKind.i64
 n_5) ∧
 at1 h_6 (Array.size h)
 (35 : Nat)
 (Value.int IntKind.u64
 n_6) ∧
 at1 h_6 (Array.size h)
 (36 : Nat) (slVal s_8) ∧
 atBytes h_6 (Array.size h)
 (37 : Nat) (16 : Nat)
 b_3) ∧
 CallsH Tryz.prog (22 : Nat)
 (TVs.vals
 [TV.agg
 [TV.int IntKind.i64 n,
 TV.int IntKind.i64 n_4,
 TV.bytes (32 : Nat) b,
 TV.int IntKind.i64 n_5,
 TV.int IntKind.u64 n_6,
 TV.slice s_8,
 TV.bytes (16 : Nat) b_3]])
 h_6
 fun (v : Value) (h : Array Obj) ↦
 ∃ (b : Bs (32 : Nat)),
 v =
 TV.val
 (TV.bytes (32 : Nat) b) ∧
 CallsH Tryz.prog (12 : Nat)
 (TVs.vals
 [TV.ptr p,
 TV.bytes (32 : Nat) b])
 h
 fun (v : Value)
 (h : Array Obj) ↦
 ∃ (b : Bool),
 v = TV.val (TV.bool b) ∧
 If b
 (R
 (TV.val
 (TV.bool false))
 h)
 (K
 (s_6.fst,
 IntKind.wrap
 IntKind.i64
 (s_6.snd +
 (1 : Int)))
 h))))
 (R (TV.val (TV.bool true)) h))
 fun (J : Bool → Array Obj → Prop) ↦
 CallsH Tryz.prog (16 : Nat) (TVs.vals [TV.slice s_4, TV.slice s_5]) h
 fun (v : Value) (h : Array Obj) ↦
 ∃ (b : Bool),
 v = TV.val (TV.bool b) ∧
 If (!b) (R (TV.val (TV.bool false)) h)
 (CallsH Tryz.prog (11 : Nat) (TVs.vals [TV.ptr p, TV.int IntKind.i64 now]) h
 fun (v : Value) (h : Array Obj) ↦
 ∃ (s_6 : Sl),
 v = TV.val (TV.slice s_6) ∧
 If (!decide ((↑s_6.len : Int) = (0 : Int))) (R (TV.val (TV.bool false)) h)
 (CallsH Tryz.prog (13 : Nat) (TVs.vals [TV.ptr p]) h
 fun (v : Value) (h : Array Obj) ↦
 ∃ (n : Int),
 v = TV.val (TV.int IntKind.i64 n) ∧
 CallsH Tryz.prog (13 : Nat) (TVs.vals [TV.ptr p_1]) h
 fun (v : Value) (h : Array Obj) ↦
 ∃ (n_1 : Int),
 v = TV.val (TV.int IntKind.i64 n_1) ∧
 If (!decide (n = n_1)) (R (TV.val (TV.bool false)) h) (J s h)))))))
 fun (J : Bool → Array Obj → Prop) ↦
 CallsH Tryz.prog (9 : Nat) (TVs.vals [TV.slice script]) h fun (v : Value) (h : Heap) ↦
 ∃ (b : Bool),
 v = TV.val (TV.bool b) ∧
 If b (R (TV.val (TV.bool true)) h)
 (If (decide ((60 : Int) < (↑script.len : Int))) (R (TV.val (TV.bool true)) h)
 (If (decide ((↑script.len : Int) = (0 : Int))) (R (TV.val (TV.bool true)) h) (J false h))))

theorem tollerlaw17_EarlyRipens_calls (script : Sl) (turn : Int) (now : Int) (h : Heap) (R : Value → Heap → Prop) (H : tollerlaw17_EarlyRipens_vc script turn now h R) : CallsH Tryz.prog 4 (TVs.vals [TV.slice script, TV.int IntKind.i64 turn, TV.int IntKind.i64 now]) h R :=
 vcFn_sound (C := ctx) ctx_ok (fn := Tryz.f4) Tryz.func4 ((by kernel_rfl : tollerlaw17_EarlyRipens_vc script turn now h R = vcFn ctx Tryz.f4 [TV.slice script, TV.int IntKind.i64 turn, TV.int IntKind.i64 now] h R) ▸ H)


end Go.Proofs.YtldocdpdjdekiaaGreat
end

section
/- Twins among marks: two texts of one name. -/
namespace Go.Proofs.YtldocdpdjdekiaaGreat.Pool
open Go Go.Vc
open Board (Dm Ms decF nameF zeroM ms_at put_n mssz mssz1 docgood_spec docbytes_spec docdecode_spec docroot_spec BodyOk bsz bools take_snoc dec_good good_kind)

section
variable {R : Value → Heap → Prop} {h : Heap}

theorem docdecode3_spec {s : List UInt8} (hs : s.length < 1000) (hr : ∀ h' b, Elems 1 h' b (bools (dmOf s).row) → Ext h h' → R (TV.tup [((dmOf s).ms b).tv, .bool (decF s).isSome]).val h') :
    CallsH Tryz.prog 48 (TVs.vals [.str s]) h R := by
  refine docdecode_spec hs (fun hn h' x => ?_) fun d h' b hd e x loc => ?_
  · have := hr h' Sl.nil
    rw [dmOf_none hn, hn] at this
    exact this (Elems.nil_ 1 h') x
  · have := hr h' b
    rw [dmOf_some hd, hd] at this
    exact this e x

theorem dec_name {s : List UInt8} {b : Sl} {u : Bs 32} (hu : u = nameF ((dmOf s).ms Sl.nil) (dmOf s).row) (hs : (decF s).isSome = true) (e : Elems 1 h b (bools (dmOf s).row)) (hr : ∀ h', Ext h h' → R (TV.bytes 32 u).val h') : CallsH Tryz.prog 22 (TVs.vals [((dmOf s).ms b).tv]) h R := by
  obtain ⟨d, hd⟩ := Option.isSome_iff_exists.1 hs
  subst hu
  rw [dmOf_some hd] at e hr ⊢
  exact docroot_spec (m := d.ms b) e (dm_row hd) (good_kind (m := d.ms Sl.nil) (dec_good hd)) (dec_body hd b) fun h' x => hr h' x

set_option maxRecDepth 100000 in
set_option maxHeartbeats 1000000 in
theorem etwins_spec {s : Sl} {l : List Ec} (e : Elems 6 h s (ecs l)) (hcap : s.len ≤ s.cap) (h80 : l.length ≤ 80) (h300 : ∀ c ∈ l, c.text.length ≤ 300)
    (hy : ∀ h', Ext h h' → R (TV.bool true).val h') (hn : ∀ h', Ext h h' → NoTw (l.map Ec.bytes) → R (TV.bool false).val h') : CallsH Tryz.prog 21 (TVs.vals [.slice s]) h R := by
  apply tollerlaw17_twins_calls
  unfold tollerlaw17_twins_vc
  have el := e.len
  rw [List.length_map] at el
  refine ⟨fun σ hh => 0 ≤ σ.2 ∧ σ.2 ≤ l.length ∧ Ext h hh ∧ NoTw ((l.take σ.2.toNat).map Ec.bytes), fun σ _ => ((l.length : Int) - σ.2).toNat, ⟨Int.le_refl 0, by first | omega | (dsimp only; omega), Ext.refl _, fun a ha => by simp at ha⟩, ?_⟩
  rintro ⟨f, i⟩ h1 ⟨i0, i1, x1, nt⟩
  dsimp only at i0 i1 nt ⊢
  refine If.dec.2 ⟨fun hi => ?_, fun hi => ?_⟩
  · refine ec_at (e.ext x1) i0 (by omega) fun p c _ hc => ?_
    have hbl := Ec.bytes_len (h300 c (List.mem_of_getElem? hc))
    refine newTV_in fun h2 v2 x2 s2 => put_n (t0 := Ec.zero.tv) v2 (t := c.tv) rfl rfl fun h3 v3 f3 s3 => v_ec v3 ?_
    have x13 : Ext h1 h3 := Only.cut x2 f3 fun i hi => by omega
    refine etext_spec (c := c) fun h4 x4 => ⟨_, rfl, docdecode3_spec hbl fun h5 b5 e5 x5 => ⟨_, _, _, _, _, _, _, _, rfl, ?_⟩⟩
    refine newTV_in fun h6 v6 x6 s6 => put_n (t0 := zeroM.tv) v6 (t := ((dmOf c.bytes).ms b5).tv) mssz1 mssz fun h7 v7 f7 s7 => ?_
    have x57 : Ext h5 h7 := Only.cut x6 f7 fun i hi => by omega
    have x37 := (x4.trans x5).trans x57
    have v37 := v3.ext x37
    have e57 := e5.ext x57
    refine ⟨i0, by omega, ?_⟩
    have hin : i.toNat ≤ (ecs l).length := by rw [List.length_map]; omega
    have ec7 := cut_prefix (((e.ext x1).ext x13).ext x37) hin
    have etk : (ecs l).take i.toNat = ecs (l.take i.toNat) := by rw [ecs, ecs, List.map_take]
    rw [etk] at ec7
    have hlk := ec7.len
    rw [List.length_map] at hlk
    have hlt : (l.take i.toNat).length = i.toNat := by rw [List.length_take]; omega
    refine ⟨fun σ hh => 0 ≤ σ.2 ∧ σ.2 ≤ i ∧ Ext h7 hh ∧ ∀ b ∈ ((l.take i.toNat).take σ.2.toNat).map Ec.bytes, Dist c.bytes b, fun σ _ => (i - σ.2).toNat, ⟨Int.le_refl 0, by first | omega | (dsimp only; omega), Ext.refl _, fun a ha => by simp at ha⟩, ?_⟩
    rintro ⟨f2, j⟩ h8 ⟨j0, j1, x8, nd⟩
    dsimp only at j0 j1 nd ⊢
    have x018 := ((x1.trans x13).trans x37).trans x8
    refine If.dec.2 ⟨fun hj => ?_, fun hj => ?_⟩
    · have hji : j < i := by omega
      refine ec_at (ec7.ext x8) j0 (by omega) fun p2 c2 _ hc2 => ?_
      have hbl2 := Ec.bytes_len (h300 c2 (List.take_subset _ _ (List.mem_of_getElem? hc2)))
      refine newTV_in fun h9 v9 x9 s9 => put_n (t0 := Ec.zero.tv) v9 (t := c2.tv) rfl rfl fun h10 v10 f10 s10 => v_ec v10 ?_
      have x810 : Ext h8 h10 := Only.cut x9 f10 fun i hi => by omega
      refine etext_spec (c := c2) fun h11 x11 => ⟨_, rfl, docdecode3_spec hbl2 fun h12 b12 e12 x12 => ⟨_, _, _, _, _, _, _, _, rfl, ?_⟩⟩
      refine newTV_in fun h13 v13 x13' s13 => put_n (t0 := zeroM.tv) v13 (t := ((dmOf c2.bytes).ms b12).tv) mssz1 mssz fun h14 v14 f14 s14 => ?_
      have x1214 : Ext h12 h14 := Only.cut x13' f14 fun i hi => by omega
      have x1014 := (x11.trans x12).trans x1214
      have x814 := x810.trans x1014
      have e1214 := e12.ext x1214
      have step : ∀ hh, Ext h14 hh → Dist c.bytes c2.bytes → (0 ≤ IntKind.wrap .i64 (j + 1) ∧ IntKind.wrap .i64 (j + 1) ≤ i ∧ Ext h7 hh ∧ ∀ b ∈ ((l.take i.toNat).take (IntKind.wrap .i64 (j + 1)).toNat).map Ec.bytes, Dist c.bytes b) ∧ (i - IntKind.wrap .i64 (j + 1)).toNat < (i - j).toNat := by
        intro hh xh hd
        rw [wrap_i64 (n := j + 1) (by omega) (by omega)]
        refine ⟨⟨by omega, by omega, (x8.trans x814).trans xh, ?_⟩, by omega⟩
        rw [show (j + 1).toNat = j.toNat + 1 by omega, take_snoc hc2, List.map_append]
        intro b hb
        rcases List.mem_append.1 hb with h1' | h1'
        · exact nd b h1'
        · rw [List.map_singleton, List.mem_singleton] at h1'
          rw [h1']; exact hd
      refine If.split (fun q1 => If.split (fun q2 => ?_) fun q2 => ?_) fun q1 => ?_
      · refine v_ec ((v37.ext x8).ext x814) (v_ec (v10.ext x1014) ?_)
        refine etext_spec (c := c) fun h15 x15 => ⟨_, rfl, x15, etext_spec (c := c2) fun h16 x16 => ⟨_, rfl, ?_⟩⟩
        have x1416 := x15.trans x16
        obtain ⟨u, hu⟩ : ∃ u, u = nameF ((dmOf c.bytes).ms Sl.nil) (dmOf c.bytes).row := ⟨_, rfl⟩
        obtain ⟨u2, hu2⟩ : ∃ u, u = nameF ((dmOf c2.bytes).ms Sl.nil) (dmOf c2.bytes).row := ⟨_, rfl⟩
        refine If.split (fun qt => ?_) fun qt => step h16 x1416 ?_
        · refine ms_at (((v7.ext x8).ext x814).ext x1416) (ms_at (v14.ext x1416) ?_)
          refine dec_name (s := c.bytes) (b := b5) hu q1 (((e57.ext x8).ext x814).ext x1416) fun h17 x17 => ⟨_, rfl, x17, dec_name (s := c2.bytes) (b := b12) hu2 q2 ((e1214.ext x1416).ext x17) fun h18 x18 => ⟨_, rfl, ?_⟩⟩
          have x1418 := (x1416.trans x17).trans x18
          refine If.dec.2 ⟨fun _ => hy h18 (x018.trans (x814.trans x1418)), fun hne => step h18 x1418 ?_⟩
          intro d1 d1' h1' h2' he
          refine absurd ?_ hne
          rw [hu, hu2, dmOf_some h1', dmOf_some h2', he]
        · have : c.bytes = c2.bytes := by simpa using qt
          rw [this]
          exact Dist.refl _
      · refine step h14 (Ext.refl _) fun d1 d2 _ h2' => ?_
        rw [h2'] at q2; cases q2
      · refine step h14 (Ext.refl _) fun d1 d2 h1' _ => ?_
        rw [h1'] at q1; cases q1
    · rw [wrap_i64 (n := i + 1) (by omega) (by omega)]
      refine ⟨⟨by first | omega | (dsimp only; omega), by first | omega | (dsimp only; omega), x018, ?_⟩, by first | omega | (dsimp only; omega)⟩
      try dsimp only
      rw [show (i + 1).toNat = i.toNat + 1 by omega, take_snoc hc, List.map_append, List.map_singleton]
      refine nt.snoc fun b hb => nd b ?_
      rw [List.take_of_length_le (by omega)]
      exact hb
  · rw [List.take_of_length_le (by omega)] at nt
    exact hn h1 x1 nt

end
end Go.Proofs.YtldocdpdjdekiaaGreat.Pool
end

section
/- Messages that came out. -/
namespace Go.Proofs.YtldocdpdjdekiaaGreat.Pool
open Go Go.Vc

theorem snd_of {bs cs : List Bk} {L : List It} (h1 : bs.map Bk.of = L.map (fun x => (x.root, dmOf x.text))) (h2 : cs.map Bk.of = L.map (fun x => (x.root, dmOf x.text))) : bs.map Bk.d = cs.map Bk.d := by
  have := congrArg (List.map Prod.snd) (h1.trans h2.symm)
  rw [List.map_map, List.map_map] at this
  exact this

theorem row_of {bs : List Bk} {L : List It} (h1 : bs.map Bk.of = L.map (fun x => (x.root, dmOf x.text))) : ∀ k ∈ bs, k.d.row.length < 100000 := fun k hk => by
  have h2 : k.of ∈ bs.map Bk.of := List.mem_map_of_mem hk
  rw [h1] at h2
  obtain ⟨x, _, hx⟩ := List.mem_map.1 h2
  injection hx with _ h3
  rw [← h3]
  exact dm_row2 x.text

end Go.Proofs.YtldocdpdjdekiaaGreat.Pool
end

section
/- Two of the program's side by side, and EarlyRipens. -/
namespace Go.Proofs.YtldocdpdjdekiaaGreat.Pool
open Go Go.Vc
open Board (Dm Ms decF nameF zeroM ms_at put_n mssz mssz1 bsz bools take_snoc)

section
variable {h0 h h' : Heap} {o1 b1 o2 b2 : Nat} {A1 A2 A' : Sl} {S1 S2 S' : List It} {t : Sl} {T TO : TypeId} {sz : Nat} {want : Int → Bool} {ts : List TV}

/-- Two of the program's, and a row besides. -/
structure Tw (T : TypeId) (want : Int → Bool) (TO : TypeId) (sz : Nat) (h0 h : Heap) (o1 b1 o2 b2 : Nat) (A1 A2 : Sl) (S1 S2 : List It) (t : Sl) (ts : List TV) : Prop where
  one : One1 T want h0 h o1 b1 A1 S1 64 64
  two : One1 T want h0 h o2 b2 A2 S2 64 64
  dj : ∀ i, Mine b1 A1 i → ¬ Mine b2 A2 i
  n1 : ¬ Mine b1 A1 o2
  n2 : ¬ Mine b2 A2 o1
  own : Own TO sz h t ts
  q1 : ∀ i, In t i → ¬ Mine b1 A1 i
  q2 : ∀ i, In t i → ¬ Mine b2 A2 i

theorem Tw.symm (p : Tw T want TO sz h0 h o1 b1 o2 b2 A1 A2 S1 S2 t ts) : Tw T want TO sz h0 h o2 b2 o1 b1 A2 A1 S2 S1 t ts := ⟨p.two, p.one, fun i h2 h1 => p.dj i h1 h2, p.n2, p.n1, p.own, p.q2, p.q1⟩
theorem Tw.more (p : Tw T want TO sz h0 h o1 b1 o2 b2 A1 A2 S1 S2 t ts) (x : Ext h h') : Tw T want TO sz h0 h' o1 b1 o2 b2 A1 A2 S1 S2 t ts := ⟨p.one.more x, p.two.more x, p.dj, p.n1, p.n2, p.own.ext x, p.q1, p.q2⟩
theorem Tw.step (p : Tw T want TO sz h0 h o1 b1 o2 b2 A1 A2 S1 S2 t ts) (w : WL T h' o1 b1 A' S' 64 64) (g : Grown b1 A1 h A' h') (hl : (S'.length : Int) ≤ 64) (hf : ∀ x ∈ S', Fit want x) : Tw T want TO sz h0 h' o1 b1 o2 b2 A' A2 S' S2 t ts := by
  have m2 : ∀ i, Mine b2 A2 i → i < h.size := fun i hi => p.two.wl.pl.lt hi
  have ho2 := p.two.wl.var.lt
  have mt : ∀ i, In t i → i < h.size := fun i ⟨l, hl, hi⟩ => by have := p.own.lt l hl; omega
  have new : ∀ i, i < h.size → ¬ Mine b1 A1 i → ¬ Mine b1 A' i := fun i hi hn hx => by
    rcases g.new i hx with h1 | h1
    · exact hn h1
    · omega
  refine ⟨p.one.step w g hl hf, ⟨p.two.wl.only g.only p.n1 fun i hi hx => p.dj i hx hi, p.two.low, Only.cut p.two.old g.only fun i hi => p.one.low.2 i hi, p.two.len, p.two.fit, p.two.ok⟩, fun i hi hx => ?_, new _ ho2 p.n1, p.n2, p.own.only g.only fun l hl => p.q1 _ ⟨l, hl, rfl⟩, fun i hi => new i (mt i hi) (p.q1 i hi), p.q2⟩
  rcases g.new i hi with h1 | h1
  · exact p.dj i h1 hx
  · have := m2 i hx; omega

theorem turn_lt {n : Nat} (i by_ : Nat) (hn : 0 < n) : n - 1 - (i + by_) % n < n := by omega
theorem turn_all {n by_ k : Nat} (hk : k < n) (hb : by_ < n) : n - 1 - ((n - 1 - k + (n - by_)) % n + by_) % n = k := by
  have : ((n - 1 - k + (n - by_)) % n + by_) % n = n - 1 - k := by
    rw [Nat.mod_add_mod]
    have e1 : n - 1 - k + (n - by_) + by_ = (n - 1 - k) + n := by omega
    rw [e1, Nat.add_mod_right, Nat.mod_eq_of_lt (by omega)]
  rw [this]
  omega

theorem ec_two {c : Ec} (h : c.kind = 2) : (TV.agg ([.int .i64 c.kind, .int .i64 c.peer, .str c.text, .int .i64 c.n, .int .i64 c.slot, .int .i64 c.who].set 0 (.int .i64 2))) = c.tv := by
  rw [← h]; rfl

theorem bytes40 : (ctx.ti 40).bytes = 56 := by kernel_rfl
theorem size40 : (ctx.ti 40).size = 6 := by kernel_rfl
theorem zsize40 : (ctx.ti 40).z.size = 6 := by kernel_rfl
theorem Ec.plain (c : Ec) : c.tv.plain = true := by simp only [Ec.tv, TV.plain, TVs.plain, Bool.and_self]

theorem root_inj : ∀ {S : List It}, (S.map It.root).Nodup → ∀ {x z : It}, x ∈ S → z ∈ S → z.root = x.root → z = x
  | y :: S, hn, x, z, hx, hz, e => by
    rw [List.map_cons] at hn
    have hn' := List.nodup_cons.1 hn
    rcases List.mem_cons.1 hx with h1 | h1
    · rcases List.mem_cons.1 hz with h2 | h2
      · rw [h1, h2]
      · exact absurd (by rw [← h1, ← e]; exact List.mem_map_of_mem h2) hn'.1
    · rcases List.mem_cons.1 hz with h2 | h2
      · exact absurd (by rw [← h2, e]; exact List.mem_map_of_mem h1) hn'.1
      · exact root_inj hn'.2 h1 h2 e

def Ec.two (c : Ec) : Ec := { c with kind := 2 }

end

section
variable {R : Value → Heap → Prop} {h : Heap}

set_option maxRecDepth 100000 in
set_option maxHeartbeats 4000000 in
theorem EarlyRipens_spec {s : Sl} {l : List Ec} {turn now : Int} (e : Elems 6 h s (ecs l)) (hr : ∀ h', Ext h h' → R (TV.bool true).val h') : CallsH Tryz.prog 4 (TVs.vals [.slice s, .int .i64 turn, .int .i64 now]) h R := by
  apply tollerlaw17_EarlyRipens_calls
  unfold tollerlaw17_EarlyRipens_vc
  have el := e.len
  rw [List.length_map] at el
  refine ealive_spec fun ha xa => ⟨_, rfl, If.no ?_⟩
  intro J HJ
  refine egreat_spec (e.ext xa) (fun h3 x3 => ⟨_, rfl, If.yes (hr h3 (xa.trans x3))⟩) fun hb xb h80 h300 => ⟨_, rfl, If.no ?_⟩
  have x0b := xa.trans xb
  refine If.dec.2 ⟨fun _ => hr hb x0b, fun h60 => If.dec.2 ⟨fun _ => hr hb x0b, fun hne => HJ _ _ ?_⟩⟩
  clear HJ J
  have hn : 0 < l.length ∧ l.length ≤ 60 := by omega
  refine enew_spec (fun hx => absurd (by unfold Ok64; decide) hx) fun hok h1 w1 x1 s1 => ⟨_, rfl, enew_spec (fun hx => absurd (by unfold Ok64; decide) hx) fun _ h2 w2 x2 s2 => ⟨_, rfl, ?_⟩⟩
  have lowN : ∀ n i, Mine n Sl.nil i → i = n := fun n i hi => hi.elim id fun ⟨l, hl, _⟩ => by cases hl
  have x02 := (x0b.trans x1).trans x2
  have eb := e.ext x02
  refine appendN (C := ctx) (T := 40) (sz := 6) (us := ecs l) size40 zsize40 (by rw [bytes40]; decide) (by decide) (by rw [bytes40]; simp only; omega) (Own.new (T := 40) (sz := 6) h2 [] (by simp)) (eb.ext (Ext.push _ _)) (fun u hu => by obtain ⟨c, _, rfl⟩ := List.mem_map.1 hu; rfl) (fun u hu => by obtain ⟨c, _, rfl⟩ := List.mem_map.1 hu; exact c.plain) ?_
  intro t h3 o3 x3' f3 b3
  have x23 : Ext h2 h3 := (Ext.push _ _).trans (x3' rfl)
  have tnew : ∀ i, In t i → h2.size ≤ i := fun i ⟨l, hl, hi⟩ => by
    rcases b3 l hl with ⟨l', h1', h2'⟩ | h1'
    · have : (⟨h2.size, 0⟩ : Vc.Loc) = l' := Option.some.inj h1'
      rw [← this] at h2'
      dsimp only at h2'
      omega
    · rw [Array.size_push] at h1'; omega
  have o3 : Own 40 6 h3 t (ecs l) := o3
  have tl := o3.len
  rw [List.length_map] at tl
  refine ⟨fun i hh => 0 ≤ i ∧ i ≤ l.length ∧ Ext h2 hh ∧ ∃ l' : List Ec, Own 40 6 hh t (ecs l') ∧ l'.length = l.length ∧ (∀ c ∈ l', c.text.length ≤ 300) ∧ ∀ c ∈ l'.take i.toNat, c.kind = 2, fun i _ => ((l.length : Int) - i).toNat, ⟨Int.le_refl 0, by first | omega | (dsimp only; omega), x23, l, o3, rfl, h300, fun c hc => by simp at hc⟩, ?_⟩
  rintro i h4 ⟨i0, i1, x24, l', o4, hl', h300', hk⟩
  refine If.dec.2 ⟨fun hi => ?_, fun hi => ?_⟩
  · obtain ⟨c, hc⟩ : ∃ c, l'[i.toNat]? = some c := ⟨_, List.getElem?_eq_getElem (by omega)⟩
    refine Own.field_in (t0 := c.tv) (t := c.two.tv) (u := .int .i64 2) (d := 0) (n := 1) o4 i0 (by rw [List.getElem?_map, hc]; rfl) rfl (by decide) rfl fun h5 o5 f5 s5 => ?_
    rw [wrap_i64 (n := i + 1) (by omega) (by omega)]
    refine ⟨⟨by first | omega | (dsimp only; omega), by first | omega | (dsimp only; omega), Only.cut x24 f5 tnew, l'.set i.toNat c.two, ?_, by rw [List.length_set]; exact hl', fun c' hc' => ?_, fun c' hc' => ?_⟩, by first | omega | (dsimp only; omega)⟩
    · rw [ecs, List.map_set]; exact o5
    · rcases List.mem_or_eq_of_mem_set hc' with h6 | h6
      · exact h300' c' h6
      · rw [h6]; exact h300' c (List.mem_of_getElem? hc)
    · rw [show (i + 1).toNat = i.toNat + 1 by omega] at hc'
      have hset : (l'.set i.toNat c.two)[i.toNat]? = some c.two := by rw [List.getElem?_set_self (by omega)]
      rw [take_snoc hset] at hc'
      rcases List.mem_append.1 hc' with h6 | h6
      · rw [List.take_set_of_le (Nat.le_refl _)] at h6
        exact hk c' h6
      · rw [List.mem_singleton.1 h6]; rfl
  clear h300
  rw [List.take_of_length_le (by omega)] at hk
  have tl4 := o4.len
  rw [List.length_map] at tl4
  refine etwins_spec o4.elems o4.cap (by omega) h300' (fun h5 x5 => ⟨_, rfl, If.yes (hr h5 ((x02.trans x24).trans x5))⟩) fun h5 x5 nt => ⟨_, rfl, If.no ?_⟩
  have x25 := x24.trans x5
  have lowt : ∀ i, In t i → ¬ Mine hb.size Sl.nil i := fun i hi hx => by have := tnew i hi; have := lowN _ _ hx; have := x1.size; have := x2.size; omega
  have lowt2 : ∀ i, In t i → ¬ Mine h1.size Sl.nil i := fun i hi hx => by have := tnew i hi; have := lowN _ _ hx; have := x2.size; omega
  have tw : Tw 87 wantE 40 6 hb h5 (hb.size + 1) hb.size (h1.size + 1) h1.size Sl.nil Sl.nil [] [] t (ecs l') :=
    ⟨⟨(w1.ext x2).ext x25, ⟨by omega, fun i hi => by rw [lowN _ _ hi]; exact Nat.le_refl _⟩, (x1.trans x2).trans x25, by decide, (fun x hx => by cases hx), hok⟩,
     ⟨w2.ext x25, ⟨by omega, fun i hi => by rw [lowN _ _ hi]; omega⟩, (x1.trans x2).trans x25, by decide, (fun x hx => by cases hx), hok⟩,
     fun i hi hx => by have := lowN _ _ hi; have := lowN _ _ hx; omega, fun hx => by have := lowN _ _ hx; omega, fun hx => by have := lowN _ _ hx; omega, o4.ext x5, lowt, lowt2⟩
  have hwl : IntKind.wrap .u64 (t.len : Int) = t.len := by simp [IntKind.wrap, IntKind.bits, IntKind.signed]; omega
  rw [hwl]
  have hb0 : 0 ≤ IntKind.wrap .u64 turn := by
    simp [IntKind.wrap, IntKind.bits, IntKind.signed]
    omega
  obtain ⟨tn, ht⟩ : ∃ t : Nat, IntKind.wrap .u64 turn = t := ⟨(IntKind.wrap .u64 turn).toNat, by omega⟩
  rw [ht]
  have hby : Int.tmod (tn : Int) (t.len : Int) = ((tn % l'.length : Nat) : Int) := by
    rw [Int.tmod_eq_emod_of_nonneg (by omega), ← tl4]
    rfl
  rw [hby]
  have hbl : tn % l'.length < l'.length := Nat.mod_lt _ (by omega)
  rw [wrap_i64 (n := ((tn % l'.length : Nat) : Int)) (by omega) (by omega)]
  generalize hbyd : tn % l'.length = by_ at hbl
  refine ⟨by omega, ?_⟩
  have x05 := x02.trans x25
  refine ⟨fun i hh => 0 ≤ i ∧ i ≤ l'.length ∧ ∃ A1 A2 S1 S2 T1 T2, Tw 87 wantE 40 6 hb hh (hb.size + 1) hb.size (h1.size + 1) h1.size A1 A2 S1 S2 t (ecs l') ∧ Took wantE T1 S1 ∧ Took wantE T2 S2 ∧ T1.length = i.toNat ∧ T2.length = i.toNat ∧
      (∀ x, x ∈ T1 ↔ ∃ k c, k < i.toNat ∧ l'[k]? = some c ∧ x = c.bytes) ∧ (∀ x, x ∈ T2 ↔ ∃ k c, k < i.toNat ∧ l'[l'.length - 1 - (k + by_) % l'.length]? = some c ∧ x = c.bytes), fun i _ => ((l'.length : Int) - i).toNat,
    ⟨Int.le_refl _, Int.natCast_nonneg _, _, _, _, _, [], [], tw, Took.nil _, Took.nil _, rfl, rfl, fun x => ⟨fun hx => (by cases hx), fun ⟨k, c, hk, _⟩ => absurd hk (Nat.not_lt_zero _)⟩, fun x => ⟨fun hx => (by cases hx), fun ⟨k, c, hk, _⟩ => absurd hk (Nat.not_lt_zero _)⟩⟩, ?_⟩
  rintro i h6 ⟨i0, i1, A1, A2, S1, S2, T1, T2, tw, k1, k2, l1, l2, mem1, mem2⟩
  refine If.dec.2 ⟨fun hi => ?_, fun hi => ?_⟩
  · intro J HJ
    obtain ⟨k, hkk⟩ : ∃ k : Nat, i = k := ⟨i.toNat, by omega⟩
    subst hkk
    have hkt : ((k : Int)).toNat = k := rfl
    rw [hkt] at l1 l2 mem1 mem2
    have hidx : IntKind.wrap .i64 (IntKind.wrap .i64 ((t.len : Int) - 1) - Int.tmod (IntKind.wrap .i64 ((k : Int) + (by_ : Int))) (t.len : Int)) = ((l'.length - 1 - (k + by_) % l'.length : Nat) : Int) := by
      rw [wrap_i64 (n := (t.len : Int) - 1) (by omega) (by omega), wrap_i64 (n := (k : Int) + by_) (by omega) (by omega)]
      have : Int.tmod ((k : Int) + (by_ : Int)) (t.len : Int) = (((k + by_) % l'.length : Nat) : Int) := by
        rw [Int.tmod_eq_emod_of_nonneg (by omega), ← tl4]
        rfl
      rw [this]
      have hm : (k + by_) % l'.length < l'.length := Nat.mod_lt _ (by omega)
      rw [wrap_i64 (by omega) (by omega)]
      omega
    refine ec_at tw.own.elems i0 (by omega) fun p c _ hc => ⟨by omega, ?_⟩
    rw [hidx]
    refine ec_at tw.own.elems (by omega) (by have := turn_lt k by_ (n := l'.length) (by omega); omega) fun p2 c2 _ hc2 => ?_
    rw [show (((l'.length - 1 - (k + by_) % l'.length : Nat) : Int)).toNat = l'.length - 1 - (k + by_) % l'.length from rfl] at hc2
    rw [hkt] at hc
    have m1 := List.mem_of_getElem? hc
    have m2 := List.mem_of_getElem? hc2
    have bl1 := Ec.bytes_len (h300' c m1)
    have bl2 := Ec.bytes_len (h300' c2 m2)
    have low1 : ∀ i, Mine hb.size A1 i → i < h6.size := fun i hi => tw.one.wl.pl.lt hi
    have low2 : ∀ i, Mine h1.size A2 i → i < h6.size := fun i hi => tw.two.wl.pl.lt hi
    have fin : ∀ (hh : Heap) (q1 q2 : Nat) (a : Option Vc.Loc × Option Vc.Loc), a.1 = some ⟨q1, 0⟩ → a.2 = some ⟨q2, 0⟩ → q1 ≠ q2 → Ext h6 hh → Var 40 hh q1 c.tv → Var 40 hh q2 c2.tv → h6.size ≤ q1 → h6.size ≤ q2 → J a hh := by
      intro hh q1 q2 a ha1 ha2 hq xh v1 v2 hq1 hq2
      refine HJ a hh ?_
      dsimp only
      rw [ha1, ha2]
      refine field_in (i := 0) (t := .int .i64 2) (t0 := .int .i64 c.kind) v1 rfl rfl rfl rfl fun h7 v7 f7 s7 => ?_
      rw [ec_two (hk c m1)] at v7
      have f7 : Only (· = q1) hh h7 := f7
      refine field_in (i := 0) (t := .int .i64 2) (t0 := .int .i64 c2.kind) (v2.only f7 (by omega)) rfl rfl rfl rfl fun h8 v8 f8 s8 => ?_
      rw [ec_two (hk c2 m2)] at v8
      have f8 : Only (· = q2) h7 h8 := f8
      have v7 : Var 40 h7 q1 c.tv := v7
      have v8 : Var 40 h8 q2 c2.tv := v8
      have v78 := v7.only f8 hq
      have x68 : Ext h6 h8 := Only.cut (Only.cut xh f7 fun i hi => by omega) f8 fun i hi => by omega
      refine ⟨c.peer, v78.at1 rfl, v_ec v78 ?_⟩
      refine etext_spec (c := c) fun h9 x9 => ⟨_, rfl, x9, ?_⟩
      have t9 := tw.more (x68.trans x9)
      refine eput_spec t9.one.wl hok.1 hok.2.1 t9.one.len bl1 fun h10 A10 w10 g10 => ⟨_, _, rfl, ?_⟩
      have t10 := t9.step w10 g10 (putW_len t9.one.len) (putW_mem bl1 t9.one.fit)
      have v10 : Var 40 h10 q2 c2.tv := (v8.ext x9).only g10.only fun hx => by have := low1 _ hx; omega
      refine ⟨c2.peer, v10.at1 rfl, v_ec v10 ?_⟩
      refine etext_spec (c := c2) fun h11 x11 => ⟨_, rfl, x11, ?_⟩
      have t11 := (t10.more x11).symm
      refine eput_spec t11.one.wl hok.1 hok.2.1 t11.one.len bl2 fun h12 A12 w12 g12 => ⟨_, _, rfl, ?_⟩
      have t12 := (t11.step w12 g12 (putW_len t11.one.len) (putW_mem bl2 t11.one.fit)).symm
      rw [wrap_i64 (n := (k : Int) + 1) (by omega) (by omega)]
      have hk1 : ((k : Int) + 1).toNat = k + 1 := by omega
      refine ⟨⟨by omega, by omega, _, _, _, _, T1 ++ [c.bytes], T2 ++ [c2.bytes], t12, k1.step (by omega) bl1, k2.step (by omega) bl2, by simp [l1, hk1], by simp [l2, hk1], fun x => ?_, fun x => ?_⟩, by first | omega | (dsimp only; omega)⟩
      · rw [List.mem_append, List.mem_singleton, mem1, hk1]
        constructor
        · rintro (⟨k', c', h1, h2, h3⟩ | rfl)
          · exact ⟨k', c', by omega, h2, h3⟩
          · exact ⟨k, c, by omega, hc, rfl⟩
        · rintro ⟨k', c', h1, h2, h3⟩
          by_cases ek : k' = k
          · subst ek
            rw [hc] at h2
            cases h2
            exact .inr h3
          · exact .inl ⟨k', c', by omega, h2, h3⟩
      · rw [List.mem_append, List.mem_singleton, mem2, hk1]
        constructor
        · rintro (⟨k', c', h1, h2, h3⟩ | rfl)
          · exact ⟨k', c', by omega, h2, h3⟩
          · exact ⟨k, c2, by omega, hc2, rfl⟩
        · rintro ⟨k', c', h1, h2, h3⟩
          by_cases ek : k' = k
          · subst ek
            rw [hc2] at h2
            cases h2
            exact .inr h3
          · exact .inl ⟨k', c', by omega, h2, h3⟩
    refine ⟨newTV_in fun h7 v7 x7 s7 => ⟨x7, newTV_in fun h8 v8 x8 s8 => ⟨x7.trans x8, put_n (t0 := Ec.zero.tv) (v7.ext x8) (t := c.tv) rfl rfl fun h9 v9 f9 s9 => ⟨Only.cut (x7.trans x8) f9 fun i hi => by omega, put_n (t0 := Ec.zero.tv) (v8.only f9 (by omega)) (t := c2.tv) rfl rfl fun h10 v10 f10 s10 => ?_⟩⟩⟩,
      newTV_in fun h7 v7 x7 s7 => ⟨x7, newTV_in fun h8 v8 x8 s8 => ⟨x7.trans x8, put_n (t0 := Ec.zero.tv) v8 (t := c.tv) rfl rfl fun h9 v9 f9 s9 => ⟨Only.cut (x7.trans x8) f9 fun i hi => by omega, put_n (t0 := Ec.zero.tv) ((v7.ext x8).only f9 (by omega)) (t := c2.tv) rfl rfl fun h10 v10 f10 s10 => ?_⟩⟩⟩⟩
    · exact fin h10 _ _ _ rfl rfl (by omega) (Only.cut (Only.cut (x7.trans x8) f9 fun i hi => by omega) f10 fun i hi => by omega) (v9.only f10 (by omega)) v10 (by omega) (by omega)
    · exact fin h10 _ _ _ rfl rfl (by omega) (Only.cut (Only.cut (x7.trans x8) f9 fun i hi => by omega) f10 fun i hi => by omega) (v9.only f10 (by omega)) v10 (by omega) (by omega)
  · have hi2 : i.toNat = l'.length := by omega
    rw [hi2] at mem1 mem2
    have hT : ∀ x, x ∈ T1 ↔ x ∈ T2 := by
      intro x
      rw [mem1, mem2]
      constructor
      · rintro ⟨k, c, h1', h2', h3'⟩
        refine ⟨(l'.length - 1 - k + (l'.length - by_)) % l'.length, c, Nat.mod_lt _ (by omega), ?_, h3'⟩
        rw [turn_all h1' hbl]
        exact h2'
      · rintro ⟨k, c, h1', h2', h3'⟩
        exact ⟨_, c, turn_lt k by_ (by omega), h2', h3'⟩
    have nt1 : NoTw T1 := fun a ha b hb => by
      obtain ⟨_, ca, _, hca, rfl⟩ := (mem1 a).1 ha
      obtain ⟨_, cb, _, hcb, rfl⟩ := (mem1 b).1 hb
      exact nt _ (List.mem_map_of_mem (List.mem_of_getElem? hca)) _ (List.mem_map_of_mem (List.mem_of_getElem? hcb))
    have hst := k1.eq k2 hT nt1 tw.one.wl.pl.srt tw.two.wl.pl.srt
    have lenf1 : ∀ (S : List It) (p : It → Bool), (S.length : Int) ≤ 64 → ((S.filter p).length : Int) ≤ 64 := fun S p hS => by have := List.length_filter_le p S; omega
    have few1 := tw.one.wl.pl.few
    refine eripe_spec tw.one.wl tw.one.text fun h7 A7 ta bs w7 g7 hbs o7 out7 => ⟨_, rfl, ?_⟩
    have t7 := (tw.step w7 g7 (lenf1 _ _ tw.one.len) fun x hx => tw.one.fit x (List.mem_filter.1 hx).1).symm
    refine eripe_spec t7.one.wl t7.one.text fun h8 A8 tb cs w8 g8 hcs o8 out8 => ⟨_, rfl, ?_⟩
    have t8 := (t7.step w8 g8 (lenf1 _ _ t7.one.len) fun x hx => t7.one.fit x (List.mem_filter.1 hx).1).symm
    obtain ⟨n7, hn1, hn2, hn3, K7⟩ := out7.ex
    obtain ⟨n8, hm1, hm2, hm3, K8⟩ := out8.ex
    have low2 : ∀ i, Mine h1.size A2 i → i < h6.size := fun i hi => tw.two.wl.pl.lt hi
    have o78 : Own 58 53 h8 ta (bs.map Bk.tvM) := o7.only g8.only fun l hl hx => by have := low2 _ hx; have := hn3 l hl; omega
    have K78 : ∀ k ∈ bs, Elems 1 h8 k.b (bools k.d.row) := fun k hk => (K7 k hk).1.only g8.only fun l hl hx => by have := low2 _ hx; have := ((K7 k hk).2 l hl).1; omega
    have hlow : ∀ x : It, (decide ((strip x).slot < now)) = decide (x.slot < now) := fun x => rfl
    have hfs := filter_strip hst (p := fun x => decide (x.slot < now)) hlow
    have hds : bs.map Bk.d = cs.map Bk.d := by
      have e1 : bs.map Bk.d = (S1.filter fun x => decide (x.slot < now)).map fun x => dmOf x.text := by
        have := congrArg (List.map Prod.snd) hbs
        rw [List.map_map, List.map_map] at this
        exact this
      have e2 : cs.map Bk.d = (S2.filter fun x => decide (x.slot < now)).map fun x => dmOf x.text := by
        have := congrArg (List.map Prod.snd) hcs
        rw [List.map_map, List.map_map] at this
        exact this
      rw [e1, e2]
      exact map_strip hfs (f := fun x => dmOf x.text) fun x => rfl
    have lbs : bs.length = (S1.filter fun x => decide (x.slot < now)).length := by have := congrArg List.length hbs; simpa using this
    have hlf := List.length_filter_le (fun x : It => decide (x.slot < now)) S1
    intro J HJ
    refine mcmp_spec o78.elems K78 o8.elems (fun k hk => (K8 k hk).1) (row_of hbs) (by omega) hds fun h9 x9 => ⟨_, rfl, If.no ?_⟩
    have t9 := t8.more x9
    refine eripe_spec t9.one.wl t9.one.text fun h10 A10 tc es w10 g10 hes o10 out10 => ⟨_, rfl, ?_⟩
    have hff : (S1.filter fun x => !decide (x.slot < now)).filter (fun x => decide (x.slot < now)) = [] := by
      rw [List.filter_filter]
      exact List.filter_eq_nil_iff.2 fun x _ => by simp
    rw [hff] at hes
    have hff2 : (S1.filter fun x => !decide (x.slot < now)).filter (fun x => !decide (x.slot < now)) = S1.filter fun x => !decide (x.slot < now) := by
      rw [List.filter_filter]
      exact List.filter_congr fun x _ => by simp
    rw [hff2] at w10
    have tcl : tc.len = 0 := by
      have a1 := congrArg List.length hes
      have a2 := o10.len
      rw [List.length_map] at a2
      have : es.length = 0 := by simpa using a1
      omega
    rw [tcl]
    have t10 := t9.step w10 g10 (lenf1 _ _ tw.one.len) fun x hx => tw.one.fit x (List.mem_filter.1 hx).1
    refine If.no (elen_spec t10.one.wl ⟨_, rfl, elen_spec t10.two.wl ⟨_, rfl, ?_⟩⟩)
    have hsl : (S1.filter fun x => !decide (x.slot < now)).length = (S2.filter fun x => !decide (x.slot < now)).length := by
      have := congrArg List.length (filter_strip hst (p := fun x => !decide (x.slot < now)) fun x => rfl)
      simpa using this
    refine If.split (fun hbb => by rw [hsl] at hbb; simp at hbb) fun _ => HJ _ _ ?_
    clear HJ J
    obtain ⟨A, hA⟩ : ∃ A, A = A7 := ⟨_, rfl⟩
    have g910 : ∀ i, Mine hb.size A7 i → i < n7 := hn2
    have o710 : Own 58 53 h10 ta (bs.map Bk.tvM) := (o78.ext x9).only g10.only fun l hl hx => by have := g910 _ hx; have := hn3 l hl; omega
    have K710 : ∀ k ∈ bs, Elems 1 h10 k.b (bools k.d.row) := fun k hk => ((K78 k hk).ext x9).only g10.only fun l hl hx => by have := g910 _ hx; have := ((K7 k hk).2 l hl).1; omega
    have lta := o710.len
    rw [List.length_map] at lta
    have hsrt : Srt (S1.filter fun x => decide (x.slot < now)) := List.Pairwise.filter _ tw.one.wl.pl.srt
    refine ⟨fun σ hh => 0 ≤ σ.2 ∧ σ.2 ≤ bs.length ∧ Ext h10 hh, fun σ _ => ((bs.length : Int) - σ.2).toNat, ⟨Int.le_refl 0, by first | omega | (dsimp only; omega), Ext.refl _⟩, ?_⟩
    rintro ⟨f, j⟩ h11 ⟨j0, j1, x11⟩
    dsimp only at j0 j1 ⊢
    have t11 := t10.more x11
    refine If.dec.2 ⟨fun hj => ?_, fun hj => hr h11 (x0b.trans t11.one.old)⟩
    refine (o710.elems.ext x11).read j0 hj fun p1 tt hp1 htt hat => ?_
    rw [List.getElem?_map] at htt
    obtain ⟨y, hy, rfl⟩ := Option.map_eq_some_iff.1 htt
    have item : ∀ (i : Nat) (y : Bk), bs[i]? = some y → ∃ x, (S1.filter fun x => decide (x.slot < now))[i]? = some x ∧ y.d = dmOf x.text ∧ (decF x.text).isSome = true ∧ y.d.slot = x.slot ∧ nameF ((dmOf x.text).ms Sl.nil) (dmOf x.text).row = x.root := by
      intro i y hy
      have h1' : (bs.map Bk.of)[i]? = some y.of := by rw [List.getElem?_map, hy]; rfl
      rw [hbs, List.getElem?_map] at h1'
      obtain ⟨x, hx, hxe⟩ := Option.map_eq_some_iff.1 h1'
      injection hxe with h2' h3'
      obtain ⟨_, d, hd, _, hxi⟩ := tw.one.fit x (List.mem_filter.1 (List.mem_of_getElem? hx)).1
      have hyd : y.d = d := by rw [← dmOf_some hd]; exact h3'.symm
      refine ⟨x, hx, h3'.symm, by rw [hd]; rfl, ?_, ?_⟩
      · rw [hyd, hxi]; rfl
      · rw [dmOf_some hd, hxi]; rfl
    obtain ⟨x, hx, hyd, hsome, hysl, hxr⟩ := item _ y hy
    have hxm := List.mem_filter.1 (List.mem_of_getElem? hx)
    have hxs : x.slot < now := of_decide_eq_true hxm.2
    refine ⟨y.ms.kind, y.ms.slot, y.ms.target, y.ms.member, y.ms.body, y.ms.bits, y.ms.tag, hat, ?_⟩
    refine newTV_in fun h12 v12 x12 s12 => put_n (t0 := zeroM.tv) v12 (t := y.ms.tv) mssz1 mssz fun h13 v13 f13 s13 => ⟨y.ms.slot, v13.at.2.1, ?_⟩
    have x113 : Ext h11 h13 := Only.cut x12 f13 fun i hi => by omega
    have hys : y.ms.slot = x.slot := hysl
    have t13 := t11.more x113
    have last : (∃ (n : Int), ∃ (n_1 : Int), ∃ (b_ : Bs 32), ∃ (n_2 : Int), ∃ (n_3 : Int), ∃ (s : Sl), ∃ (b_1 : Bs 16), (at1 h13 h11.size 0 (.int .i64 n) ∧ at1 h13 h11.size 1 (.int .i64 n_1) ∧ atBytes h13 h11.size 2 32 b_ ∧ at1 h13 h11.size 34 (.int .i64 n_2) ∧ at1 h13 h11.size 35 (.int .u64 n_3) ∧ at1 h13 h11.size 36 (slVal s) ∧ atBytes h13 h11.size 37 16 b_1) ∧
        CallsH Tryz.prog 22 (TVs.vals [TV.agg [.int .i64 n, .int .i64 n_1, .bytes 32 b_, .int .i64 n_2, .int .u64 n_3, .slice s, .bytes 16 b_1]]) h13 fun v h => ∃ (b : Bs 32), v = TV.val (TV.bytes 32 b) ∧ CallsH Tryz.prog 12 (TVs.vals [TV.ptr (some ⟨hb.size + 1, 0⟩), TV.bytes 32 b]) h fun v h => ∃ (b : Bool), v = TV.val (TV.bool b) ∧ If b (R (TV.val (TV.bool false)) h)
          ((0 ≤ IntKind.wrap .i64 (j + 1) ∧ IntKind.wrap .i64 (j + 1) ≤ bs.length ∧ Ext h10 h) ∧ ((bs.length : Int) - IntKind.wrap .i64 (j + 1)).toNat < ((bs.length : Int) - j).toNat)) := by
      refine ms_at v13 ?_
      have ek := ((K710 y (List.mem_of_getElem? hy)).ext x11).ext x113
      have hym : y.ms = (dmOf x.text).ms y.b := by unfold Bk.ms; rw [hyd]
      rw [hyd] at ek
      rw [hym]
      refine dec_name (s := x.text) (b := y.b) (u := x.root) hxr.symm hsome ek fun h14 x14 => ⟨_, rfl, ?_⟩
      refine ehas_spec (t13.more x14).one.wl fun h15 x15 => ⟨_, rfl, ?_⟩
      have hno : has x.root (S1.filter fun x => !decide (x.slot < now)) = false := by
        cases hh : has x.root (S1.filter fun x => !decide (x.slot < now)) with
        | false => rfl
        | true =>
          obtain ⟨z, hz, hzr⟩ := List.any_eq_true.1 hh
          obtain ⟨hz1, hz2⟩ := List.mem_filter.1 hz
          have hzr' : z.root = x.root := of_decide_eq_true hzr
          have hzx : z = x := root_inj tw.one.wl.pl.names hxm.1 hz1 hzr'
          rw [hzx] at hz2
          simp [hxs] at hz2
      rw [hno]
      refine If.no ?_
      rw [wrap_i64 (n := j + 1) (by omega) (by omega)]
      exact ⟨⟨by first | omega | (dsimp only; omega), by first | omega | (dsimp only; omega), ((x11.trans x113).trans x14).trans x15⟩, by first | omega | (dsimp only; omega)⟩
    refine If.dec.2 ⟨fun hb => by omega, fun _ => If.dec.2 ⟨fun hj0 => ?_, fun _ => last⟩⟩
    rw [wrap_i64 (n := j - 1) (by omega) (by omega)]
    refine (o710.elems.ext (x11.trans x113)).read (i := j - 1) (by omega) (by omega) fun p3 t3 hp3 ht3 hat3 => ?_
    rw [List.getElem?_map] at ht3
    obtain ⟨z, hz, rfl⟩ := Option.map_eq_some_iff.1 ht3
    obtain ⟨xz, hxz, _, _, hzsl, _⟩ := item _ z hz
    refine ⟨z.ms.slot, hat3.2.1, y.ms.slot, v13.at.2.1, If.dec.2 ⟨fun hb => ?_, fun _ => last⟩⟩
    have hzs : z.ms.slot = xz.slot := hzsl
    have hlt : xz.slot ≤ x.slot := by
      have hp := List.pairwise_iff_getElem.1 hsrt
      obtain ⟨i1', e1'⟩ := List.getElem?_eq_some_iff.1 hxz
      obtain ⟨i2', e2'⟩ := List.getElem?_eq_some_iff.1 hx
      have := hp (j - 1).toNat j.toNat i1' i2' (by omega)
      rw [e1', e2'] at this
      rcases bf_iff.1 this with h9 | h9 <;> omega
    omega

end
end Go.Proofs.YtldocdpdjdekiaaGreat.Pool
end

section
/- Arrays of bytes that come in. -/
namespace Go.Vc
open Go

def byteOfV : Value → UInt8
  | .int _ n => UInt8.ofNat n.toNat
  | _ => 0

theorem bytes_in {P : Program} {w : World} {r : Reach} {base : Nat} {t e : TypeId} {n : Nat} (ht : P.underlying t = some (.array n e)) (he : P.underlying e = some (.int .u8)) (hc : P.cellsOf t = n)
    (hct : P.cellTypes P.depth t = some (List.replicate n e)) {v : Value} (h : Value.okWide P w r base t v) : ∃ b : Bs n, v = (TV.bytes n b).val := by
  unfold Value.okWide at h
  rw [ht] at h
  simp only at h
  obtain ⟨cs, rfl, hs, ts, hts, _, hcell⟩ := h
  rw [hct] at hts
  obtain rfl := Option.some.inj hts
  have each : ∀ (i : Nat) (v : Value), cs[i]? = some v → v = Value.int .u8 ((byteOfV v).toNat : Int) := fun i v hv => by
    obtain ⟨u, hu, hok⟩ := hcell i v hv
    have : u = e := List.eq_of_mem_replicate (List.mem_of_getElem? hu)
    subst this
    unfold Cell.okWide at hok
    rw [he] at hok
    have hok' : Cell.ok P w r base u v := by
      revert hok
      cases v <;> exact id
    unfold Cell.ok at hok'
    rw [he] at hok'
    cases v <;> simp only at hok'
    case int k m =>
      obtain ⟨rfl, h0, h1⟩ := hok'
      have h0' : 0 ≤ m := h0
      have h1' : m ≤ 255 := h1
      unfold byteOfV
      rw [UInt8.toNat_ofNat']
      congr 1
      omega
  refine ⟨⟨cs.toList.map byteOfV, by simp [hs, hc]⟩, ?_⟩
  simp only [TV.val]
  congr 1
  apply Array.ext_getElem?
  intro i
  simp only [List.map_map, List.getElem?_toArray, List.getElem?_map, Array.getElem?_toList]
  cases hv : cs[i]? with
  | none => rfl
  | some v =>
    simp only [Option.map_some, Function.comp]
    rw [← each i v hv]

end Go.Vc
end

section
/- Scripts that come in. -/
namespace Go.Proofs.YtldocdpdjdekiaaGreat.Pool
open Go Go.Vc

section
variable {H : Type} {enc : TypeId × Value → H} {w : World} {base fuel : Nat} {spare : Nat → Bool} {held : Bool}

/-- A slice whose elements are known one by one. -/
theorem slice_in {α : Type} [Inhabited α] {tv : α → TV} {sz t e : Nat} (ht : Tryz.prog.underlying t = some (.slice e)) (he : Tryz.prog.cellsOf e = sz) (hsz : ∀ x, (tv x).size = sz)
    (hin : ∀ {fuel : Nat} {cs : List Value} {x : DataW H × List MemPlace}, DataW.trod enc Tryz.prog w base spare held fuel e cs = some x → ∃ v : α, cs = (tv v).cells)
    {a : Option Addr} {len cap : Nat} {x : DataW H × List MemPlace} (hs : ∀ x, a = some x → x.spot = none) (h : DataW.trod enc Tryz.prog w base spare held fuel t [.slice a len cap] = some x) :
    ∃ (sl : Sl) (cs : List α), Value.slice a len cap = (TV.slice sl).val ∧ Elems sz w.heap sl (cs.map tv) := by
  rcases Deep.open_slice ht h with ⟨hc, _⟩ | ⟨a', l', c', m, n, D, Pl, hc, _, hl, _, hm, _, hel⟩
  · simp only [List.cons.injEq, Value.slice.injEq, and_true] at hc
    obtain ⟨rfl, rfl, rfl⟩ := hc
    exact ⟨Sl.nil, [], rfl, Elems.nil_ sz _⟩
  · simp only [List.cons.injEq, Value.slice.injEq, and_true] at hc
    obtain ⟨rfl, rfl, rfl⟩ := hc
    have hsp := hs a' rfl
    have hlm : len ≤ m := by rw [hm]; split <;> omega
    have each : ∀ i, i < len → ∃ c : α, (tv c).at w.heap a'.block (a'.off + i * sz) := by
      intro i hi
      obtain ⟨cs', h1, h2⟩ := hel i (by omega)
      rw [he] at h1
      obtain ⟨_, hlen, hcell⟩ := World.cells?_some h1
      obtain ⟨c, rfl⟩ := hin h2
      refine ⟨c, ?_⟩
      rw [TV.at_iff]
      intro j hj
      have hj5 : j < sz := by rw [hsz] at hj; exact hj
      have := hcell j hj5
      rw [Deep.add_add] at this
      have hc2 := cel_of_cell hsp (i := i * sz + j) (v := (tv c).cells[j]'(by rw [TV.cells_length]; exact hj)) (by
        rw [this]
        simp [TV.cells_length, hj])
      rw [List.getElem?_eq_getElem (by rw [TV.cells_length]; exact hj), ← hc2, Nat.add_assoc]
    obtain ⟨f, hf⟩ := Deep.choose_lt each
    refine ⟨⟨some ⟨a'.block, a'.off⟩, len, cap⟩, (List.range len).map f, ?_, ⟨?_, ?_, ?_⟩⟩
    · cases a'
      simp only at hsp
      subst hsp
      rfl
    · simp
    · intro hn; cases hn
    · rintro l ⟨rfl⟩ i t ht
      rw [List.getElem?_map, Option.map_eq_some_iff] at ht
      obtain ⟨c, hc, rfl⟩ := ht
      rw [List.getElem?_map, Option.map_eq_some_iff] at hc
      obtain ⟨k, hk, rfl⟩ := hc
      have hk' := List.getElem?_eq_some_iff.1 hk
      obtain ⟨hi, he⟩ := hk'
      simp only [List.length_range] at hi
      simp only [List.getElem_range] at he
      subst he
      exact hf i hi

set_option maxRecDepth 100000 in
theorem ec_in {cs : List Value} {x : DataW H × List MemPlace} (h : DataW.trod enc Tryz.prog w base spare held fuel 40 cs = some x) : ∃ v : Ec, cs = v.tv.cells := by
  have hd : ∃ f0 f1 f2 f3 f4 f5 : Field, Tryz.prog.underlying 40 = some (.struct #[f0, f1, f2, f3, f4, f5]) ∧ f0.type = 3 ∧ f0.offset = 0 ∧ f1.type = 3 ∧ f1.offset = 1 ∧ f2.type = 9 ∧ f2.offset = 2 ∧ f3.type = 3 ∧ f3.offset = 3 ∧ f4.type = 3 ∧ f4.offset = 4 ∧ f5.type = 3 ∧ f5.offset = 5 := ⟨_, _, _, _, _, _, Tryz.underlying40, rfl, rfl, rfl, rfl, rfl, rfl, rfl, rfl, rfl, rfl, rfl, rfl⟩
  obtain ⟨f0, f1, f2, f3, f4, f5, hu, e0, g0, e1, g1, e2, g2, e3, g3, e4, g4, e5, g5⟩ := hd
  obtain ⟨xs, n, _, rfl, hlen, hl, hf⟩ := DataW.trod_struct hu h
  have c3 : Tryz.prog.cellsOf 3 = 1 := by kernel_rfl
  have c9 : Tryz.prog.cellsOf 9 = 1 := by kernel_rfl
  have cT : Tryz.prog.cellsOf 40 = 6 := by kernel_rfl
  match xs, hl with
  | [y0, y1, y2, y3, y4, y5], _ =>
    have t0 := hf 0 f0 rfl
    rw [e0, g0, c3] at t0
    have t1 := hf 1 f1 rfl
    rw [e1, g1, c3] at t1
    have t2 := hf 2 f2 rfl
    rw [e2, g2, c9] at t2
    have t3 := hf 3 f3 rfl
    rw [e3, g3, c3] at t3
    have t4 := hf 4 f4 rfl
    rw [e4, g4, c3] at t4
    have t5 := hf 5 f5 rfl
    rw [e5, g5, c3] at t5
    obtain ⟨n0, h0, _, w0⟩ := DataW.trod_int Tryz.underlying3 t0
    obtain ⟨n1, h1, _, w1⟩ := DataW.trod_int Tryz.underlying3 t1
    obtain ⟨n2, h2, _, _⟩ := DataW.trod_string Tryz.underlying9 t2
    obtain ⟨n3, h3, _, w3⟩ := DataW.trod_int Tryz.underlying3 t3
    obtain ⟨n4, h4, _, w4⟩ := DataW.trod_int Tryz.underlying3 t4
    obtain ⟨n5, h5, _, w5⟩ := DataW.trod_int Tryz.underlying3 t5
    rw [cT] at hlen
    match cs, hlen with
    | [v0, v1, v2, v3, v4, v5], _ =>
      simp only [List.drop_zero, List.take_succ_cons, List.take_zero, List.drop_succ_cons, List.cons.injEq, and_true] at h0 h1 h2 h3 h4 h5
      subst h0; subst h1; subst h2; subst h3; subst h4; subst h5
      exact ⟨⟨n0, n1, n2.data.toList, n3, n4, n5⟩, by simp [Ec.tv, TV.cells, TVs.cells]⟩

theorem ecs_in {a : Option Addr} {len cap : Nat} {x : DataW H × List MemPlace} (hs : ∀ x, a = some x → x.spot = none) (h : DataW.trod enc Tryz.prog w base spare held fuel 22 [.slice a len cap] = some x) :
    ∃ (sl : Sl) (l : List Ec), Value.slice a len cap = (TV.slice sl).val ∧ Elems 6 w.heap sl (l.map Ec.tv) :=
  slice_in (tv := Ec.tv) Tryz.underlying22 (by kernel_rfl) (fun _ => rfl) (fun h => ec_in h) hs h

end
end Go.Proofs.YtldocdpdjdekiaaGreat.Pool
end
