/- The conditions of functions, as the generator reckons them out, each with the proof that it is that. -/
import Derived.Test.YtjadpjbiiidioaaCtx
namespace Go.Proofs.Ytjadpjbiiidioaa
open Go Go.Vc
set_option maxRecDepth 100000
set_option linter.unusedVariables false

def tollerlaw15_do_vc (p : Option Go.Vc.Loc) (m : Option Go.Vc.Loc) (c_Kind : Int) (c_Slot : Int) (c_N : Int) (c_Peer : Int) (c_Text : List UInt8) (h : Heap) (R : Value → Heap → Prop) : Prop :=
 Vc.Bind (newTV h (TV.agg [TV.int IntKind.i64 c_Kind, TV.int IntKind.i64 c_Slot, TV.int IntKind.i64 c_N, TV.int IntKind.i64 c_Peer, TV.str c_Text]) (36 : Nat))
 fun (h_1 : Array Obj) ↦
 ∃ (n : Int),
 ∃ (n_1 : Int),
 ∃ (n_2 : Int),
 ∃ (n_3 : Int),
 ∃ (s : List UInt8),
 (at1 h_1 (Array.size h) (0 : Nat) (Value.int IntKind.i64 n) ∧
 at1 h_1 (Array.size h) (1 : Nat) (Value.int IntKind.i64 n_1) ∧
 at1 h_1 (Array.size h) (2 : Nat) (Value.int IntKind.i64 n_2) ∧
 at1 h_1 (Array.size h) (3 : Nat) (Value.int IntKind.i64 n_3) ∧
 at1 h_1 (Array.size h) (4 : Nat) (Value.string (ByteArray.mk (List.toArray s)))) ∧
 CallsH Try.prog (14 : Nat)
 (TVs.vals [TV.agg [TV.int IntKind.i64 n, TV.int IntKind.i64 n_1, TV.int IntKind.i64 n_2, TV.int IntKind.i64 n_3, TV.str s]]) h_1
 fun (v : Value) (h_2 : Array Obj) ↦
 ∃ (n_4 : Int),
 ∃ (b : Bs (32 : Nat)),
 ∃ (n_5 : Int),
 ∃ (b_1 : Bs (32 : Nat)),
 ∃ (s_1 : List UInt8),
 v = TV.val (TV.agg [TV.int IntKind.i64 n_4, TV.bytes (32 : Nat) b, TV.int IntKind.i64 n_5, TV.bytes (32 : Nat) b_1, TV.str s_1]) ∧
 Vc.Bind
 (newTV h_2
 (TV.agg
 [TV.int IntKind.i64 (0 : Int), TV.bytes (32 : Nat) (Bs.zero (32 : Nat)), TV.int IntKind.i64 (0 : Int),
 TV.bytes (32 : Nat) (Bs.zero (32 : Nat)), TV.str []])
 (32 : Nat))
 fun (h_3 : Array Obj) ↦
 wok h_3 (Array.size h_2) (0 : Nat) (67 : Nat) ∧
 Vc.Bind
 (TV.put h_3 (Array.size h_2) (0 : Nat)
 (TV.agg [TV.int IntKind.i64 n_4, TV.bytes (32 : Nat) b, TV.int IntKind.i64 n_5, TV.bytes (32 : Nat) b_1, TV.str s_1]))
 fun (h_4 : Array Obj) ↦
 ∃ (n_6 : Int),
 ∃ (b_2 : Bs (32 : Nat)),
 ∃ (n_7 : Int),
 ∃ (b_3 : Bs (32 : Nat)),
 ∃ (s_2 : List UInt8),
 (at1 h_4 (Array.size h_2) (0 : Nat) (Value.int IntKind.i64 n_6) ∧
 atBytes h_4 (Array.size h_2) (1 : Nat) (32 : Nat) b_2 ∧
 at1 h_4 (Array.size h_2) (33 : Nat) (Value.int IntKind.i64 n_7) ∧
 atBytes h_4 (Array.size h_2) (34 : Nat) (32 : Nat) b_3 ∧
 at1 h_4 (Array.size h_2) (66 : Nat) (Value.string (ByteArray.mk (List.toArray s_2)))) ∧
 CallsH Try.prog (16 : Nat)
 (TVs.vals [TV.slice (Sl.mk (some (Loc.mk (Array.size h_4) (0 : Nat))) (1 : Nat) (1 : Nat))])
 (Array.push h_4
 (row
 (TVs.cells
 [TV.agg
 [TV.int IntKind.i64 n_6, TV.bytes (32 : Nat) b_2, TV.int IntKind.i64 n_7, TV.bytes (32 : Nat) b_3,
 TV.str s_2]])
 (32 : Nat)))
 fun (v : Value) (h_5 : Array Obj) ↦
 ∃ (s_3 : Sl),
 v = TV.val (TV.slice s_3) ∧
 (0 : Int) ≤ (0 : Int) ∧
 (0 : Int) < (↑s_3.len : Int) ∧
 Nn s_3.a fun (l : Go.Vc.Loc) ↦
 ∃ (n_8 : Int),
 ∃ (b_4 : Bs (32 : Nat)),
 ∃ (n_9 : Int),
 ∃ (b_5 : Bs (32 : Nat)),
 ∃ (s_4 : List UInt8),
 (at1 h_5 l.b (l.o + Int.toNat (0 : Int) * (67 : Nat)) (Value.int IntKind.i64 n_8) ∧
 atBytes h_5 l.b (l.o + Int.toNat (0 : Int) * (67 : Nat) + (1 : Nat)) (32 : Nat) b_4 ∧
 at1 h_5 l.b (l.o + Int.toNat (0 : Int) * (67 : Nat) + (1 : Nat) + (32 : Nat))
 (Value.int IntKind.i64 n_9) ∧
 atBytes h_5 l.b
 (l.o + Int.toNat (0 : Int) * (67 : Nat) + (1 : Nat) + (32 : Nat) + (1 : Nat))
 (32 : Nat) b_5 ∧
 at1 h_5 l.b
 (l.o + Int.toNat (0 : Int) * (67 : Nat) + (1 : Nat) + (32 : Nat) + (1 : Nat) +
 (32 : Nat))
 (Value.string (ByteArray.mk (List.toArray s_4)))) ∧
 Vc.Bind
 (newTV h_5
 (TV.agg
 [TV.int IntKind.i64 (0 : Int), TV.bytes (32 : Nat) (Bs.zero (32 : Nat)),
 TV.int IntKind.i64 (0 : Int), TV.bytes (32 : Nat) (Bs.zero (32 : Nat)),
 TV.str []])
 (68 : Nat))
 fun (h_6 : Array Obj) ↦
 wok h_6 (Array.size h_5) (0 : Nat) (67 : Nat) ∧
 Vc.Bind
 (TV.put h_6 (Array.size h_5) (0 : Nat)
 (TV.agg
 [TV.int IntKind.i64 n_8, TV.bytes (32 : Nat) b_4, TV.int IntKind.i64 n_9,
 TV.bytes (32 : Nat) b_5, TV.str s_4]))
 fun (h_7 : Array Obj) ↦
 ∃ (n_10 : Int),
 at1 h_7 (Array.size h) (0 : Nat) (Value.int IntKind.i64 n_10) ∧
 If (decide (n_10 = (0 : Int)))
 (∃ (n : Int),
 ∃ (b : Bs (32 : Nat)),
 ∃ (n_11 : Int),
 ∃ (b_6 : Bs (32 : Nat)),
 ∃ (s : List UInt8),
 (at1 h_7 (Array.size h_2) (0 : Nat) (Value.int IntKind.i64 n) ∧
 atBytes h_7 (Array.size h_2) (1 : Nat) (32 : Nat) b ∧
 at1 h_7 (Array.size h_2) (33 : Nat)
 (Value.int IntKind.i64 n_11) ∧
 atBytes h_7 (Array.size h_2) (34 : Nat) (32 : Nat) b_6 ∧
 at1 h_7 (Array.size h_2) (66 : Nat)
 (Value.string (ByteArray.mk (List.toArray s)))) ∧
 CallsH Try.prog (13 : Nat)
 (TVs.vals
 [TV.ptr p,
 TV.agg
 [TV.int IntKind.i64 n, TV.bytes (32 : Nat) b,
 TV.int IntKind.i64 n_11, TV.bytes (32 : Nat) b_6,
 TV.str s]])
 h_7 fun (v : Value) (h : Array Obj) ↦
 ∃ (n : Int),
 ∃ (n_12 : Int),
 ∃ (b : Bs (32 : Nat)),
 ∃ (n_13 : Int),
 ∃ (b_7 : Bs (32 : Nat)),
 ∃ (s : List UInt8),
 v =
 TV.val
 (TV.tup
 [TV.int IntKind.i64 n,
 TV.agg
 [TV.int IntKind.i64 n_12,
 TV.bytes (32 : Nat) b,
 TV.int IntKind.i64 n_13,
 TV.bytes (32 : Nat) b_7, TV.str s]]) ∧
 Vc.Bind
 (newTV h
 (TV.agg
 [TV.int IntKind.i64 (0 : Int),
 TV.bytes (32 : Nat) (Bs.zero (32 : Nat)),
 TV.int IntKind.i64 (0 : Int),
 TV.bytes (32 : Nat) (Bs.zero (32 : Nat)),
 TV.str []])
 (32 : Nat))
 fun (h_8 : Array Obj) ↦
 wok h_8 (Array.size h) (0 : Nat) (67 : Nat) ∧
 Vc.Bind
 (TV.put h_8 (Array.size h) (0 : Nat)
 (TV.agg
 [TV.int IntKind.i64 n_12,
 TV.bytes (32 : Nat) b,
 TV.int IntKind.i64 n_13,
 TV.bytes (32 : Nat) b_7, TV.str s]))
 fun (h_9 : Array Obj) ↦
 ∃ (n_14 : Int),
 ∃ (b : Bs (32 : Nat)),
 ∃ (n_15 : Int),
 ∃ (b_8 : Bs (32 : Nat)),
 ∃ (s : List UInt8),
 (at1 h_9 (Array.size h_5)
 (0 : Nat)
 (Value.int IntKind.i64
 n_14) ∧
 atBytes h_9 (Array.size h_5)
 (1 : Nat) (32 : Nat) b ∧
 at1 h_9 (Array.size h_5)
 (33 : Nat)
 (Value.int IntKind.i64
 n_15) ∧
 atBytes h_9
 (Array.size h_5)
 (34 : Nat) (32 : Nat)
 b_8 ∧
 at1 h_9 (Array.size h_5)
 (66 : Nat)
 (Value.string
 (ByteArray.mk
 (List.toArray
 s)))) ∧
 CallsH Try.prog (42 : Nat)
 (TVs.vals
 [TV.ptr m,
 TV.agg
 [TV.int IntKind.i64
 n_14,
 TV.bytes (32 : Nat) b,
 TV.int IntKind.i64
 n_15,
 TV.bytes (32 : Nat)
 b_8,
 TV.str s]])
 h_9
 fun (v : Value)
 (h_10 : Array Obj) ↦
 ∃ (n_16 : Int),
 ∃ (n_17 : Int),
 ∃ (b : Bs (32 : Nat)),
 ∃ (n_18 : Int),
 ∃ (b_9 :
 Bs (32 : Nat)),
 ∃ (s : List UInt8),
 v =
 TV.val
 (TV.tup
 [TV.int
 IntKind.i64
 n_16,
 TV.agg
 [TV.int
 IntKind.i64
 n_17,
 TV.bytes
 (32 :
 Nat)
 b,
 TV.int
 IntKind.i64
 n_18,
 TV.bytes
 (32 :
 Nat)
 b_9,
 TV.str
 s]]) ∧
 Vc.Bind
 (newTV h_10
 (TV.agg
 [TV.int
 IntKind.i64
 (0 :
 Int),
 TV.bytes
 (32 :
 Nat)
 (Bs.zero
 (32 :
 Nat)),
 TV.int
 IntKind.i64
 (0 :
 Int),
 TV.bytes
 (32 :
 Nat)
 (Bs.zero
 (32 :
 Nat)),
 TV.str
 []])
 (68 : Nat))
 fun
 (h_11 :
 Array
 Obj) ↦
 wok h_11
 (Array.size
 h_10)
 (0 : Nat)
 (67 :
 Nat) ∧
 Vc.Bind
 (TV.put
 h_11
 (Array.size
 h_10)
 (0 :
 Nat)
 (TV.agg
 [TV.int
 IntKind.i64
 n_17,
 TV.bytes
 (32 :
 Nat)
 b,
 TV.int
 IntKind.i64
 n_18,
 TV.bytes
 (32 :
 Nat)
 b_9,
 TV.str
 s]))
 fun
 (h_12 :
 Array
 Obj) ↦
 If
 (decide
 (n =
 n_16))
 (∃ (n :
 Int),
 ∃ (b :
 Bs
 (32 :
 Nat)),
 ∃
 (n_19
 :
 Int),
 ∃
 (b_10
 :
 Bs
 (32 :
 Nat)),
 ∃
 (s
 :
 List
 UInt8),
 (at1
 h_12
 (Array.size
 h)
 (0 :
 Nat)
 (Value.int
 IntKind.i64
 n) ∧
 atBytes
 h_12
 (Array.size
 h)
 (1 :
 Nat)
 (32 :
 Nat)
 b ∧
 at1
 h_12
 (Array.size
 h)
 (33 :
 Nat)
 (Value.int
 IntKind.i64
 n_19) ∧
 atBytes
 h_12
 (Array.size
 h)
 (34 :
 Nat)
 (32 :
 Nat)
 b_10 ∧
 at1
 h_12
 (Array.size
 h)
 (66 :
 Nat)
 (Value.string
 (ByteArray.mk
 (List.toArray
 s)))) ∧
 ∃
 (n_20
 :
 Int),
 ∃
 (b_11
 :
 Bs
 (32 :
 Nat)),
 ∃
 (n_21
 :
 Int),
 ∃
 (b_12
 :
 Bs
 (32 :
 Nat)),
 ∃
 (s_5
 :
 List
 UInt8),
 (at1
 h_12
 (Array.size
 h_10)
 (0 :
 Nat)
 (Value.int
 IntKind.i64
 n_20) ∧
 atBytes
 h_12
 (Array.size
 h_10)
 (1 :
 Nat)
 (32 :
 Nat)
 b_11 ∧
 at1
 h_12
 (Array.size
 h_10)
 (33 :
 Nat)
 (Value.int
 IntKind.i64
 n_21) ∧
 atBytes
 h_12
 (Array.size
 h_10)
 (34 :
 Nat)
 (32 :
 Nat)
 b_12 ∧
 at1
 h_12
 (Array.size
 h_10)
 (66 :
 Nat)
 (Value.string
 (ByteArray.mk
 (List.toArray
 s_5)))) ∧
 Ext
 h_12
 (Array.push
 h_12
 (row
 (TVs.cells
 [TV.agg
 [TV.int
 IntKind.i64
 n,
 TV.bytes
 (32 :
 Nat)
 b,
 TV.int
 IntKind.i64
 n_19,
 TV.bytes
 (32 :
 Nat)
 b_10,
 TV.str
 s]])
 (32 :
 Nat))) ∧
 CallsH
 Try.prog
 (16 :
 Nat)
 (TVs.vals
 [TV.slice
 (Sl.mk
 (some
 (Loc.mk
 (Array.size
 h_12)
 (0 :
 Nat)))
 (1 :
 Nat)
 (1 :
 Nat))])
 (Array.push
 h_12
 (row
 (TVs.cells
 [TV.agg
 [TV.int
 IntKind.i64
 n,
 TV.bytes
 (32 :
 Nat)
 b,
 TV.int
 IntKind.i64
 n_19,
 TV.bytes
 (32 :
 Nat)
 b_10,
 TV.str
 s]])
 (32 :
 Nat)))
 fun
 (v :
 Value)
 (h :
 Array
 Obj) ↦
 ∃
 (s_6
 :
 Sl),
 v =
 TV.val
 (TV.slice
 s_6) ∧
 Ext
 (Array.push
 h_12
 (row
 (TVs.cells
 [TV.agg
 [TV.int
 IntKind.i64
 n,
 TV.bytes
 (32 :
 Nat)
 b,
 TV.int
 IntKind.i64
 n_19,
 TV.bytes
 (32 :
 Nat)
 b_10,
 TV.str
 s]])
 (32 :
 Nat)))
 h ∧
 (0 :
 Int) ≤
 (0 :
 Int) ∧
 (0 :
 Int) <
 (↑s_6.len :
 Int) ∧
 Nn
 s_6.a
 fun
 (l :
 Go.Vc.Loc) ↦
 ∃
 (n
 :
 Int),
 ∃
 (b
 :
 Bs
 (32 :
 Nat)),
 ∃
 (n_22
 :
 Int),
 ∃
 (b_13
 :
 Bs
 (32 :
 Nat)),
 ∃
 (s
 :
 List
 UInt8),
 (at1
 h
 l.b
 (l.o +
 Int.toNat
 (0 :
 Int) *
 (67 :
 Nat))
 (Value.int
 IntKind.i64
 n) ∧
 atBytes
 h
 l.b
 (l.o +
 Int.toNat
 (0 :
 Int) *
 (67 :
 Nat) +
 (1 :
 Nat))
 (32 :
 Nat)
 b ∧
 at1
 h
 l.b
 (l.o +
 Int.toNat
 (0 :
 Int) *
 (67 :
 Nat) +
 (1 :
 Nat) +
 (32 :
 Nat))
 (Value.int
 IntKind.i64
 n_22) ∧
 atBytes
 h
 l.b
 (l.o +
 Int.toNat
 (0 :
 Int) *
 (67 :
 Nat) +
 (1 :
 Nat) +
 (32 :
 Nat) +
 (1 :
 Nat))
 (32 :
 Nat)
 b_13 ∧
 at1
 h
 l.b
 (l.o +
 Int.toNat
 (0 :
 Int) *
 (67 :
 Nat) +
 (1 :
 Nat) +
 (32 :
 Nat) +
 (1 :
 Nat) +
 (32 :
 Nat))
 (Value.string
 (ByteArray.mk
 (List.toArray
 s)))) ∧
 Ext
 h
 h ∧
 R
 (TV.val
 (TV.bool
 (decide
 (n =
 n_20) &&
 (decide
 (b.l =
 b_11.l) &&
 (decide
 (n_22 =
 n_21) &&
 (decide
 (b_13.l =
 b_12.l) &&
 (decide
 (s =
 s_5) &&
 true)))))))
 h)
 (R
 (TV.val
 (TV.bool
 false))
 h_12))
 (CallsH Try.prog (22 : Nat)
 (TVs.vals
 [TV.ptr p,
 TV.fn (Fn.func (43 : Nat)) []
 [TV.ptr (some (Loc.mk (Array.size h) (0 : Nat)))]])
 h_7 fun (v : Value) (h_8 : Array Obj) ↦
 ∃ (s_5 : Sl),
 v = TV.val (TV.slice s_5) ∧
 Nn m fun (l_1 : Go.Vc.Loc) ↦
 ∃ (s_6 : Sl),
 at1 h_8 l_1.b l_1.o (slVal s_6) ∧
 Go.Vc.Loop
 (Sl.mk none (0 : Nat) (0 : Nat), Sl.mk none (0 : Nat) (0 : Nat),
 (0 : Int))
 h_8
 fun (s_7 : Sl × Sl × Int) (h_9 : Array Obj)
 (K : Sl × Sl × Int → Array Obj → Prop) ↦
 If (decide (s_7.snd.snd < (↑s_6.len : Int)))
 ((0 : Int) ≤ s_7.snd.snd ∧
 s_7.snd.snd < (↑s_6.len : Int) ∧
 Nn s_6.a fun (l_2 : Go.Vc.Loc) ↦
 ∃ (n_11 : Int),
 ∃ (b_6 : Bs (32 : Nat)),
 ∃ (n_12 : Int),
 ∃ (b_7 : Bs (32 : Nat)),
 ∃ (s_8 : List UInt8),
 (at1 h_9 l_2.b
 (l_2.o +
 Int.toNat s_7.snd.snd * (67 : Nat))
 (Value.int IntKind.i64 n_11) ∧
 atBytes h_9 l_2.b
 (l_2.o +
 Int.toNat s_7.snd.snd *
 (67 : Nat) +
 (1 : Nat))
 (32 : Nat) b_6 ∧
 at1 h_9 l_2.b
 (l_2.o +
 Int.toNat s_7.snd.snd *
 (67 : Nat) +
 (1 : Nat) +
 (32 : Nat))
 (Value.int IntKind.i64 n_12) ∧
 atBytes h_9 l_2.b
 (l_2.o +
 Int.toNat s_7.snd.snd *
 (67 : Nat) +
 (1 : Nat) +
 (32 : Nat) +
 (1 : Nat))
 (32 : Nat) b_7 ∧
 at1 h_9 l_2.b
 (l_2.o +
 Int.toNat s_7.snd.snd *
 (67 : Nat) +
 (1 : Nat) +
 (32 : Nat) +
 (1 : Nat) +
 (32 : Nat))
 (Value.string
 (ByteArray.mk
 (List.toArray s_8)))) ∧
 Vc.Bind
 (newTV h_9
 (TV.agg
 [TV.int IntKind.i64 (0 : Int),
 TV.bytes (32 : Nat)
 (Bs.zero (32 : Nat)),
 TV.int IntKind.i64 (0 : Int),
 TV.bytes (32 : Nat)
 (Bs.zero (32 : Nat)),
 TV.str []])
 (68 : Nat))
 fun (h_10 : Array Obj) ↦
 wok h_10 (Array.size h_9) (0 : Nat)
 (67 : Nat) ∧
 Vc.Bind
 (TV.put h_10 (Array.size h_9)
 (0 : Nat)
 (TV.agg
 [TV.int IntKind.i64 n_11,
 TV.bytes (32 : Nat) b_6,
 TV.int IntKind.i64 n_12,
 TV.bytes (32 : Nat) b_7,
 TV.str s_8]))
 fun (h_11 : Array Obj) ↦
 ∃ (n_13 : Int),
 at1 h_11 (Array.size h_9) (0 : Nat)
 (Value.int IntKind.i64 n_13) ∧
 ∃ (n_14 : Int),
 at1 h_11 (Array.size h)
 (1 : Nat)
 (Value.int IntKind.i64
 n_14) ∧
 If (decide (n_13 < n_14))
 (∃ (n_15 : Int),
 ∃ (b_8 : Bs (32 : Nat)),
 ∃ (n_16 : Int),
 ∃ (b_9 :
 Bs (32 : Nat)),
 ∃ (s_9 :
 List UInt8),
 (at1 h_11
 (Array.size
 h_9)
 (0 : Nat)
 (Value.int
 IntKind.i64
 n_15) ∧
 atBytes h_11
 (Array.size
 h_9)
 (1 : Nat)
 (32 : Nat)
 b_8 ∧
 at1 h_11
 (Array.size
 h_9)
 (33 :
 Nat)
 (Value.int
 IntKind.i64
 n_16) ∧
 atBytes
 h_11
 (Array.size
 h_9)
 (34 :
 Nat)
 (32 :
 Nat)
 b_9 ∧
 at1 h_11
 (Array.size
 h_9)
 (66 :
 Nat)
 (Value.string
 (ByteArray.mk
 (List.toArray
 s_9)))) ∧
 ∃ (new :
 List Value),
 slAt
 (Array.push
 h_11
 (row
 (TVs.cells
 [TV.agg
 [TV.int
 IntKind.i64
 n_15,
 TV.bytes
 (32 :
 Nat)
 b_8,
 TV.int
 IntKind.i64
 n_16,
 TV.bytes
 (32 :
 Nat)
 b_9,
 TV.str
 s_9]])
 (68 :
 Nat)))
 (Sl.mk
 (some
 (Loc.mk
 (Array.size
 h_11)
 (0 :
 Nat)))
 (1 :
 Nat)
 (1 :
 Nat))
 (67 : Nat)
 new ∧
 (∀
 (v :
 Value),
 v ∈
 new →
 isOne
 v =
 true) ∧
 vcAppend
 Ytjadpjbiiidioaa.ctx
 (68 :
 Nat)
 s_7.fst
 (1 :
 Nat)
 new
 (Array.push
 h_11
 (row
 (TVs.cells
 [TV.agg
 [TV.int
 IntKind.i64
 n_15,
 TV.bytes
 (32 :
 Nat)
 b_8,
 TV.int
 IntKind.i64
 n_16,
 TV.bytes
 (32 :
 Nat)
 b_9,
 TV.str
 s_9]])
 (68 :
 Nat)))
 fun
 (s_10 :
 Sl)
 (h_12 :
 Array
 Obj) ↦
 K
 (s_10,
 s_7.snd.fst,
 IntKind.wrap
 IntKind.i64
 (s_7.snd.snd +
 (1 :
 Int)))
 h_12)
 (∃ (n_15 : Int),
 ∃ (b_8 : Bs (32 : Nat)),
 ∃ (n_16 : Int),
 ∃ (b_9 :
 Bs (32 : Nat)),
 ∃ (s_9 :
 List UInt8),
 (at1 h_11
 (Array.size
 h_9)
 (0 : Nat)
 (Value.int
 IntKind.i64
 n_15) ∧
 atBytes h_11
 (Array.size
 h_9)
 (1 : Nat)
 (32 : Nat)
 b_8 ∧
 at1 h_11
 (Array.size
 h_9)
 (33 :
 Nat)
 (Value.int
 IntKind.i64
 n_16) ∧
 atBytes
 h_11
 (Array.size
 h_9)
 (34 :
 Nat)
 (32 :
 Nat)
 b_9 ∧
 at1 h_11
 (Array.size
 h_9)
 (66 :
 Nat)
 (Value.string
 (ByteArray.mk
 (List.toArray
 s_9)))) ∧
 ∃ (new :
 List Value),
 slAt
 (Array.push
 h_11
 (row
 (TVs.cells
 [TV.agg
 [TV.int
 IntKind.i64
 n_15,
 TV.bytes
 (32 :
 Nat)
 b_8,
 TV.int
 IntKind.i64
 n_16,
 TV.bytes
 (32 :
 Nat)
 b_9,
 TV.str
 s_9]])
 (68 :
 Nat)))
 (Sl.mk
 (some
 (Loc.mk
 (Array.size
 h_11)
 (0 :
 Nat)))
 (1 :
 Nat)
 (1 :
 Nat))
 (67 : Nat)
 new ∧
 (∀
 (v :
 Value),
 v ∈
 new →
 isOne
 v =
 true) ∧
 vcAppend
 Ytjadpjbiiidioaa.ctx
 (68 :
 Nat)
 s_7.snd.fst
 (1 :
 Nat)
 new
 (Array.push
 h_11
 (row
 (TVs.cells
 [TV.agg
 [TV.int
 IntKind.i64
 n_15,
 TV.bytes
 (32 :
 Nat)
 b_8,
 TV.int
 IntKind.i64
 n_16,
 TV.bytes
 (32 :
 Nat)
 b_9,
 TV.str
 s_9]])
 (68 :
 Nat)))
 fun
 (s_10 :
 Sl)
 (h_12 :
 Array
 Obj) ↦
 K
 (s_7.fst,
 s_10,
 IntKind.wrap
 IntKind.i64
 (s_7.snd.snd +
 (1 :
 Int)))
 h_12))
 (Nn m fun (l_2 : Go.Vc.Loc) ↦
 wok h_9 l_2.b l_2.o (1 : Nat) ∧
 Vc.Bind (TV.put h_9 l_2.b l_2.o (TV.slice s_7.snd.fst))
 fun (h_10 : Array Obj) ↦
 CallsH Try.prog (16 : Nat) (TVs.vals [TV.slice s_5])
 h_10 fun (v : Value) (h_11 : Array Obj) ↦
 ∃ (s_8 : Sl),
 v = TV.val (TV.slice s_8) ∧
 CallsH Try.prog (15 : Nat)
 (TVs.vals [TV.slice s_8, TV.slice s_7.fst]) h_11
 fun (v : Value) (h : Array Obj) ↦
 ∃ (b : Bool),
 v = TV.val (TV.bool b) ∧
 R (TV.val (TV.bool b)) h))

theorem tollerlaw15_do_calls (p : Option Go.Vc.Loc) (m : Option Go.Vc.Loc) (c_Kind : Int) (c_Slot : Int) (c_N : Int) (c_Peer : Int) (c_Text : List UInt8) (h : Heap) (R : Value → Heap → Prop) (H : tollerlaw15_do_vc p m c_Kind c_Slot c_N c_Peer c_Text h R) : CallsH Try.prog 25 (TVs.vals [TV.ptr p, TV.ptr m, TV.agg [TV.int IntKind.i64 c_Kind, TV.int IntKind.i64 c_Slot, TV.int IntKind.i64 c_N, TV.int IntKind.i64 c_Peer, TV.str c_Text]]) h R :=
 vcFn_sound (C := ctx) ctx_ok (fn := Try.f25) Try.func25 ((by kernel_rfl : tollerlaw15_do_vc p m c_Kind c_Slot c_N c_Peer c_Text h R = vcFn ctx Try.f25 [TV.ptr p, TV.ptr m, TV.agg [TV.int IntKind.i64 c_Kind, TV.int IntKind.i64 c_Slot, TV.int IntKind.i64 c_N, TV.int IntKind.i64 c_Peer, TV.str c_Text]] h R) ▸ H)


def tollerlaw15_PoolDoes_vc (most : Int) (quota : Int) (script : Sl) (h : Heap) (R : Value → Heap → Prop) : Prop :=
 CallsH Try.prog (10 : Nat) (TVs.vals []) h fun (v : Value) (h : Heap) ↦
 ∃ (b : Bool),
 v = TV.val (TV.bool b) ∧
 If (!b) (R (TV.val (TV.bool false)) h)
 (CallsH Try.prog (11 : Nat) (TVs.vals [TV.slice script]) h fun (v : Value) (h : Heap) ↦
 ∃ (b_1 : Bool),
 v = TV.val (TV.bool b_1) ∧
 If b_1 (R (TV.val (TV.bool true)) h)
 (CallsH Try.prog (13 : Nat)
 (TVs.vals
 [TV.ptr none,
 TV.agg
 [TV.int IntKind.i64 (0 : Int), TV.bytes (32 : Nat) (Bs.zero (32 : Nat)), TV.int IntKind.i64 (0 : Int),
 TV.bytes (32 : Nat) (Bs.zero (32 : Nat)), TV.str []]])
 h fun (v : Value) (h : Heap) ↦
 ∃ (n : Int),
 ∃ (n_1 : Int),
 ∃ (b_2 : Bs (32 : Nat)),
 ∃ (n_2 : Int),
 ∃ (b_3 : Bs (32 : Nat)),
 ∃ (s : List UInt8),
 v =
 TV.val
 (TV.tup
 [TV.int IntKind.i64 n,
 TV.agg [TV.int IntKind.i64 n_1, TV.bytes (32 : Nat) b_2, TV.int IntKind.i64 n_2, TV.bytes (32 : Nat) b_3, TV.str s]]) ∧
 Vc.Bind
 (newTV h
 (TV.agg
 [TV.int IntKind.i64 (0 : Int), TV.bytes (32 : Nat) (Bs.zero (32 : Nat)), TV.int IntKind.i64 (0 : Int),
 TV.bytes (32 : Nat) (Bs.zero (32 : Nat)), TV.str []])
 (32 : Nat))
 fun (h_1 : Array Obj) ↦
 wok h_1 (Array.size h) (0 : Nat) (67 : Nat) ∧
 Vc.Bind
 (TV.put h_1 (Array.size h) (0 : Nat)
 (TV.agg [TV.int IntKind.i64 n_1, TV.bytes (32 : Nat) b_2, TV.int IntKind.i64 n_2, TV.bytes (32 : Nat) b_3, TV.str s]))
 fun (h_2 : Array Obj) ↦
 Join
 (fun (s_1 : Bool × Bool × Bool) (h_3 : Array Obj) ↦
 CallsH Try.prog (12 : Nat) (TVs.vals [TV.int IntKind.i64 most, TV.int IntKind.i64 quota]) h_3
 fun (v : Value) (h_4 : Array Obj) ↦
 ∃ (p : Option Go.Vc.Loc),
 v = TV.val (TV.ptr p) ∧
 CallsH Try.prog (24 : Nat) (TVs.vals [TV.int IntKind.i64 most, TV.int IntKind.i64 quota]) h_4
 fun (v : Value) (h_5 : Array Obj) ↦
 ∃ (p_1 : Option Go.Vc.Loc),
 ∃ (b_4 : Bool),
 v = TV.val (TV.tup [TV.ptr p_1, TV.bool b_4]) ∧
 Join
 (fun (s : Bool) (h : Array Obj) ↦
 Go.Vc.Loop (s, (0 : Int)) h
 fun (s_2 : Bool × Int) (h : Array Obj) (K : Bool × Int → Array Obj → Prop) ↦
 If (decide (s_2.snd < (↑script.len : Int)))
 ((0 : Int) ≤ s_2.snd ∧
 s_2.snd < (↑script.len : Int) ∧
 Nn script.a fun (l : Go.Vc.Loc) ↦
 ∃ (n : Int),
 ∃ (n_3 : Int),
 ∃ (n_4 : Int),
 ∃ (n_5 : Int),
 ∃ (s_3 : List UInt8),
 (at1 h l.b (l.o + Int.toNat s_2.snd * (5 : Nat)) (Value.int IntKind.i64 n) ∧
 at1 h l.b (l.o + Int.toNat s_2.snd * (5 : Nat) + (1 : Nat))
 (Value.int IntKind.i64 n_3) ∧
 at1 h l.b (l.o + Int.toNat s_2.snd * (5 : Nat) + (1 : Nat) + (1 : Nat))
 (Value.int IntKind.i64 n_4) ∧
 at1 h l.b
 (l.o + Int.toNat s_2.snd * (5 : Nat) + (1 : Nat) + (1 : Nat) +
 (1 : Nat))
 (Value.int IntKind.i64 n_5) ∧
 at1 h l.b
 (l.o + Int.toNat s_2.snd * (5 : Nat) + (1 : Nat) + (1 : Nat) +
 (1 : Nat) +
 (1 : Nat))
 (Value.string (ByteArray.mk (List.toArray s_3)))) ∧
 Vc.Bind
 (newTV h
 (TV.agg
 [TV.int IntKind.i64 (0 : Int), TV.int IntKind.i64 (0 : Int),
 TV.int IntKind.i64 (0 : Int), TV.int IntKind.i64 (0 : Int),
 TV.str []])
 (36 : Nat))
 fun (h_6 : Array Obj) ↦
 wok h_6 (Array.size h) (0 : Nat) (5 : Nat) ∧
 Vc.Bind
 (TV.put h_6 (Array.size h) (0 : Nat)
 (TV.agg
 [TV.int IntKind.i64 n, TV.int IntKind.i64 n_3,
 TV.int IntKind.i64 n_4, TV.int IntKind.i64 n_5, TV.str s_3]))
 fun (h_7 : Array Obj) ↦
 ∃ (n : Int),
 ∃ (n_6 : Int),
 ∃ (n_7 : Int),
 ∃ (n_8 : Int),
 ∃ (s_4 : List UInt8),
 (at1 h_7 (Array.size h) (0 : Nat) (Value.int IntKind.i64 n) ∧
 at1 h_7 (Array.size h) (1 : Nat)
 (Value.int IntKind.i64 n_6) ∧
 at1 h_7 (Array.size h) (2 : Nat)
 (Value.int IntKind.i64 n_7) ∧
 at1 h_7 (Array.size h) (3 : Nat)
 (Value.int IntKind.i64 n_8) ∧
 at1 h_7 (Array.size h) (4 : Nat)
 (Value.string
 (ByteArray.mk (List.toArray s_4)))) ∧
 CallsH Try.prog (25 : Nat)
 (TVs.vals
 [TV.ptr p, TV.ptr p_1,
 TV.agg
 [TV.int IntKind.i64 n, TV.int IntKind.i64 n_6,
 TV.int IntKind.i64 n_7, TV.int IntKind.i64 n_8,
 TV.str s_4]])
 h_7 fun (v : Value) (h_8 : Array Obj) ↦
 ∃ (b : Bool),
 v = TV.val (TV.bool b) ∧
 If (!b) (R (TV.val (TV.bool false)) h_8)
 (Nn p_1 fun (l : Go.Vc.Loc) ↦
 ∃ (s_5 : Sl),
 at1 h_8 l.b l.o (slVal s_5) ∧
 CallsH Try.prog (17 : Nat)
 (TVs.vals [TV.ptr p]) h_8
 fun (v : Value) (h_9 : Array Obj) ↦
 ∃ (s_6 : Sl),
 v = TV.val (TV.slice s_6) ∧
 Ext h_8 h_9 ∧
 CallsH Try.prog (16 : Nat)
 (TVs.vals [TV.slice s_6]) h_9
 fun (v : Value) (h_10 : Array Obj) ↦
 ∃ (s_7 : Sl),
 v = TV.val (TV.slice s_7) ∧
 Ext h_9 h_10 ∧
 CallsH Try.prog (15 : Nat)
 (TVs.vals
 [TV.slice s_7,
 TV.slice s_5])
 h_10
 fun (v : Value)
 (h_11 : Array Obj) ↦
 ∃ (b : Bool),
 v = TV.val (TV.bool b) ∧
 If (!b)
 (R
 (TV.val
 (TV.bool false))
 h_11)
 (Nn p_1
 fun (l : Go.Vc.Loc) ↦
 ∃ (s_8 : Sl),
 at1 h_11 l.b l.o
 (slVal s_8) ∧
 CallsH Try.prog
 (21 : Nat)
 (TVs.vals
 [TV.ptr p])
 h_11
 fun
 (v : Value)
 (h_12 :
 Array
 Obj) ↦
 ∃ (n : Int),
 v =
 TV.val
 (TV.int
 IntKind.i64
 n) ∧
 Ext h_11
 h_12 ∧
 If
 (!decide
 (n =
 (↑s_8.len :
 Int)))
 (R
 (TV.val
 (TV.bool
 false))
 h_12)
 (∃ (n
 :
 Int),
 at1
 h_12
 (Array.size
 h)
 (3 :
 Nat)
 (Value.int
 IntKind.i64
 n) ∧
 ∃
 (n_9
 :
 Int),
 at1
 h_12
 (Array.size
 h)
 (3 :
 Nat)
 (Value.int
 IntKind.i64
 n_9) ∧
 CallsH
 Try.prog
 (20 :
 Nat)
 (TVs.vals
 [TV.ptr
 p,
 TV.int
 IntKind.i64
 n])
 h_12
 fun
 (v :
 Value)
 (h_13 :
 Array
 Obj) ↦
 ∃
 (n
 :
 Int),
 v =
 TV.val
 (TV.int
 IntKind.i64
 n) ∧
 Ext
 h_12
 h_13 ∧
 CallsH
 Try.prog
 (26 :
 Nat)
 (TVs.vals
 [TV.ptr
 p_1,
 TV.int
 IntKind.i64
 n_9])
 h_13
 fun
 (v :
 Value)
 (h_14 :
 Array
 Obj) ↦
 ∃
 (n_10
 :
 Int),
 v =
 TV.val
 (TV.int
 IntKind.i64
 n_10) ∧
 If
 (!decide
 (n =
 n_10))
 (R
 (TV.val
 (TV.bool
 false))
 h_14)
 (∃
 (n
 :
 Int),
 at1
 h_14
 (Array.size
 h)
 (2 :
 Nat)
 (Value.int
 IntKind.i64
 n) ∧
 ∃
 (n_11
 :
 Int),
 at1
 h_14
 (Array.size
 h)
 (2 :
 Nat)
 (Value.int
 IntKind.i64
 n_11) ∧
 CallsH
 Try.prog
 (27 :
 Nat)
 (TVs.vals
 [TV.int
 IntKind.i64
 n])
 h_14
 fun
 (v :
 Value)
 (h :
 Array
 Obj) ↦
 ∃
 (b
 :
 Bs
 (32 :
 Nat)),
 v =
 TV.val
 (TV.bytes
 (32 :
 Nat)
 b) ∧
 Ext
 h_14
 h ∧
 CallsH
 Try.prog
 (18 :
 Nat)
 (TVs.vals
 [TV.ptr
 p,
 TV.bytes
 (32 :
 Nat)
 b])
 h
 fun
 (v :
 Value)
 (h_15 :
 Array
 Obj) ↦
 ∃
 (b
 :
 Bool),
 v =
 TV.val
 (TV.bool
 b) ∧
 Ext
 h
 h_15 ∧
 CallsH
 Try.prog
 (27 :
 Nat)
 (TVs.vals
 [TV.int
 IntKind.i64
 n_11])
 h_15
 fun
 (v :
 Value)
 (h :
 Array
 Obj) ↦
 ∃
 (b_5
 :
 Bs
 (32 :
 Nat)),
 v =
 TV.val
 (TV.bytes
 (32 :
 Nat)
 b_5) ∧
 CallsH
 Try.prog
 (28 :
 Nat)
 (TVs.vals
 [TV.ptr
 p_1,
 TV.bytes
 (32 :
 Nat)
 b_5])
 h
 fun
 (v :
 Value)
 (h :
 Array
 Obj) ↦
 ∃
 (b_6
 :
 Bool),
 v =
 TV.val
 (TV.bool
 b_6) ∧
 If
 (!b ==
 b_6)
 (R
 (TV.val
 (TV.bool
 false))
 h)
 (K
 (s_2.fst,
 IntKind.wrap
 IntKind.i64
 (s_2.snd +
 (1 :
 Int)))
 h))))))
 (R (TV.val (TV.bool true)) h))
 fun (J : Bool → Array Obj → Prop) ↦
 If (!b_4) (If (!b_4) (R (TV.val (TV.bool (Option.isNone p))) h_5) (R (TV.val (TV.bool false)) h_5))
 (If (Option.isNone p)
 (If (!b_4) (R (TV.val (TV.bool (Option.isNone p))) h_5) (R (TV.val (TV.bool false)) h_5))
 (J s_1.fst h_5)))
 fun (J : Bool × Bool × Bool → Array Obj → Prop) ↦
 If (!decide (n = (12 : Int))) (R (TV.val (TV.bool false)) h_2)
 (CallsH Try.prog (21 : Nat) (TVs.vals [TV.ptr none]) h_2 fun (v : Value) (h : Array Obj) ↦
 ∃ (n_3 : Int),
 v = TV.val (TV.int IntKind.i64 n_3) ∧
 If (!decide (n_3 = (0 : Int))) (R (TV.val (TV.bool false)) h)
 (CallsH Try.prog (20 : Nat) (TVs.vals [TV.ptr none, TV.int IntKind.i64 (0 : Int)]) h
 fun (v : Value) (h : Array Obj) ↦
 ∃ (n_4 : Int),
 v = TV.val (TV.int IntKind.i64 n_4) ∧
 If (!decide (n_4 = (0 : Int))) (R (TV.val (TV.bool false)) h)
 (CallsH Try.prog (18 : Nat) (TVs.vals [TV.ptr none, TV.bytes (32 : Nat) (Bs.zero (32 : Nat))]) h
 fun (v : Value) (h : Array Obj) ↦
 ∃ (b : Bool),
 v = TV.val (TV.bool b) ∧
 If b (R (TV.val (TV.bool false)) h)
 (CallsH Try.prog (17 : Nat) (TVs.vals [TV.ptr none]) h fun (v : Value) (h : Array Obj) ↦
 ∃ (s : Sl),
 v = TV.val (TV.slice s) ∧
 If (!decide ((↑s.len : Int) = (0 : Int))) (R (TV.val (TV.bool false)) h)
 (CallsH Try.prog (22 : Nat) (TVs.vals [TV.ptr none, TV.fn (Fn.func (23 : Nat)) [] []])
 h fun (v : Value) (h : Array Obj) ↦
 ∃ (s : Sl),
 v = TV.val (TV.slice s) ∧
 If (!decide ((↑s.len : Int) = (0 : Int))) (R (TV.val (TV.bool false)) h)
 (J (false, !decide (n = (12 : Int)), false) h))))))))

theorem tollerlaw15_PoolDoes_calls (most : Int) (quota : Int) (script : Sl) (h : Heap) (R : Value → Heap → Prop) (H : tollerlaw15_PoolDoes_vc most quota script h R) : CallsH Try.prog 7 (TVs.vals [TV.int IntKind.i64 most, TV.int IntKind.i64 quota, TV.slice script]) h R :=
 vcFn_sound (C := ctx) ctx_ok (fn := Try.f7) Try.func7 ((by kernel_rfl : tollerlaw15_PoolDoes_vc most quota script h R = vcFn ctx Try.f7 [TV.int IntKind.i64 most, TV.int IntKind.i64 quota, TV.slice script] h R) ▸ H)


end Go.Proofs.Ytjadpjbiiidioaa
