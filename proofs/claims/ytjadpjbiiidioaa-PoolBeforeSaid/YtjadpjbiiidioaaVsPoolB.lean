/- The conditions of functions, as the generator reckons them out, each with the proof that it is that. -/
import Derived.Test.YtjadpjbiiidioaaCtx
namespace Go.Proofs.Ytjadpjbiiidioaa
open Go Go.Vc
set_option maxRecDepth 100000
set_option linter.unusedVariables false

def tollerlaw15_PoolBefore_vc (a_Kind : Int) (a_Slot : Int) (a_N : Int) (a_Peer : Int) (a_Text : List UInt8) (b_Kind : Int) (b_Slot : Int) (b_N : Int) (b_Peer : Int) (b_Text : List UInt8) (c_Kind : Int) (c_Slot : Int) (c_N : Int) (c_Peer : Int) (c_Text : List UInt8) (h : Heap) (R : Value → Heap → Prop) : Prop :=
 Vc.Bind (newTV h (TV.agg [TV.int IntKind.i64 a_Kind, TV.int IntKind.i64 a_Slot, TV.int IntKind.i64 a_N, TV.int IntKind.i64 a_Peer, TV.str a_Text]) (36 : Nat))
 fun (h_1 : Array Obj) ↦
 Vc.Bind
 (newTV h_1 (TV.agg [TV.int IntKind.i64 b_Kind, TV.int IntKind.i64 b_Slot, TV.int IntKind.i64 b_N, TV.int IntKind.i64 b_Peer, TV.str b_Text]) (36 : Nat))
 fun (h_2 : Array Obj) ↦
 Vc.Bind
 (newTV h_2 (TV.agg [TV.int IntKind.i64 c_Kind, TV.int IntKind.i64 c_Slot, TV.int IntKind.i64 c_N, TV.int IntKind.i64 c_Peer, TV.str c_Text]) (36 : Nat))
 fun (h_3 : Array Obj) ↦
 CallsH Try.prog (10 : Nat) (TVs.vals []) h_3 fun (v : Value) (h_4 : Array Obj) ↦
 ∃ (b : Bool),
 v = TV.val (TV.bool b) ∧
 If (!b) (R (TV.val (TV.bool false)) h_4)
 (Join
 (fun (s : Option Go.Vc.Loc × Option Go.Vc.Loc × Option Go.Vc.Loc) (h_5 : Array Obj) ↦
 Join
 (fun (s_1 : Bool) (h_6 : Array Obj) ↦
 Join
 (fun (s_2 : Bool) (h_7 : Array Obj) ↦
 Nn s.fst fun (l : Go.Vc.Loc) ↦
 ∃ (n : Int),
 ∃ (b_1 : Bs (32 : Nat)),
 ∃ (n_1 : Int),
 ∃ (b_2 : Bs (32 : Nat)),
 ∃ (s_3 : List UInt8),
 (at1 h_7 l.b l.o (Value.int IntKind.i64 n) ∧
 atBytes h_7 l.b (l.o + (1 : Nat)) (32 : Nat) b_1 ∧
 at1 h_7 l.b (l.o + (1 : Nat) + (32 : Nat)) (Value.int IntKind.i64 n_1) ∧
 atBytes h_7 l.b (l.o + (1 : Nat) + (32 : Nat) + (1 : Nat)) (32 : Nat) b_2 ∧
 at1 h_7 l.b (l.o + (1 : Nat) + (32 : Nat) + (1 : Nat) + (32 : Nat))
 (Value.string (ByteArray.mk (List.toArray s_3)))) ∧
 Nn s.snd.fst fun (l : Go.Vc.Loc) ↦
 ∃ (n_2 : Int),
 ∃ (b_3 : Bs (32 : Nat)),
 ∃ (n_3 : Int),
 ∃ (b_4 : Bs (32 : Nat)),
 ∃ (s_4 : List UInt8),
 (at1 h_7 l.b l.o (Value.int IntKind.i64 n_2) ∧
 atBytes h_7 l.b (l.o + (1 : Nat)) (32 : Nat) b_3 ∧
 at1 h_7 l.b (l.o + (1 : Nat) + (32 : Nat)) (Value.int IntKind.i64 n_3) ∧
 atBytes h_7 l.b (l.o + (1 : Nat) + (32 : Nat) + (1 : Nat)) (32 : Nat) b_4 ∧
 at1 h_7 l.b (l.o + (1 : Nat) + (32 : Nat) + (1 : Nat) + (32 : Nat))
 (Value.string (ByteArray.mk (List.toArray s_4)))) ∧
 CallsH Try.prog (19 : Nat)
 (TVs.vals
 [TV.agg
 [TV.int IntKind.i64 n, TV.bytes (32 : Nat) b_1, TV.int IntKind.i64 n_1, TV.bytes (32 : Nat) b_2,
 TV.str s_3],
 TV.agg
 [TV.int IntKind.i64 n_2, TV.bytes (32 : Nat) b_3, TV.int IntKind.i64 n_3, TV.bytes (32 : Nat) b_4,
 TV.str s_4]])
 h_7 fun (v : Value) (h_8 : Array Obj) ↦
 ∃ (b_5 : Bool),
 v = TV.val (TV.bool b_5) ∧
 If (!b_5) (R (TV.val (TV.bool true)) h_8)
 (Nn s.snd.fst fun (l : Go.Vc.Loc) ↦
 ∃ (n : Int),
 ∃ (b_6 : Bs (32 : Nat)),
 ∃ (n_4 : Int),
 ∃ (b_7 : Bs (32 : Nat)),
 ∃ (s_5 : List UInt8),
 (at1 h_8 l.b l.o (Value.int IntKind.i64 n) ∧
 atBytes h_8 l.b (l.o + (1 : Nat)) (32 : Nat) b_6 ∧
 at1 h_8 l.b (l.o + (1 : Nat) + (32 : Nat)) (Value.int IntKind.i64 n_4) ∧
 atBytes h_8 l.b (l.o + (1 : Nat) + (32 : Nat) + (1 : Nat)) (32 : Nat) b_7 ∧
 at1 h_8 l.b (l.o + (1 : Nat) + (32 : Nat) + (1 : Nat) + (32 : Nat))
 (Value.string (ByteArray.mk (List.toArray s_5)))) ∧
 Nn s.snd.snd fun (l : Go.Vc.Loc) ↦
 ∃ (n_5 : Int),
 ∃ (b_8 : Bs (32 : Nat)),
 ∃ (n_6 : Int),
 ∃ (b_9 : Bs (32 : Nat)),
 ∃ (s_6 : List UInt8),
 (at1 h_8 l.b l.o (Value.int IntKind.i64 n_5) ∧
 atBytes h_8 l.b (l.o + (1 : Nat)) (32 : Nat) b_8 ∧
 at1 h_8 l.b (l.o + (1 : Nat) + (32 : Nat))
 (Value.int IntKind.i64 n_6) ∧
 atBytes h_8 l.b (l.o + (1 : Nat) + (32 : Nat) + (1 : Nat))
 (32 : Nat) b_9 ∧
 at1 h_8 l.b
 (l.o + (1 : Nat) + (32 : Nat) + (1 : Nat) + (32 : Nat))
 (Value.string (ByteArray.mk (List.toArray s_6)))) ∧
 CallsH Try.prog (19 : Nat)
 (TVs.vals
 [TV.agg
 [TV.int IntKind.i64 n, TV.bytes (32 : Nat) b_6,
 TV.int IntKind.i64 n_4, TV.bytes (32 : Nat) b_7,
 TV.str s_5],
 TV.agg
 [TV.int IntKind.i64 n_5, TV.bytes (32 : Nat) b_8,
 TV.int IntKind.i64 n_6, TV.bytes (32 : Nat) b_9,
 TV.str s_6]])
 h_8 fun (v : Value) (h_9 : Array Obj) ↦
 ∃ (b_10 : Bool),
 v = TV.val (TV.bool b_10) ∧
 If (!b_10) (R (TV.val (TV.bool true)) h_9)
 (Nn s.fst fun (l : Go.Vc.Loc) ↦
 ∃ (n : Int),
 ∃ (b_11 : Bs (32 : Nat)),
 ∃ (n_7 : Int),
 ∃ (b_12 : Bs (32 : Nat)),
 ∃ (s_7 : List UInt8),
 (at1 h_9 l.b l.o (Value.int IntKind.i64 n) ∧
 atBytes h_9 l.b (l.o + (1 : Nat)) (32 : Nat)
 b_11 ∧
 at1 h_9 l.b (l.o + (1 : Nat) + (32 : Nat))
 (Value.int IntKind.i64 n_7) ∧
 atBytes h_9 l.b
 (l.o + (1 : Nat) + (32 : Nat) +
 (1 : Nat))
 (32 : Nat) b_12 ∧
 at1 h_9 l.b
 (l.o + (1 : Nat) + (32 : Nat) +
 (1 : Nat) +
 (32 : Nat))
 (Value.string
 (ByteArray.mk
 (List.toArray s_7)))) ∧
 Nn s.snd.snd fun (l : Go.Vc.Loc) ↦
 ∃ (n_8 : Int),
 ∃ (b : Bs (32 : Nat)),
 ∃ (n_9 : Int),
 ∃ (b_13 : Bs (32 : Nat)),
 ∃ (s : List UInt8),
 (at1 h_9 l.b l.o
 (Value.int IntKind.i64 n_8) ∧
 atBytes h_9 l.b
 (l.o + (1 : Nat)) (32 : Nat)
 b ∧
 at1 h_9 l.b
 (l.o + (1 : Nat) +
 (32 : Nat))
 (Value.int IntKind.i64
 n_9) ∧
 atBytes h_9 l.b
 (l.o + (1 : Nat) +
 (32 : Nat) +
 (1 : Nat))
 (32 : Nat) b_13 ∧
 at1 h_9 l.b
 (l.o + (1 : Nat) +
 (32 : Nat) +
 (1 : Nat) +
 (32 : Nat))
 (Value.string
 (ByteArray.mk
 (List.toArray
 s)))) ∧
 CallsH Try.prog (19 : Nat)
 (TVs.vals
 [TV.agg
 [TV.int IntKind.i64 n,
 TV.bytes (32 : Nat)
 b_11,
 TV.int IntKind.i64 n_7,
 TV.bytes (32 : Nat)
 b_12,
 TV.str s_7],
 TV.agg
 [TV.int IntKind.i64 n_8,
 TV.bytes (32 : Nat) b,
 TV.int IntKind.i64 n_9,
 TV.bytes (32 : Nat)
 b_13,
 TV.str s]])
 h_9
 fun (v : Value)
 (h : Array Obj) ↦
 ∃ (b : Bool),
 v = TV.val (TV.bool b) ∧
 R (TV.val (TV.bool b)) h)))
 fun (J : Bool → Array Obj → Prop) ↦
 Nn s.fst fun (l : Go.Vc.Loc) ↦
 ∃ (n : Int),
 ∃ (b_1 : Bs (32 : Nat)),
 ∃ (n_1 : Int),
 ∃ (b_2 : Bs (32 : Nat)),
 ∃ (s_2 : List UInt8),
 (at1 h_6 l.b l.o (Value.int IntKind.i64 n) ∧
 atBytes h_6 l.b (l.o + (1 : Nat)) (32 : Nat) b_1 ∧
 at1 h_6 l.b (l.o + (1 : Nat) + (32 : Nat)) (Value.int IntKind.i64 n_1) ∧
 atBytes h_6 l.b (l.o + (1 : Nat) + (32 : Nat) + (1 : Nat)) (32 : Nat) b_2 ∧
 at1 h_6 l.b (l.o + (1 : Nat) + (32 : Nat) + (1 : Nat) + (32 : Nat))
 (Value.string (ByteArray.mk (List.toArray s_2)))) ∧
 Nn s.snd.fst fun (l : Go.Vc.Loc) ↦
 ∃ (n_2 : Int),
 ∃ (b_3 : Bs (32 : Nat)),
 ∃ (n_3 : Int),
 ∃ (b_4 : Bs (32 : Nat)),
 ∃ (s_3 : List UInt8),
 (at1 h_6 l.b l.o (Value.int IntKind.i64 n_2) ∧
 atBytes h_6 l.b (l.o + (1 : Nat)) (32 : Nat) b_3 ∧
 at1 h_6 l.b (l.o + (1 : Nat) + (32 : Nat)) (Value.int IntKind.i64 n_3) ∧
 atBytes h_6 l.b (l.o + (1 : Nat) + (32 : Nat) + (1 : Nat)) (32 : Nat) b_4 ∧
 at1 h_6 l.b (l.o + (1 : Nat) + (32 : Nat) + (1 : Nat) + (32 : Nat))
 (Value.string (ByteArray.mk (List.toArray s_3)))) ∧
 CallsH Try.prog (19 : Nat)
 (TVs.vals
 [TV.agg
 [TV.int IntKind.i64 n, TV.bytes (32 : Nat) b_1, TV.int IntKind.i64 n_1, TV.bytes (32 : Nat) b_2,
 TV.str s_2],
 TV.agg
 [TV.int IntKind.i64 n_2, TV.bytes (32 : Nat) b_3, TV.int IntKind.i64 n_3, TV.bytes (32 : Nat) b_4,
 TV.str s_3]])
 h_6 fun (v : Value) (h_7 : Array Obj) ↦
 ∃ (b_5 : Bool),
 v = TV.val (TV.bool b_5) ∧
 If b_5
 (Nn s.snd.fst fun (l : Go.Vc.Loc) ↦
 ∃ (n : Int),
 ∃ (b_6 : Bs (32 : Nat)),
 ∃ (n_4 : Int),
 ∃ (b_7 : Bs (32 : Nat)),
 ∃ (s_4 : List UInt8),
 (at1 h_7 l.b l.o (Value.int IntKind.i64 n) ∧
 atBytes h_7 l.b (l.o + (1 : Nat)) (32 : Nat) b_6 ∧
 at1 h_7 l.b (l.o + (1 : Nat) + (32 : Nat)) (Value.int IntKind.i64 n_4) ∧
 atBytes h_7 l.b (l.o + (1 : Nat) + (32 : Nat) + (1 : Nat)) (32 : Nat) b_7 ∧
 at1 h_7 l.b (l.o + (1 : Nat) + (32 : Nat) + (1 : Nat) + (32 : Nat))
 (Value.string (ByteArray.mk (List.toArray s_4)))) ∧
 Nn s.fst fun (l : Go.Vc.Loc) ↦
 ∃ (n_5 : Int),
 ∃ (b_8 : Bs (32 : Nat)),
 ∃ (n_6 : Int),
 ∃ (b_9 : Bs (32 : Nat)),
 ∃ (s_5 : List UInt8),
 (at1 h_7 l.b l.o (Value.int IntKind.i64 n_5) ∧
 atBytes h_7 l.b (l.o + (1 : Nat)) (32 : Nat) b_8 ∧
 at1 h_7 l.b (l.o + (1 : Nat) + (32 : Nat))
 (Value.int IntKind.i64 n_6) ∧
 atBytes h_7 l.b (l.o + (1 : Nat) + (32 : Nat) + (1 : Nat))
 (32 : Nat) b_9 ∧
 at1 h_7 l.b
 (l.o + (1 : Nat) + (32 : Nat) + (1 : Nat) + (32 : Nat))
 (Value.string (ByteArray.mk (List.toArray s_5)))) ∧
 CallsH Try.prog (19 : Nat)
 (TVs.vals
 [TV.agg
 [TV.int IntKind.i64 n, TV.bytes (32 : Nat) b_6,
 TV.int IntKind.i64 n_4, TV.bytes (32 : Nat) b_7, TV.str s_4],
 TV.agg
 [TV.int IntKind.i64 n_5, TV.bytes (32 : Nat) b_8,
 TV.int IntKind.i64 n_6, TV.bytes (32 : Nat) b_9, TV.str s_5]])
 h_7 fun (v : Value) (h_8 : Array Obj) ↦
 ∃ (b_10 : Bool),
 v = TV.val (TV.bool b_10) ∧
 If b_10 (R (TV.val (TV.bool false)) h_8)
 (Nn s.fst fun (l : Go.Vc.Loc) ↦
 ∃ (n : Int),
 ∃ (b_11 : Bs (32 : Nat)),
 ∃ (n_7 : Int),
 ∃ (b_12 : Bs (32 : Nat)),
 ∃ (s_6 : List UInt8),
 (at1 h_8 l.b l.o (Value.int IntKind.i64 n) ∧
 atBytes h_8 l.b (l.o + (1 : Nat)) (32 : Nat)
 b_11 ∧
 at1 h_8 l.b (l.o + (1 : Nat) + (32 : Nat))
 (Value.int IntKind.i64 n_7) ∧
 atBytes h_8 l.b
 (l.o + (1 : Nat) + (32 : Nat) +
 (1 : Nat))
 (32 : Nat) b_12 ∧
 at1 h_8 l.b
 (l.o + (1 : Nat) + (32 : Nat) +
 (1 : Nat) +
 (32 : Nat))
 (Value.string
 (ByteArray.mk (List.toArray s_6)))) ∧
 Nn s.snd.fst fun (l : Go.Vc.Loc) ↦
 ∃ (n_8 : Int),
 ∃ (b_13 : Bs (32 : Nat)),
 ∃ (n_9 : Int),
 ∃ (b_14 : Bs (32 : Nat)),
 ∃ (s_7 : List UInt8),
 (at1 h_8 l.b l.o
 (Value.int IntKind.i64 n_8) ∧
 atBytes h_8 l.b (l.o + (1 : Nat))
 (32 : Nat) b_13 ∧
 at1 h_8 l.b
 (l.o + (1 : Nat) +
 (32 : Nat))
 (Value.int IntKind.i64
 n_9) ∧
 atBytes h_8 l.b
 (l.o + (1 : Nat) +
 (32 : Nat) +
 (1 : Nat))
 (32 : Nat) b_14 ∧
 at1 h_8 l.b
 (l.o + (1 : Nat) +
 (32 : Nat) +
 (1 : Nat) +
 (32 : Nat))
 (Value.string
 (ByteArray.mk
 (List.toArray
 s_7)))) ∧
 CallsH Try.prog (19 : Nat)
 (TVs.vals
 [TV.agg
 [TV.int IntKind.i64 n,
 TV.bytes (32 : Nat) b_11,
 TV.int IntKind.i64 n_7,
 TV.bytes (32 : Nat) b_12,
 TV.str s_6],
 TV.agg
 [TV.int IntKind.i64 n_8,
 TV.bytes (32 : Nat) b_13,
 TV.int IntKind.i64 n_9,
 TV.bytes (32 : Nat) b_14,
 TV.str s_7]])
 h_8
 fun (v : Value)
 (h_9 : Array Obj) ↦
 ∃ (b_15 : Bool),
 v = TV.val (TV.bool b_15) ∧
 If b_15
 (If (true == s_1)
 (R
 (TV.val (TV.bool false))
 h_9)
 (J false h_9))
 (Nn s.snd.fst
 fun (l : Go.Vc.Loc) ↦
 ∃ (n : Int),
 ∃ (b_16 :
 Bs (32 : Nat)),
 ∃ (n_10 : Int),
 ∃ (b_17 :
 Bs (32 : Nat)),
 ∃ (s_8 :
 List UInt8),
 (at1 h_9 l.b l.o
 (Value.int
 IntKind.i64
 n) ∧
 atBytes h_9
 l.b
 (l.o +
 (1 :
 Nat))
 (32 :
 Nat)
 b_16 ∧
 at1 h_9
 l.b
 (l.o +
 (1 :
 Nat) +
 (32 :
 Nat))
 (Value.int
 IntKind.i64
 n_10) ∧
 atBytes
 h_9
 l.b
 (l.o +
 (1 :
 Nat) +
 (32 :
 Nat) +
 (1 :
 Nat))
 (32 :
 Nat)
 b_17 ∧
 at1
 h_9
 l.b
 (l.o +
 (1 :
 Nat) +
 (32 :
 Nat) +
 (1 :
 Nat) +
 (32 :
 Nat))
 (Value.string
 (ByteArray.mk
 (List.toArray
 s_8)))) ∧
 Nn s.fst
 fun
 (l :
 Go.Vc.Loc) ↦
 ∃ (n_11 :
 Int),
 ∃ (b :
 Bs
 (32 :
 Nat)),
 ∃ (n_12
 :
 Int),
 ∃
 (b_18
 :
 Bs
 (32 :
 Nat)),
 ∃ (s
 :
 List
 UInt8),
 (at1
 h_9
 l.b
 l.o
 (Value.int
 IntKind.i64
 n_11) ∧
 atBytes
 h_9
 l.b
 (l.o +
 (1 :
 Nat))
 (32 :
 Nat)
 b ∧
 at1
 h_9
 l.b
 (l.o +
 (1 :
 Nat) +
 (32 :
 Nat))
 (Value.int
 IntKind.i64
 n_12) ∧
 atBytes
 h_9
 l.b
 (l.o +
 (1 :
 Nat) +
 (32 :
 Nat) +
 (1 :
 Nat))
 (32 :
 Nat)
 b_18 ∧
 at1
 h_9
 l.b
 (l.o +
 (1 :
 Nat) +
 (32 :
 Nat) +
 (1 :
 Nat) +
 (32 :
 Nat))
 (Value.string
 (ByteArray.mk
 (List.toArray
 s)))) ∧
 CallsH
 Try.prog
 (19 :
 Nat)
 (TVs.vals
 [TV.agg
 [TV.int
 IntKind.i64
 n,
 TV.bytes
 (32 :
 Nat)
 b_16,
 TV.int
 IntKind.i64
 n_10,
 TV.bytes
 (32 :
 Nat)
 b_17,
 TV.str
 s_8],
 TV.agg
 [TV.int
 IntKind.i64
 n_11,
 TV.bytes
 (32 :
 Nat)
 b,
 TV.int
 IntKind.i64
 n_12,
 TV.bytes
 (32 :
 Nat)
 b_18,
 TV.str
 s]])
 h_9
 fun
 (v :
 Value)
 (h :
 Array
 Obj) ↦
 ∃
 (b
 :
 Bool),
 v =
 TV.val
 (TV.bool
 b) ∧
 If
 (b ==
 s_1)
 (R
 (TV.val
 (TV.bool
 false))
 h)
 (J
 false
 h))))
 (Nn s.fst fun (l : Go.Vc.Loc) ↦
 ∃ (n : Int),
 ∃ (b_6 : Bs (32 : Nat)),
 ∃ (n_4 : Int),
 ∃ (b_7 : Bs (32 : Nat)),
 ∃ (s_4 : List UInt8),
 (at1 h_7 l.b l.o (Value.int IntKind.i64 n) ∧
 atBytes h_7 l.b (l.o + (1 : Nat)) (32 : Nat) b_6 ∧
 at1 h_7 l.b (l.o + (1 : Nat) + (32 : Nat)) (Value.int IntKind.i64 n_4) ∧
 atBytes h_7 l.b (l.o + (1 : Nat) + (32 : Nat) + (1 : Nat)) (32 : Nat) b_7 ∧
 at1 h_7 l.b (l.o + (1 : Nat) + (32 : Nat) + (1 : Nat) + (32 : Nat))
 (Value.string (ByteArray.mk (List.toArray s_4)))) ∧
 Nn s.snd.fst fun (l : Go.Vc.Loc) ↦
 ∃ (n_5 : Int),
 ∃ (b_8 : Bs (32 : Nat)),
 ∃ (n_6 : Int),
 ∃ (b_9 : Bs (32 : Nat)),
 ∃ (s_5 : List UInt8),
 (at1 h_7 l.b l.o (Value.int IntKind.i64 n_5) ∧
 atBytes h_7 l.b (l.o + (1 : Nat)) (32 : Nat) b_8 ∧
 at1 h_7 l.b (l.o + (1 : Nat) + (32 : Nat))
 (Value.int IntKind.i64 n_6) ∧
 atBytes h_7 l.b (l.o + (1 : Nat) + (32 : Nat) + (1 : Nat))
 (32 : Nat) b_9 ∧
 at1 h_7 l.b
 (l.o + (1 : Nat) + (32 : Nat) + (1 : Nat) + (32 : Nat))
 (Value.string (ByteArray.mk (List.toArray s_5)))) ∧
 CallsH Try.prog (19 : Nat)
 (TVs.vals
 [TV.agg
 [TV.int IntKind.i64 n, TV.bytes (32 : Nat) b_6,
 TV.int IntKind.i64 n_4, TV.bytes (32 : Nat) b_7, TV.str s_4],
 TV.agg
 [TV.int IntKind.i64 n_5, TV.bytes (32 : Nat) b_8,
 TV.int IntKind.i64 n_6, TV.bytes (32 : Nat) b_9, TV.str s_5]])
 h_7 fun (v : Value) (h_8 : Array Obj) ↦
 ∃ (b_10 : Bool),
 v = TV.val (TV.bool b_10) ∧
 If b_10
 (If (true == s_1) (R (TV.val (TV.bool false)) h_8)
 (J false h_8))
 (Nn s.snd.fst fun (l : Go.Vc.Loc) ↦
 ∃ (n : Int),
 ∃ (b_11 : Bs (32 : Nat)),
 ∃ (n_7 : Int),
 ∃ (b_12 : Bs (32 : Nat)),
 ∃ (s_6 : List UInt8),
 (at1 h_8 l.b l.o (Value.int IntKind.i64 n) ∧
 atBytes h_8 l.b (l.o + (1 : Nat)) (32 : Nat)
 b_11 ∧
 at1 h_8 l.b (l.o + (1 : Nat) + (32 : Nat))
 (Value.int IntKind.i64 n_7) ∧
 atBytes h_8 l.b
 (l.o + (1 : Nat) + (32 : Nat) +
 (1 : Nat))
 (32 : Nat) b_12 ∧
 at1 h_8 l.b
 (l.o + (1 : Nat) + (32 : Nat) +
 (1 : Nat) +
 (32 : Nat))
 (Value.string
 (ByteArray.mk (List.toArray s_6)))) ∧
 Nn s.fst fun (l : Go.Vc.Loc) ↦
 ∃ (n_8 : Int),
 ∃ (b : Bs (32 : Nat)),
 ∃ (n_9 : Int),
 ∃ (b_13 : Bs (32 : Nat)),
 ∃ (s : List UInt8),
 (at1 h_8 l.b l.o
 (Value.int IntKind.i64 n_8) ∧
 atBytes h_8 l.b (l.o + (1 : Nat))
 (32 : Nat) b ∧
 at1 h_8 l.b
 (l.o + (1 : Nat) +
 (32 : Nat))
 (Value.int IntKind.i64
 n_9) ∧
 atBytes h_8 l.b
 (l.o + (1 : Nat) +
 (32 : Nat) +
 (1 : Nat))
 (32 : Nat) b_13 ∧
 at1 h_8 l.b
 (l.o + (1 : Nat) +
 (32 : Nat) +
 (1 : Nat) +
 (32 : Nat))
 (Value.string
 (ByteArray.mk
 (List.toArray s)))) ∧
 CallsH Try.prog (19 : Nat)
 (TVs.vals
 [TV.agg
 [TV.int IntKind.i64 n,
 TV.bytes (32 : Nat) b_11,
 TV.int IntKind.i64 n_7,
 TV.bytes (32 : Nat) b_12,
 TV.str s_6],
 TV.agg
 [TV.int IntKind.i64 n_8,
 TV.bytes (32 : Nat) b,
 TV.int IntKind.i64 n_9,
 TV.bytes (32 : Nat) b_13,
 TV.str s]])
 h_8
 fun (v : Value) (h : Array Obj) ↦
 ∃ (b : Bool),
 v = TV.val (TV.bool b) ∧
 If (b == s_1)
 (R (TV.val (TV.bool false))
 h)
 (J false h))))
 fun (J : Bool → Array Obj → Prop) ↦
 Nn s.fst fun (l : Go.Vc.Loc) ↦
 ∃ (n : Int),
 at1 h_5 l.b l.o (Value.int IntKind.i64 n) ∧
 Nn s.snd.fst fun (l : Go.Vc.Loc) ↦
 ∃ (n_1 : Int),
 at1 h_5 l.b l.o (Value.int IntKind.i64 n_1) ∧
 If (decide (n = n_1))
 (Nn s.fst fun (l : Go.Vc.Loc) ↦
 ∃ (b_1 : Bs (32 : Nat)),
 atBytes h_5 l.b (l.o + (1 : Nat)) (32 : Nat) b_1 ∧
 Nn s.snd.fst fun (l : Go.Vc.Loc) ↦
 ∃ (b : Bs (32 : Nat)), atBytes h_5 l.b (l.o + (1 : Nat)) (32 : Nat) b ∧ J (decide (b_1.l = b.l)) h_5)
 (J false h_5))
 fun (J : Option Go.Vc.Loc × Option Go.Vc.Loc × Option Go.Vc.Loc → Array Obj → Prop) ↦
 ∃ (n : Int),
 ∃ (n_1 : Int),
 ∃ (n_2 : Int),
 ∃ (n_3 : Int),
 ∃ (s : List UInt8),
 (at1 h_4 (Array.size h) (0 : Nat) (Value.int IntKind.i64 n) ∧
 at1 h_4 (Array.size h) (1 : Nat) (Value.int IntKind.i64 n_1) ∧
 at1 h_4 (Array.size h) (2 : Nat) (Value.int IntKind.i64 n_2) ∧
 at1 h_4 (Array.size h) (3 : Nat) (Value.int IntKind.i64 n_3) ∧
 at1 h_4 (Array.size h) (4 : Nat) (Value.string (ByteArray.mk (List.toArray s)))) ∧
 ∃ (n_4 : Int),
 ∃ (n_5 : Int),
 ∃ (n_6 : Int),
 ∃ (n_7 : Int),
 ∃ (s_1 : List UInt8),
 (at1 h_4 (Array.size h_1) (0 : Nat) (Value.int IntKind.i64 n_4) ∧
 at1 h_4 (Array.size h_1) (1 : Nat) (Value.int IntKind.i64 n_5) ∧
 at1 h_4 (Array.size h_1) (2 : Nat) (Value.int IntKind.i64 n_6) ∧
 at1 h_4 (Array.size h_1) (3 : Nat) (Value.int IntKind.i64 n_7) ∧
 at1 h_4 (Array.size h_1) (4 : Nat) (Value.string (ByteArray.mk (List.toArray s_1)))) ∧
 ∃ (n_8 : Int),
 ∃ (n_9 : Int),
 ∃ (n_10 : Int),
 ∃ (n_11 : Int),
 ∃ (s_2 : List UInt8),
 (at1 h_4 (Array.size h_2) (0 : Nat) (Value.int IntKind.i64 n_8) ∧
 at1 h_4 (Array.size h_2) (1 : Nat) (Value.int IntKind.i64 n_9) ∧
 at1 h_4 (Array.size h_2) (2 : Nat) (Value.int IntKind.i64 n_10) ∧
 at1 h_4 (Array.size h_2) (3 : Nat) (Value.int IntKind.i64 n_11) ∧
 at1 h_4 (Array.size h_2) (4 : Nat) (Value.string (ByteArray.mk (List.toArray s_2)))) ∧
 (CallsH Try.prog (14 : Nat)
 (TVs.vals
 [TV.agg
 [TV.int IntKind.i64 n, TV.int IntKind.i64 n_1, TV.int IntKind.i64 n_2, TV.int IntKind.i64 n_3,
 TV.str s]])
 h_4 fun (v : Value) (h : Array Obj) ↦
 ∃ (n : Int),
 ∃ (b : Bs (32 : Nat)),
 ∃ (n_12 : Int),
 ∃ (b_1 : Bs (32 : Nat)),
 ∃ (s : List UInt8),
 v =
 TV.val
 (TV.agg
 [TV.int IntKind.i64 n, TV.bytes (32 : Nat) b, TV.int IntKind.i64 n_12,
 TV.bytes (32 : Nat) b_1, TV.str s]) ∧
 Ext h_4 h ∧
 (CallsH Try.prog (14 : Nat)
 (TVs.vals
 [TV.agg
 [TV.int IntKind.i64 n_4, TV.int IntKind.i64 n_5, TV.int IntKind.i64 n_6,
 TV.int IntKind.i64 n_7, TV.str s_1]])
 h fun (v : Value) (h_5 : Array Obj) ↦
 ∃ (n_13 : Int),
 ∃ (b_2 : Bs (32 : Nat)),
 ∃ (n_14 : Int),
 ∃ (b_3 : Bs (32 : Nat)),
 ∃ (s_3 : List UInt8),
 v =
 TV.val
 (TV.agg
 [TV.int IntKind.i64 n_13, TV.bytes (32 : Nat) b_2,
 TV.int IntKind.i64 n_14, TV.bytes (32 : Nat) b_3, TV.str s_3]) ∧
 Ext h h_5 ∧
 (CallsH Try.prog (14 : Nat)
 (TVs.vals
 [TV.agg
 [TV.int IntKind.i64 n_8, TV.int IntKind.i64 n_9,
 TV.int IntKind.i64 n_10, TV.int IntKind.i64 n_11,
 TV.str s_2]])
 h_5 fun (v : Value) (h : Array Obj) ↦
 ∃ (n_15 : Int),
 ∃ (b_4 : Bs (32 : Nat)),
 ∃ (n_16 : Int),
 ∃ (b_5 : Bs (32 : Nat)),
 ∃ (s_4 : List UInt8),
 v =
 TV.val
 (TV.agg
 [TV.int IntKind.i64 n_15, TV.bytes (32 : Nat) b_4,
 TV.int IntKind.i64 n_16,
 TV.bytes (32 : Nat) b_5, TV.str s_4]) ∧
 (Vc.Bind
 (newTV h
 (TV.agg
 [TV.int IntKind.i64 (0 : Int),
 TV.bytes (32 : Nat) (Bs.zero (32 : Nat)),
 TV.int IntKind.i64 (0 : Int),
 TV.bytes (32 : Nat) (Bs.zero (32 : Nat)),
 TV.str []])
 (32 : Nat))
 fun (h_6 : Array Obj) ↦
 Ext h h_6 ∧
 (Vc.Bind
 (newTV h_6
 (TV.agg
 [TV.int IntKind.i64 (0 : Int),
 TV.bytes (32 : Nat)
 (Bs.zero (32 : Nat)),
 TV.int IntKind.i64 (0 : Int),
 TV.bytes (32 : Nat)
 (Bs.zero (32 : Nat)),
 TV.str []])
 (32 : Nat))
 fun (h_7 : Array Obj) ↦
 Ext h_6 h_7 ∧
 Vc.Bind
 (newTV h_7
 (TV.agg
 [TV.int IntKind.i64 (0 : Int),
 TV.bytes (32 : Nat)
 (Bs.zero (32 : Nat)),
 TV.int IntKind.i64 (0 : Int),
 TV.bytes (32 : Nat)
 (Bs.zero (32 : Nat)),
 TV.str []])
 (32 : Nat))
 fun (h_8 : Array Obj) ↦
 Ext h_7 h_8 ∧
 wok h_8 (Array.size h) (0 : Nat)
 (67 : Nat) ∧
 Vc.Bind
 (TV.put h_8 (Array.size h) (0 : Nat)
 (TV.agg
 [TV.int IntKind.i64 n,
 TV.bytes (32 : Nat) b,
 TV.int IntKind.i64 n_12,
 TV.bytes (32 : Nat) b_1,
 TV.str s]))
 fun (h_9 : Array Obj) ↦
 wok h_9 (Array.size h_6) (0 : Nat)
 (67 : Nat) ∧
 Vc.Bind
 (TV.put h_9 (Array.size h_6)
 (0 : Nat)
 (TV.agg
 [TV.int IntKind.i64 n_13,
 TV.bytes (32 : Nat) b_2,
 TV.int IntKind.i64 n_14,
 TV.bytes (32 : Nat) b_3,
 TV.str s_3]))
 fun (h_10 : Array Obj) ↦
 wok h_10 (Array.size h_7)
 (0 : Nat) (67 : Nat) ∧
 Vc.Bind
 (TV.put h_10
 (Array.size h_7) (0 : Nat)
 (TV.agg
 [TV.int IntKind.i64
 n_15,
 TV.bytes (32 : Nat)
 b_4,
 TV.int IntKind.i64
 n_16,
 TV.bytes (32 : Nat)
 b_5,
 TV.str s_4]))
 fun (h_11 : Array Obj) ↦
 J
 (some
 (Loc.mk (Array.size h)
 (0 : Nat)),
 some
 (Loc.mk
 (Array.size h_6)
 (0 : Nat)),
 some
 (Loc.mk
 (Array.size h_7)
 (0 : Nat)))
 h_11) ∧
 Vc.Bind
 (newTV h_6
 (TV.agg
 [TV.int IntKind.i64 (0 : Int),
 TV.bytes (32 : Nat)
 (Bs.zero (32 : Nat)),
 TV.int IntKind.i64 (0 : Int),
 TV.bytes (32 : Nat)
 (Bs.zero (32 : Nat)),
 TV.str []])
 (32 : Nat))
 fun (h_7 : Array Obj) ↦
 Ext h_6 h_7 ∧
 Vc.Bind
 (newTV h_7
 (TV.agg
 [TV.int IntKind.i64 (0 : Int),
 TV.bytes (32 : Nat)
 (Bs.zero (32 : Nat)),
 TV.int IntKind.i64 (0 : Int),
 TV.bytes (32 : Nat)
 (Bs.zero (32 : Nat)),
 TV.str []])
 (32 : Nat))
 fun (h_8 : Array Obj) ↦
 Ext h_7 h_8 ∧
 wok h_8 (Array.size h) (0 : Nat)
 (67 : Nat) ∧
 Vc.Bind
 (TV.put h_8 (Array.size h) (0 : Nat)
 (TV.agg
 [TV.int IntKind.i64 n,
 TV.bytes (32 : Nat) b,
 TV.int IntKind.i64 n_12,
 TV.bytes (32 : Nat) b_1,
 TV.str s]))
 fun (h_9 : Array Obj) ↦
 wok h_9 (Array.size h_7) (0 : Nat)
 (67 : Nat) ∧
 Vc.Bind
 (TV.put h_9 (Array.size h_7)
 (0 : Nat)
 (TV.agg
 [TV.int IntKind.i64 n_13,
 TV.bytes (32 : Nat) b_2,
 TV.int IntKind.i64 n_14,
 TV.bytes (32 : Nat) b_3,
 TV.str s_3]))
 fun (h_10 : Array Obj) ↦
 wok h_10 (Array.size h_6)
 (0 : Nat) (67 : Nat) ∧
 Vc.Bind
 (TV.put h_10
 (Array.size h_6) (0 : Nat)
 (TV.agg
 [TV.int IntKind.i64
 n_15,
 TV.bytes (32 : Nat)
 b_4,
 TV.int IntKind.i64
 n_16,
 TV.bytes (32 : Nat)
 b_5,
 TV.str s_4]))
 fun (h_11 : Array Obj) ↦
 J
 (some
 (Loc.mk (Array.size h)
 (0 : Nat)),
 some
 (Loc.mk
 (Array.size h_7)
 (0 : Nat)),
 some
 (Loc.mk
 (Array.size h_6)
 (0 : Nat)))
 h_11) ∧
 (Vc.Bind
 (newTV h
 (TV.agg
 [TV.int IntKind.i64 (0 : Int),
 TV.bytes (32 : Nat) (Bs.zero (32 : Nat)),
 TV.int IntKind.i64 (0 : Int),
 TV.bytes (32 : Nat) (Bs.zero (32 : Nat)),
 TV.str []])
 (32 : Nat))
 fun (h_6 : Array Obj) ↦
 Ext h h_6 ∧
 (Vc.Bind
 (newTV h_6
 (TV.agg
 [TV.int IntKind.i64 (0 : Int),
 TV.bytes (32 : Nat)
 (Bs.zero (32 : Nat)),
 TV.int IntKind.i64 (0 : Int),
 TV.bytes (32 : Nat)
 (Bs.zero (32 : Nat)),
 TV.str []])
 (32 : Nat))
 fun (h_7 : Array Obj) ↦
 Ext h_6 h_7 ∧
 Vc.Bind
 (newTV h_7
 (TV.agg
 [TV.int IntKind.i64 (0 : Int),
 TV.bytes (32 : Nat)
 (Bs.zero (32 : Nat)),
 TV.int IntKind.i64 (0 : Int),
 TV.bytes (32 : Nat)
 (Bs.zero (32 : Nat)),
 TV.str []])
 (32 : Nat))
 fun (h_8 : Array Obj) ↦
 Ext h_7 h_8 ∧
 wok h_8 (Array.size h_6) (0 : Nat)
 (67 : Nat) ∧
 Vc.Bind
 (TV.put h_8 (Array.size h_6)
 (0 : Nat)
 (TV.agg
 [TV.int IntKind.i64 n,
 TV.bytes (32 : Nat) b,
 TV.int IntKind.i64 n_12,
 TV.bytes (32 : Nat) b_1,
 TV.str s]))
 fun (h_9 : Array Obj) ↦
 wok h_9 (Array.size h) (0 : Nat)
 (67 : Nat) ∧
 Vc.Bind
 (TV.put h_9 (Array.size h)
 (0 : Nat)
 (TV.agg
 [TV.int IntKind.i64 n_13,
 TV.bytes (32 : Nat) b_2,
 TV.int IntKind.i64 n_14,
 TV.bytes (32 : Nat) b_3,
 TV.str s_3]))
 fun (h_10 : Array Obj) ↦
 wok h_10 (Array.size h_7)
 (0 : Nat) (67 : Nat) ∧
 Vc.Bind
 (TV.put h_10
 (Array.size h_7)
 (0 : Nat)
 (TV.agg
 [TV.int IntKind.i64
 n_15,
 TV.bytes (32 : Nat)
 b_4,
 TV.int IntKind.i64
 n_16,
 TV.bytes (32 : Nat)
 b_5,
 TV.str s_4]))
 fun (h_11 : Array Obj) ↦
 J
 (some
 (Loc.mk
 (Array.size h_6)
 (0 : Nat)),
 some
 (Loc.mk
 (Array.size h)
 (0 : Nat)),
 some
 (Loc.mk
 (Array.size h_7)
 (0 : Nat)))
 h_11) ∧
 Vc.Bind
 (newTV h_6
 (TV.agg
 [TV.int IntKind.i64 (0 : Int),
 TV.bytes (32 : Nat)
 (Bs.zero (32 : Nat)),
 TV.int IntKind.i64 (0 : Int),
 TV.bytes (32 : Nat)
 (Bs.zero (32 : Nat)),
 TV.str []])
 (32 : Nat))
 fun (h_7 : Array Obj) ↦
 Ext h_6 h_7 ∧
 Vc.Bind
 (newTV h_7
 (TV.agg
 [TV.int IntKind.i64 (0 : Int),
 TV.bytes (32 : Nat)
 (Bs.zero (32 : Nat)),
 TV.int IntKind.i64 (0 : Int),
 TV.bytes (32 : Nat)
 (Bs.zero (32 : Nat)),
 TV.str []])
 (32 : Nat))
 fun (h_8 : Array Obj) ↦
 Ext h_7 h_8 ∧
 wok h_8 (Array.size h_7) (0 : Nat)
 (67 : Nat) ∧
 Vc.Bind
 (TV.put h_8 (Array.size h_7)
 (0 : Nat)
 (TV.agg
 [TV.int IntKind.i64 n,
 TV.bytes (32 : Nat) b,
 TV.int IntKind.i64 n_12,
 TV.bytes (32 : Nat) b_1,
 TV.str s]))
 fun (h_9 : Array Obj) ↦
 wok h_9 (Array.size h) (0 : Nat)
 (67 : Nat) ∧
 Vc.Bind
 (TV.put h_9 (Array.size h)
 (0 : Nat)
 (TV.agg
 [TV.int IntKind.i64 n_13,
 TV.bytes (32 : Nat) b_2,
 TV.int IntKind.i64 n_14,
 TV.bytes (32 : Nat) b_3,
 TV.str s_3]))
 fun (h_10 : Array Obj) ↦
 wok h_10 (Array.size h_6)
 (0 : Nat) (67 : Nat) ∧
 Vc.Bind
 (TV.put h_10
 (Array.size h_6)
 (0 : Nat)
 (TV.agg
 [TV.int IntKind.i64
 n_15,
 TV.bytes (32 : Nat)
 b_4,
 TV.int IntKind.i64
 n_16,
 TV.bytes (32 : Nat)
 b_5,
 TV.str s_4]))
 fun (h_11 : Array Obj) ↦
 J
 (some
 (Loc.mk
 (Array.size h_7)
 (0 : Nat)),
 some
 (Loc.mk
 (Array.size h)
 (0 : Nat)),
 some
 (Loc.mk
 (Array.size h_6)
 (0 : Nat)))
 h_11) ∧
 Vc.Bind
 (newTV h
 (TV.agg
 [TV.int IntKind.i64 (0 : Int),
 TV.bytes (32 : Nat) (Bs.zero (32 : Nat)),
 TV.int IntKind.i64 (0 : Int),
 TV.bytes (32 : Nat) (Bs.zero (32 : Nat)),
 TV.str []])
 (32 : Nat))
 fun (h_6 : Array Obj) ↦
 Ext h h_6 ∧
 (Vc.Bind
 (newTV h_6
 (TV.agg
 [TV.int IntKind.i64 (0 : Int),
 TV.bytes (32 : Nat)
 (Bs.zero (32 : Nat)),
 TV.int IntKind.i64 (0 : Int),
 TV.bytes (32 : Nat)
 (Bs.zero (32 : Nat)),
 TV.str []])
 (32 : Nat))
 fun (h_7 : Array Obj) ↦
 Ext h_6 h_7 ∧
 Vc.Bind
 (newTV h_7
 (TV.agg
 [TV.int IntKind.i64 (0 : Int),
 TV.bytes (32 : Nat)
 (Bs.zero (32 : Nat)),
 TV.int IntKind.i64 (0 : Int),
 TV.bytes (32 : Nat)
 (Bs.zero (32 : Nat)),
 TV.str []])
 (32 : Nat))
 fun (h_8 : Array Obj) ↦
 Ext h_7 h_8 ∧
 wok h_8 (Array.size h_6) (0 : Nat)
 (67 : Nat) ∧
 Vc.Bind
 (TV.put h_8 (Array.size h_6)
 (0 : Nat)
 (TV.agg
 [TV.int IntKind.i64 n,
 TV.bytes (32 : Nat) b,
 TV.int IntKind.i64 n_12,
 TV.bytes (32 : Nat) b_1,
 TV.str s]))
 fun (h_9 : Array Obj) ↦
 wok h_9 (Array.size h_7) (0 : Nat)
 (67 : Nat) ∧
 Vc.Bind
 (TV.put h_9 (Array.size h_7)
 (0 : Nat)
 (TV.agg
 [TV.int IntKind.i64 n_13,
 TV.bytes (32 : Nat) b_2,
 TV.int IntKind.i64 n_14,
 TV.bytes (32 : Nat) b_3,
 TV.str s_3]))
 fun (h_10 : Array Obj) ↦
 wok h_10 (Array.size h)
 (0 : Nat) (67 : Nat) ∧
 Vc.Bind
 (TV.put h_10
 (Array.size h) (0 : Nat)
 (TV.agg
 [TV.int IntKind.i64
 n_15,
 TV.bytes (32 : Nat)
 b_4,
 TV.int IntKind.i64
 n_16,
 TV.bytes (32 : Nat)
 b_5,
 TV.str s_4]))
 fun (h_11 : Array Obj) ↦
 J
 (some
 (Loc.mk
 (Array.size h_6)
 (0 : Nat)),
 some
 (Loc.mk
 (Array.size h_7)
 (0 : Nat)),
 some
 (Loc.mk
 (Array.size h)
 (0 : Nat)))
 h_11) ∧
 Vc.Bind
 (newTV h_6
 (TV.agg
 [TV.int IntKind.i64 (0 : Int),
 TV.bytes (32 : Nat)
 (Bs.zero (32 : Nat)),
 TV.int IntKind.i64 (0 : Int),
 TV.bytes (32 : Nat)
 (Bs.zero (32 : Nat)),
 TV.str []])
 (32 : Nat))
 fun (h_7 : Array Obj) ↦
 Ext h_6 h_7 ∧
 Vc.Bind
 (newTV h_7
 (TV.agg
 [TV.int IntKind.i64 (0 : Int),
 TV.bytes (32 : Nat)
 (Bs.zero (32 : Nat)),
 TV.int IntKind.i64 (0 : Int),
 TV.bytes (32 : Nat)
 (Bs.zero (32 : Nat)),
 TV.str []])
 (32 : Nat))
 fun (h_8 : Array Obj) ↦
 Ext h_7 h_8 ∧
 wok h_8 (Array.size h_7) (0 : Nat)
 (67 : Nat) ∧
 Vc.Bind
 (TV.put h_8 (Array.size h_7)
 (0 : Nat)
 (TV.agg
 [TV.int IntKind.i64 n,
 TV.bytes (32 : Nat) b,
 TV.int IntKind.i64 n_12,
 TV.bytes (32 : Nat) b_1,
 TV.str s]))
 fun (h_9 : Array Obj) ↦
 wok h_9 (Array.size h_6) (0 : Nat)
 (67 : Nat) ∧
 Vc.Bind
 (TV.put h_9 (Array.size h_6)
 (0 : Nat)
 (TV.agg
 [TV.int IntKind.i64 n_13,
 TV.bytes (32 : Nat) b_2,
 TV.int IntKind.i64 n_14,
 TV.bytes (32 : Nat) b_3,
 TV.str s_3]))
 fun (h_10 : Array Obj) ↦
 wok h_10 (Array.size h)
 (0 : Nat) (67 : Nat) ∧
 Vc.Bind
 (TV.put h_10
 (Array.size h) (0 : Nat)
 (TV.agg
 [TV.int IntKind.i64
 n_15,
 TV.bytes (32 : Nat)
 b_4,
 TV.int IntKind.i64
 n_16,
 TV.bytes (32 : Nat)
 b_5,
 TV.str s_4]))
 fun (h_11 : Array Obj) ↦
 J
 (some
 (Loc.mk
 (Array.size h_7)
 (0 : Nat)),
 some
 (Loc.mk
 (Array.size h_6)
 (0 : Nat)),
 some
 (Loc.mk
 (Array.size h)
 (0 : Nat)))
 h_11) ∧
 (Vc.Bind
 (newTV h_5
 (TV.agg
 [TV.int IntKind.i64 (0 : Int),
 TV.bytes (32 : Nat) (Bs.zero (32 : Nat)),
 TV.int IntKind.i64 (0 : Int),
 TV.bytes (32 : Nat) (Bs.zero (32 : Nat)), TV.str []])
 (32 : Nat))
 fun (h : Array Obj) ↦
 Ext h_5 h ∧
 (CallsH Try.prog (14 : Nat)
 (TVs.vals
 [TV.agg
 [TV.int IntKind.i64 n_8, TV.int IntKind.i64 n_9,
 TV.int IntKind.i64 n_10, TV.int IntKind.i64 n_11,
 TV.str s_2]])
 h fun (v : Value) (h : Array Obj) ↦
 ∃ (n_15 : Int),
 ∃ (b_4 : Bs (32 : Nat)),
 ∃ (n_16 : Int),
 ∃ (b_5 : Bs (32 : Nat)),
 ∃ (s_4 : List UInt8),
 v =
 TV.val
 (TV.agg
 [TV.int IntKind.i64 n_15,
 TV.bytes (32 : Nat) b_4,
 TV.int IntKind.i64 n_16,
 TV.bytes (32 : Nat) b_5, TV.str s_4]) ∧
 (Vc.Bind
 (newTV h
 (TV.agg
 [TV.int IntKind.i64 (0 : Int),
 TV.bytes (32 : Nat)
 (Bs.zero (32 : Nat)),
 TV.int IntKind.i64 (0 : Int),
 TV.bytes (32 : Nat)
 (Bs.zero (32 : Nat)),
 TV.str []])
 (32 : Nat))
 fun (h_6 : Array Obj) ↦
 Ext h h_6 ∧
 Vc.Bind
 (newTV h_6
 (TV.agg
 [TV.int IntKind.i64 (0 : Int),
 TV.bytes (32 : Nat)
 (Bs.zero (32 : Nat)),
 TV.int IntKind.i64 (0 : Int),
 TV.bytes (32 : Nat)
 (Bs.zero (32 : Nat)),
 TV.str []])
 (32 : Nat))
 fun (h_7 : Array Obj) ↦
 Ext h_6 h_7 ∧
 wok h_7 (Array.size h_5) (0 : Nat)
 (67 : Nat) ∧
 Vc.Bind
 (TV.put h_7 (Array.size h_5)
 (0 : Nat)
 (TV.agg
 [TV.int IntKind.i64 n,
 TV.bytes (32 : Nat) b,
 TV.int IntKind.i64 n_12,
 TV.bytes (32 : Nat) b_1,
 TV.str s]))
 fun (h_8 : Array Obj) ↦
 wok h_8 (Array.size h) (0 : Nat)
 (67 : Nat) ∧
 Vc.Bind
 (TV.put h_8 (Array.size h)
 (0 : Nat)
 (TV.agg
 [TV.int IntKind.i64 n_13,
 TV.bytes (32 : Nat) b_2,
 TV.int IntKind.i64 n_14,
 TV.bytes (32 : Nat) b_3,
 TV.str s_3]))
 fun (h_9 : Array Obj) ↦
 wok h_9 (Array.size h_6)
 (0 : Nat) (67 : Nat) ∧
 Vc.Bind
 (TV.put h_9
 (Array.size h_6)
 (0 : Nat)
 (TV.agg
 [TV.int IntKind.i64
 n_15,
 TV.bytes (32 : Nat)
 b_4,
 TV.int IntKind.i64
 n_16,
 TV.bytes (32 : Nat)
 b_5,
 TV.str s_4]))
 fun (h_10 : Array Obj) ↦
 J
 (some
 (Loc.mk
 (Array.size h_5)
 (0 : Nat)),
 some
 (Loc.mk
 (Array.size h)
 (0 : Nat)),
 some
 (Loc.mk
 (Array.size h_6)
 (0 : Nat)))
 h_10) ∧
 Vc.Bind
 (newTV h
 (TV.agg
 [TV.int IntKind.i64 (0 : Int),
 TV.bytes (32 : Nat)
 (Bs.zero (32 : Nat)),
 TV.int IntKind.i64 (0 : Int),
 TV.bytes (32 : Nat)
 (Bs.zero (32 : Nat)),
 TV.str []])
 (32 : Nat))
 fun (h_6 : Array Obj) ↦
 Ext h h_6 ∧
 Vc.Bind
 (newTV h_6
 (TV.agg
 [TV.int IntKind.i64 (0 : Int),
 TV.bytes (32 : Nat)
 (Bs.zero (32 : Nat)),
 TV.int IntKind.i64 (0 : Int),
 TV.bytes (32 : Nat)
 (Bs.zero (32 : Nat)),
 TV.str []])
 (32 : Nat))
 fun (h_7 : Array Obj) ↦
 Ext h_6 h_7 ∧
 wok h_7 (Array.size h_5) (0 : Nat)
 (67 : Nat) ∧
 Vc.Bind
 (TV.put h_7 (Array.size h_5)
 (0 : Nat)
 (TV.agg
 [TV.int IntKind.i64 n,
 TV.bytes (32 : Nat) b,
 TV.int IntKind.i64 n_12,
 TV.bytes (32 : Nat) b_1,
 TV.str s]))
 fun (h_8 : Array Obj) ↦
 wok h_8 (Array.size h_6) (0 : Nat)
 (67 : Nat) ∧
 Vc.Bind
 (TV.put h_8 (Array.size h_6)
 (0 : Nat)
 (TV.agg
 [TV.int IntKind.i64 n_13,
 TV.bytes (32 : Nat) b_2,
 TV.int IntKind.i64 n_14,
 TV.bytes (32 : Nat) b_3,
 TV.str s_3]))
 fun (h_9 : Array Obj) ↦
 wok h_9 (Array.size h)
 (0 : Nat) (67 : Nat) ∧
 Vc.Bind
 (TV.put h_9 (Array.size h)
 (0 : Nat)
 (TV.agg
 [TV.int IntKind.i64
 n_15,
 TV.bytes (32 : Nat)
 b_4,
 TV.int IntKind.i64
 n_16,
 TV.bytes (32 : Nat)
 b_5,
 TV.str s_4]))
 fun (h_10 : Array Obj) ↦
 J
 (some
 (Loc.mk
 (Array.size h_5)
 (0 : Nat)),
 some
 (Loc.mk
 (Array.size h_6)
 (0 : Nat)),
 some
 (Loc.mk
 (Array.size h)
 (0 : Nat)))
 h_10) ∧
 (Vc.Bind
 (newTV h
 (TV.agg
 [TV.int IntKind.i64 (0 : Int),
 TV.bytes (32 : Nat) (Bs.zero (32 : Nat)),
 TV.int IntKind.i64 (0 : Int),
 TV.bytes (32 : Nat) (Bs.zero (32 : Nat)),
 TV.str []])
 (32 : Nat))
 fun (h_6 : Array Obj) ↦
 Ext h h_6 ∧
 (CallsH Try.prog (14 : Nat)
 (TVs.vals
 [TV.agg
 [TV.int IntKind.i64 n_8,
 TV.int IntKind.i64 n_9,
 TV.int IntKind.i64 n_10,
 TV.int IntKind.i64 n_11, TV.str s_2]])
 h_6 fun (v : Value) (h_7 : Array Obj) ↦
 ∃ (n_15 : Int),
 ∃ (b_4 : Bs (32 : Nat)),
 ∃ (n_16 : Int),
 ∃ (b_5 : Bs (32 : Nat)),
 ∃ (s_4 : List UInt8),
 v =
 TV.val
 (TV.agg
 [TV.int IntKind.i64 n_15,
 TV.bytes (32 : Nat) b_4,
 TV.int IntKind.i64 n_16,
 TV.bytes (32 : Nat) b_5,
 TV.str s_4]) ∧
 Vc.Bind
 (newTV h_7
 (TV.agg
 [TV.int IntKind.i64 (0 : Int),
 TV.bytes (32 : Nat)
 (Bs.zero (32 : Nat)),
 TV.int IntKind.i64 (0 : Int),
 TV.bytes (32 : Nat)
 (Bs.zero (32 : Nat)),
 TV.str []])
 (32 : Nat))
 fun (h_8 : Array Obj) ↦
 Ext h_7 h_8 ∧
 wok h_8 (Array.size h_5) (0 : Nat)
 (67 : Nat) ∧
 Vc.Bind
 (TV.put h_8 (Array.size h_5)
 (0 : Nat)
 (TV.agg
 [TV.int IntKind.i64 n,
 TV.bytes (32 : Nat) b,
 TV.int IntKind.i64 n_12,
 TV.bytes (32 : Nat) b_1,
 TV.str s]))
 fun (h_9 : Array Obj) ↦
 wok h_9 (Array.size h) (0 : Nat)
 (67 : Nat) ∧
 Vc.Bind
 (TV.put h_9 (Array.size h)
 (0 : Nat)
 (TV.agg
 [TV.int IntKind.i64
 n_13,
 TV.bytes (32 : Nat)
 b_2,
 TV.int IntKind.i64
 n_14,
 TV.bytes (32 : Nat)
 b_3,
 TV.str s_3]))
 fun (h_10 : Array Obj) ↦
 wok h_10 (Array.size h_7)
 (0 : Nat) (67 : Nat) ∧
 Vc.Bind
 (TV.put h_10
 (Array.size h_7)
 (0 : Nat)
 (TV.agg
 [TV.int IntKind.i64
 n_15,
 TV.bytes
 (32 : Nat) b_4,
 TV.int IntKind.i64
 n_16,
 TV.bytes
 (32 : Nat) b_5,
 TV.str s_4]))
 fun (h_11 : Array Obj) ↦
 J
 (some
 (Loc.mk
 (Array.size h_5)
 (0 : Nat)),
 some
 (Loc.mk
 (Array.size h)
 (0 : Nat)),
 some
 (Loc.mk
 (Array.size h_7)
 (0 : Nat)))
 h_11) ∧
 Vc.Bind
 (newTV h_6
 (TV.agg
 [TV.int IntKind.i64 (0 : Int),
 TV.bytes (32 : Nat) (Bs.zero (32 : Nat)),
 TV.int IntKind.i64 (0 : Int),
 TV.bytes (32 : Nat) (Bs.zero (32 : Nat)),
 TV.str []])
 (32 : Nat))
 fun (h_7 : Array Obj) ↦
 Ext h_6 h_7 ∧
 CallsH Try.prog (14 : Nat)
 (TVs.vals
 [TV.agg
 [TV.int IntKind.i64 n_8,
 TV.int IntKind.i64 n_9,
 TV.int IntKind.i64 n_10,
 TV.int IntKind.i64 n_11, TV.str s_2]])
 h_7 fun (v : Value) (h_8 : Array Obj) ↦
 ∃ (n_15 : Int),
 ∃ (b_4 : Bs (32 : Nat)),
 ∃ (n_16 : Int),
 ∃ (b_5 : Bs (32 : Nat)),
 ∃ (s_4 : List UInt8),
 v =
 TV.val
 (TV.agg
 [TV.int IntKind.i64 n_15,
 TV.bytes (32 : Nat) b_4,
 TV.int IntKind.i64 n_16,
 TV.bytes (32 : Nat) b_5,
 TV.str s_4]) ∧
 wok h_8 (Array.size h_5) (0 : Nat)
 (67 : Nat) ∧
 Vc.Bind
 (TV.put h_8 (Array.size h_5)
 (0 : Nat)
 (TV.agg
 [TV.int IntKind.i64 n,
 TV.bytes (32 : Nat) b,
 TV.int IntKind.i64 n_12,
 TV.bytes (32 : Nat) b_1,
 TV.str s]))
 fun (h_9 : Array Obj) ↦
 wok h_9 (Array.size h) (0 : Nat)
 (67 : Nat) ∧
 Vc.Bind
 (TV.put h_9 (Array.size h)
 (0 : Nat)
 (TV.agg
 [TV.int IntKind.i64
 n_13,
 TV.bytes (32 : Nat)
 b_2,
 TV.int IntKind.i64
 n_14,
 TV.bytes (32 : Nat)
 b_3,
 TV.str s_3]))
 fun (h_10 : Array Obj) ↦
 wok h_10 (Array.size h_6)
 (0 : Nat) (67 : Nat) ∧
 Vc.Bind
 (TV.put h_10
 (Array.size h_6)
 (0 : Nat)
 (TV.agg
 [TV.int IntKind.i64
 n_15,
 TV.bytes
 (32 : Nat) b_4,
 TV.int IntKind.i64
 n_16,
 TV.bytes
 (32 : Nat) b_5,
 TV.str s_4]))
 fun (h_11 : Array Obj) ↦
 J
 (some
 (Loc.mk
 (Array.size h_5)
 (0 : Nat)),
 some
 (Loc.mk
 (Array.size h)
 (0 : Nat)),
 some
 (Loc.mk
 (Array.size h_6)
 (0 : Nat)))
 h_11) ∧
 Vc.Bind
 (newTV h
 (TV.agg
 [TV.int IntKind.i64 (0 : Int),
 TV.bytes (32 : Nat) (Bs.zero (32 : Nat)),
 TV.int IntKind.i64 (0 : Int),
 TV.bytes (32 : Nat) (Bs.zero (32 : Nat)),
 TV.str []])
 (32 : Nat))
 fun (h_6 : Array Obj) ↦
 Ext h h_6 ∧
 (CallsH Try.prog (14 : Nat)
 (TVs.vals
 [TV.agg
 [TV.int IntKind.i64 n_8,
 TV.int IntKind.i64 n_9,
 TV.int IntKind.i64 n_10,
 TV.int IntKind.i64 n_11, TV.str s_2]])
 h_6 fun (v : Value) (h_7 : Array Obj) ↦
 ∃ (n_15 : Int),
 ∃ (b_4 : Bs (32 : Nat)),
 ∃ (n_16 : Int),
 ∃ (b_5 : Bs (32 : Nat)),
 ∃ (s_4 : List UInt8),
 v =
 TV.val
 (TV.agg
 [TV.int IntKind.i64 n_15,
 TV.bytes (32 : Nat) b_4,
 TV.int IntKind.i64 n_16,
 TV.bytes (32 : Nat) b_5,
 TV.str s_4]) ∧
 Vc.Bind
 (newTV h_7
 (TV.agg
 [TV.int IntKind.i64 (0 : Int),
 TV.bytes (32 : Nat)
 (Bs.zero (32 : Nat)),
 TV.int IntKind.i64 (0 : Int),
 TV.bytes (32 : Nat)
 (Bs.zero (32 : Nat)),
 TV.str []])
 (32 : Nat))
 fun (h_8 : Array Obj) ↦
 Ext h_7 h_8 ∧
 wok h_8 (Array.size h_5) (0 : Nat)
 (67 : Nat) ∧
 Vc.Bind
 (TV.put h_8 (Array.size h_5)
 (0 : Nat)
 (TV.agg
 [TV.int IntKind.i64 n,
 TV.bytes (32 : Nat) b,
 TV.int IntKind.i64 n_12,
 TV.bytes (32 : Nat) b_1,
 TV.str s]))
 fun (h_9 : Array Obj) ↦
 wok h_9 (Array.size h_7)
 (0 : Nat) (67 : Nat) ∧
 Vc.Bind
 (TV.put h_9 (Array.size h_7)
 (0 : Nat)
 (TV.agg
 [TV.int IntKind.i64
 n_13,
 TV.bytes (32 : Nat)
 b_2,
 TV.int IntKind.i64
 n_14,
 TV.bytes (32 : Nat)
 b_3,
 TV.str s_3]))
 fun (h_10 : Array Obj) ↦
 wok h_10 (Array.size h)
 (0 : Nat) (67 : Nat) ∧
 Vc.Bind
 (TV.put h_10
 (Array.size h)
 (0 : Nat)
 (TV.agg
 [TV.int IntKind.i64
 n_15,
 TV.bytes
 (32 : Nat) b_4,
 TV.int IntKind.i64
 n_16,
 TV.bytes
 (32 : Nat) b_5,
 TV.str s_4]))
 fun (h_11 : Array Obj) ↦
 J
 (some
 (Loc.mk
 (Array.size h_5)
 (0 : Nat)),
 some
 (Loc.mk
 (Array.size h_7)
 (0 : Nat)),
 some
 (Loc.mk
 (Array.size h)
 (0 : Nat)))
 h_11) ∧
 Vc.Bind
 (newTV h_6
 (TV.agg
 [TV.int IntKind.i64 (0 : Int),
 TV.bytes (32 : Nat) (Bs.zero (32 : Nat)),
 TV.int IntKind.i64 (0 : Int),
 TV.bytes (32 : Nat) (Bs.zero (32 : Nat)),
 TV.str []])
 (32 : Nat))
 fun (h_7 : Array Obj) ↦
 Ext h_6 h_7 ∧
 CallsH Try.prog (14 : Nat)
 (TVs.vals
 [TV.agg
 [TV.int IntKind.i64 n_8,
 TV.int IntKind.i64 n_9,
 TV.int IntKind.i64 n_10,
 TV.int IntKind.i64 n_11, TV.str s_2]])
 h_7 fun (v : Value) (h_8 : Array Obj) ↦
 ∃ (n_15 : Int),
 ∃ (b_4 : Bs (32 : Nat)),
 ∃ (n_16 : Int),
 ∃ (b_5 : Bs (32 : Nat)),
 ∃ (s_4 : List UInt8),
 v =
 TV.val
 (TV.agg
 [TV.int IntKind.i64 n_15,
 TV.bytes (32 : Nat) b_4,
 TV.int IntKind.i64 n_16,
 TV.bytes (32 : Nat) b_5,
 TV.str s_4]) ∧
 wok h_8 (Array.size h_5) (0 : Nat)
 (67 : Nat) ∧
 Vc.Bind
 (TV.put h_8 (Array.size h_5)
 (0 : Nat)
 (TV.agg
 [TV.int IntKind.i64 n,
 TV.bytes (32 : Nat) b,
 TV.int IntKind.i64 n_12,
 TV.bytes (32 : Nat) b_1,
 TV.str s]))
 fun (h_9 : Array Obj) ↦
 wok h_9 (Array.size h_6)
 (0 : Nat) (67 : Nat) ∧
 Vc.Bind
 (TV.put h_9 (Array.size h_6)
 (0 : Nat)
 (TV.agg
 [TV.int IntKind.i64
 n_13,
 TV.bytes (32 : Nat)
 b_2,
 TV.int IntKind.i64
 n_14,
 TV.bytes (32 : Nat)
 b_3,
 TV.str s_3]))
 fun (h_10 : Array Obj) ↦
 wok h_10 (Array.size h)
 (0 : Nat) (67 : Nat) ∧
 Vc.Bind
 (TV.put h_10
 (Array.size h)
 (0 : Nat)
 (TV.agg
 [TV.int IntKind.i64
 n_15,
 TV.bytes
 (32 : Nat) b_4,
 TV.int IntKind.i64
 n_16,
 TV.bytes
 (32 : Nat) b_5,
 TV.str s_4]))
 fun (h_11 : Array Obj) ↦
 J
 (some
 (Loc.mk
 (Array.size h_5)
 (0 : Nat)),
 some
 (Loc.mk
 (Array.size h_6)
 (0 : Nat)),
 some
 (Loc.mk
 (Array.size h)
 (0 : Nat)))
 h_11) ∧
 (Vc.Bind
 (newTV h_5
 (TV.agg
 [TV.int IntKind.i64 (0 : Int),
 TV.bytes (32 : Nat) (Bs.zero (32 : Nat)),
 TV.int IntKind.i64 (0 : Int),
 TV.bytes (32 : Nat) (Bs.zero (32 : Nat)), TV.str []])
 (32 : Nat))
 fun (h : Array Obj) ↦
 Ext h_5 h ∧
 (CallsH Try.prog (14 : Nat)
 (TVs.vals
 [TV.agg
 [TV.int IntKind.i64 n_8, TV.int IntKind.i64 n_9,
 TV.int IntKind.i64 n_10, TV.int IntKind.i64 n_11,
 TV.str s_2]])
 h fun (v : Value) (h : Array Obj) ↦
 ∃ (n_15 : Int),
 ∃ (b_4 : Bs (32 : Nat)),
 ∃ (n_16 : Int),
 ∃ (b_5 : Bs (32 : Nat)),
 ∃ (s_4 : List UInt8),
 v =
 TV.val
 (TV.agg
 [TV.int IntKind.i64 n_15,
 TV.bytes (32 : Nat) b_4,
 TV.int IntKind.i64 n_16,
 TV.bytes (32 : Nat) b_5,
 TV.str s_4]) ∧
 (Vc.Bind
 (newTV h
 (TV.agg
 [TV.int IntKind.i64 (0 : Int),
 TV.bytes (32 : Nat)
 (Bs.zero (32 : Nat)),
 TV.int IntKind.i64 (0 : Int),
 TV.bytes (32 : Nat)
 (Bs.zero (32 : Nat)),
 TV.str []])
 (32 : Nat))
 fun (h_6 : Array Obj) ↦
 Ext h h_6 ∧
 Vc.Bind
 (newTV h_6
 (TV.agg
 [TV.int IntKind.i64 (0 : Int),
 TV.bytes (32 : Nat)
 (Bs.zero (32 : Nat)),
 TV.int IntKind.i64 (0 : Int),
 TV.bytes (32 : Nat)
 (Bs.zero (32 : Nat)),
 TV.str []])
 (32 : Nat))
 fun (h_7 : Array Obj) ↦
 Ext h_6 h_7 ∧
 wok h_7 (Array.size h) (0 : Nat)
 (67 : Nat) ∧
 Vc.Bind
 (TV.put h_7 (Array.size h)
 (0 : Nat)
 (TV.agg
 [TV.int IntKind.i64 n,
 TV.bytes (32 : Nat) b,
 TV.int IntKind.i64 n_12,
 TV.bytes (32 : Nat) b_1,
 TV.str s]))
 fun (h_8 : Array Obj) ↦
 wok h_8 (Array.size h_5)
 (0 : Nat) (67 : Nat) ∧
 Vc.Bind
 (TV.put h_8 (Array.size h_5)
 (0 : Nat)
 (TV.agg
 [TV.int IntKind.i64
 n_13,
 TV.bytes (32 : Nat)
 b_2,
 TV.int IntKind.i64
 n_14,
 TV.bytes (32 : Nat)
 b_3,
 TV.str s_3]))
 fun (h_9 : Array Obj) ↦
 wok h_9 (Array.size h_6)
 (0 : Nat) (67 : Nat) ∧
 Vc.Bind
 (TV.put h_9
 (Array.size h_6)
 (0 : Nat)
 (TV.agg
 [TV.int IntKind.i64
 n_15,
 TV.bytes
 (32 : Nat) b_4,
 TV.int IntKind.i64
 n_16,
 TV.bytes
 (32 : Nat) b_5,
 TV.str s_4]))
 fun (h_10 : Array Obj) ↦
 J
 (some
 (Loc.mk
 (Array.size h)
 (0 : Nat)),
 some
 (Loc.mk
 (Array.size h_5)
 (0 : Nat)),
 some
 (Loc.mk
 (Array.size h_6)
 (0 : Nat)))
 h_10) ∧
 Vc.Bind
 (newTV h
 (TV.agg
 [TV.int IntKind.i64 (0 : Int),
 TV.bytes (32 : Nat)
 (Bs.zero (32 : Nat)),
 TV.int IntKind.i64 (0 : Int),
 TV.bytes (32 : Nat)
 (Bs.zero (32 : Nat)),
 TV.str []])
 (32 : Nat))
 fun (h_6 : Array Obj) ↦
 Ext h h_6 ∧
 Vc.Bind
 (newTV h_6
 (TV.agg
 [TV.int IntKind.i64 (0 : Int),
 TV.bytes (32 : Nat)
 (Bs.zero (32 : Nat)),
 TV.int IntKind.i64 (0 : Int),
 TV.bytes (32 : Nat)
 (Bs.zero (32 : Nat)),
 TV.str []])
 (32 : Nat))
 fun (h_7 : Array Obj) ↦
 Ext h_6 h_7 ∧
 wok h_7 (Array.size h_6) (0 : Nat)
 (67 : Nat) ∧
 Vc.Bind
 (TV.put h_7 (Array.size h_6)
 (0 : Nat)
 (TV.agg
 [TV.int IntKind.i64 n,
 TV.bytes (32 : Nat) b,
 TV.int IntKind.i64 n_12,
 TV.bytes (32 : Nat) b_1,
 TV.str s]))
 fun (h_8 : Array Obj) ↦
 wok h_8 (Array.size h_5)
 (0 : Nat) (67 : Nat) ∧
 Vc.Bind
 (TV.put h_8 (Array.size h_5)
 (0 : Nat)
 (TV.agg
 [TV.int IntKind.i64
 n_13,
 TV.bytes (32 : Nat)
 b_2,
 TV.int IntKind.i64
 n_14,
 TV.bytes (32 : Nat)
 b_3,
 TV.str s_3]))
 fun (h_9 : Array Obj) ↦
 wok h_9 (Array.size h)
 (0 : Nat) (67 : Nat) ∧
 Vc.Bind
 (TV.put h_9
 (Array.size h)
 (0 : Nat)
 (TV.agg
 [TV.int IntKind.i64
 n_15,
 TV.bytes
 (32 : Nat) b_4,
 TV.int IntKind.i64
 n_16,
 TV.bytes
 (32 : Nat) b_5,
 TV.str s_4]))
 fun (h_10 : Array Obj) ↦
 J
 (some
 (Loc.mk
 (Array.size h_6)
 (0 : Nat)),
 some
 (Loc.mk
 (Array.size h_5)
 (0 : Nat)),
 some
 (Loc.mk
 (Array.size h)
 (0 : Nat)))
 h_10) ∧
 (Vc.Bind
 (newTV h
 (TV.agg
 [TV.int IntKind.i64 (0 : Int),
 TV.bytes (32 : Nat) (Bs.zero (32 : Nat)),
 TV.int IntKind.i64 (0 : Int),
 TV.bytes (32 : Nat) (Bs.zero (32 : Nat)),
 TV.str []])
 (32 : Nat))
 fun (h_6 : Array Obj) ↦
 Ext h h_6 ∧
 (CallsH Try.prog (14 : Nat)
 (TVs.vals
 [TV.agg
 [TV.int IntKind.i64 n_8,
 TV.int IntKind.i64 n_9,
 TV.int IntKind.i64 n_10,
 TV.int IntKind.i64 n_11, TV.str s_2]])
 h_6 fun (v : Value) (h_7 : Array Obj) ↦
 ∃ (n_15 : Int),
 ∃ (b_4 : Bs (32 : Nat)),
 ∃ (n_16 : Int),
 ∃ (b_5 : Bs (32 : Nat)),
 ∃ (s_4 : List UInt8),
 v =
 TV.val
 (TV.agg
 [TV.int IntKind.i64 n_15,
 TV.bytes (32 : Nat) b_4,
 TV.int IntKind.i64 n_16,
 TV.bytes (32 : Nat) b_5,
 TV.str s_4]) ∧
 Vc.Bind
 (newTV h_7
 (TV.agg
 [TV.int IntKind.i64 (0 : Int),
 TV.bytes (32 : Nat)
 (Bs.zero (32 : Nat)),
 TV.int IntKind.i64 (0 : Int),
 TV.bytes (32 : Nat)
 (Bs.zero (32 : Nat)),
 TV.str []])
 (32 : Nat))
 fun (h_8 : Array Obj) ↦
 Ext h_7 h_8 ∧
 wok h_8 (Array.size h) (0 : Nat)
 (67 : Nat) ∧
 Vc.Bind
 (TV.put h_8 (Array.size h)
 (0 : Nat)
 (TV.agg
 [TV.int IntKind.i64 n,
 TV.bytes (32 : Nat) b,
 TV.int IntKind.i64 n_12,
 TV.bytes (32 : Nat) b_1,
 TV.str s]))
 fun (h_9 : Array Obj) ↦
 wok h_9 (Array.size h_5)
 (0 : Nat) (67 : Nat) ∧
 Vc.Bind
 (TV.put h_9
 (Array.size h_5)
 (0 : Nat)
 (TV.agg
 [TV.int IntKind.i64
 n_13,
 TV.bytes (32 : Nat)
 b_2,
 TV.int IntKind.i64
 n_14,
 TV.bytes (32 : Nat)
 b_3,
 TV.str s_3]))
 fun (h_10 : Array Obj) ↦
 wok h_10 (Array.size h_7)
 (0 : Nat) (67 : Nat) ∧
 Vc.Bind
 (TV.put h_10
 (Array.size h_7)
 (0 : Nat)
 (TV.agg
 [TV.int
 IntKind.i64
 n_15,
 TV.bytes
 (32 : Nat)
 b_4,
 TV.int
 IntKind.i64
 n_16,
 TV.bytes
 (32 : Nat)
 b_5,
 TV.str s_4]))
 fun
 (h_11 : Array Obj) ↦
 J
 (some
 (Loc.mk
 (Array.size h)
 (0 : Nat)),
 some
 (Loc.mk
 (Array.size
 h_5)
 (0 : Nat)),
 some
 (Loc.mk
 (Array.size
 h_7)
 (0 : Nat)))
 h_11) ∧
 Vc.Bind
 (newTV h_6
 (TV.agg
 [TV.int IntKind.i64 (0 : Int),
 TV.bytes (32 : Nat) (Bs.zero (32 : Nat)),
 TV.int IntKind.i64 (0 : Int),
 TV.bytes (32 : Nat) (Bs.zero (32 : Nat)),
 TV.str []])
 (32 : Nat))
 fun (h_7 : Array Obj) ↦
 Ext h_6 h_7 ∧
 CallsH Try.prog (14 : Nat)
 (TVs.vals
 [TV.agg
 [TV.int IntKind.i64 n_8,
 TV.int IntKind.i64 n_9,
 TV.int IntKind.i64 n_10,
 TV.int IntKind.i64 n_11, TV.str s_2]])
 h_7 fun (v : Value) (h_8 : Array Obj) ↦
 ∃ (n_15 : Int),
 ∃ (b_4 : Bs (32 : Nat)),
 ∃ (n_16 : Int),
 ∃ (b_5 : Bs (32 : Nat)),
 ∃ (s_4 : List UInt8),
 v =
 TV.val
 (TV.agg
 [TV.int IntKind.i64 n_15,
 TV.bytes (32 : Nat) b_4,
 TV.int IntKind.i64 n_16,
 TV.bytes (32 : Nat) b_5,
 TV.str s_4]) ∧
 wok h_8 (Array.size h) (0 : Nat)
 (67 : Nat) ∧
 Vc.Bind
 (TV.put h_8 (Array.size h)
 (0 : Nat)
 (TV.agg
 [TV.int IntKind.i64 n,
 TV.bytes (32 : Nat) b,
 TV.int IntKind.i64 n_12,
 TV.bytes (32 : Nat) b_1,
 TV.str s]))
 fun (h_9 : Array Obj) ↦
 wok h_9 (Array.size h_5)
 (0 : Nat) (67 : Nat) ∧
 Vc.Bind
 (TV.put h_9
 (Array.size h_5)
 (0 : Nat)
 (TV.agg
 [TV.int IntKind.i64
 n_13,
 TV.bytes (32 : Nat)
 b_2,
 TV.int IntKind.i64
 n_14,
 TV.bytes (32 : Nat)
 b_3,
 TV.str s_3]))
 fun (h_10 : Array Obj) ↦
 wok h_10 (Array.size h_6)
 (0 : Nat) (67 : Nat) ∧
 Vc.Bind
 (TV.put h_10
 (Array.size h_6)
 (0 : Nat)
 (TV.agg
 [TV.int
 IntKind.i64
 n_15,
 TV.bytes
 (32 : Nat)
 b_4,
 TV.int
 IntKind.i64
 n_16,
 TV.bytes
 (32 : Nat)
 b_5,
 TV.str s_4]))
 fun
 (h_11 : Array Obj) ↦
 J
 (some
 (Loc.mk
 (Array.size h)
 (0 : Nat)),
 some
 (Loc.mk
 (Array.size
 h_5)
 (0 : Nat)),
 some
 (Loc.mk
 (Array.size
 h_6)
 (0 : Nat)))
 h_11) ∧
 Vc.Bind
 (newTV h
 (TV.agg
 [TV.int IntKind.i64 (0 : Int),
 TV.bytes (32 : Nat) (Bs.zero (32 : Nat)),
 TV.int IntKind.i64 (0 : Int),
 TV.bytes (32 : Nat) (Bs.zero (32 : Nat)),
 TV.str []])
 (32 : Nat))
 fun (h_6 : Array Obj) ↦
 Ext h h_6 ∧
 (CallsH Try.prog (14 : Nat)
 (TVs.vals
 [TV.agg
 [TV.int IntKind.i64 n_8,
 TV.int IntKind.i64 n_9,
 TV.int IntKind.i64 n_10,
 TV.int IntKind.i64 n_11, TV.str s_2]])
 h_6 fun (v : Value) (h_7 : Array Obj) ↦
 ∃ (n_15 : Int),
 ∃ (b_4 : Bs (32 : Nat)),
 ∃ (n_16 : Int),
 ∃ (b_5 : Bs (32 : Nat)),
 ∃ (s_4 : List UInt8),
 v =
 TV.val
 (TV.agg
 [TV.int IntKind.i64 n_15,
 TV.bytes (32 : Nat) b_4,
 TV.int IntKind.i64 n_16,
 TV.bytes (32 : Nat) b_5,
 TV.str s_4]) ∧
 Vc.Bind
 (newTV h_7
 (TV.agg
 [TV.int IntKind.i64 (0 : Int),
 TV.bytes (32 : Nat)
 (Bs.zero (32 : Nat)),
 TV.int IntKind.i64 (0 : Int),
 TV.bytes (32 : Nat)
 (Bs.zero (32 : Nat)),
 TV.str []])
 (32 : Nat))
 fun (h_8 : Array Obj) ↦
 Ext h_7 h_8 ∧
 wok h_8 (Array.size h_7) (0 : Nat)
 (67 : Nat) ∧
 Vc.Bind
 (TV.put h_8 (Array.size h_7)
 (0 : Nat)
 (TV.agg
 [TV.int IntKind.i64 n,
 TV.bytes (32 : Nat) b,
 TV.int IntKind.i64 n_12,
 TV.bytes (32 : Nat) b_1,
 TV.str s]))
 fun (h_9 : Array Obj) ↦
 wok h_9 (Array.size h_5)
 (0 : Nat) (67 : Nat) ∧
 Vc.Bind
 (TV.put h_9
 (Array.size h_5)
 (0 : Nat)
 (TV.agg
 [TV.int IntKind.i64
 n_13,
 TV.bytes (32 : Nat)
 b_2,
 TV.int IntKind.i64
 n_14,
 TV.bytes (32 : Nat)
 b_3,
 TV.str s_3]))
 fun (h_10 : Array Obj) ↦
 wok h_10 (Array.size h)
 (0 : Nat) (67 : Nat) ∧
 Vc.Bind
 (TV.put h_10
 (Array.size h)
 (0 : Nat)
 (TV.agg
 [TV.int
 IntKind.i64
 n_15,
 TV.bytes
 (32 : Nat)
 b_4,
 TV.int
 IntKind.i64
 n_16,
 TV.bytes
 (32 : Nat)
 b_5,
 TV.str s_4]))
 fun
 (h_11 : Array Obj) ↦
 J
 (some
 (Loc.mk
 (Array.size
 h_7)
 (0 : Nat)),
 some
 (Loc.mk
 (Array.size
 h_5)
 (0 : Nat)),
 some
 (Loc.mk
 (Array.size h)
 (0 : Nat)))
 h_11) ∧
 Vc.Bind
 (newTV h_6
 (TV.agg
 [TV.int IntKind.i64 (0 : Int),
 TV.bytes (32 : Nat) (Bs.zero (32 : Nat)),
 TV.int IntKind.i64 (0 : Int),
 TV.bytes (32 : Nat) (Bs.zero (32 : Nat)),
 TV.str []])
 (32 : Nat))
 fun (h_7 : Array Obj) ↦
 Ext h_6 h_7 ∧
 CallsH Try.prog (14 : Nat)
 (TVs.vals
 [TV.agg
 [TV.int IntKind.i64 n_8,
 TV.int IntKind.i64 n_9,
 TV.int IntKind.i64 n_10,
 TV.int IntKind.i64 n_11, TV.str s_2]])
 h_7 fun (v : Value) (h_8 : Array Obj) ↦
 ∃ (n_15 : Int),
 ∃ (b_4 : Bs (32 : Nat)),
 ∃ (n_16 : Int),
 ∃ (b_5 : Bs (32 : Nat)),
 ∃ (s_4 : List UInt8),
 v =
 TV.val
 (TV.agg
 [TV.int IntKind.i64 n_15,
 TV.bytes (32 : Nat) b_4,
 TV.int IntKind.i64 n_16,
 TV.bytes (32 : Nat) b_5,
 TV.str s_4]) ∧
 wok h_8 (Array.size h_6) (0 : Nat)
 (67 : Nat) ∧
 Vc.Bind
 (TV.put h_8 (Array.size h_6)
 (0 : Nat)
 (TV.agg
 [TV.int IntKind.i64 n,
 TV.bytes (32 : Nat) b,
 TV.int IntKind.i64 n_12,
 TV.bytes (32 : Nat) b_1,
 TV.str s]))
 fun (h_9 : Array Obj) ↦
 wok h_9 (Array.size h_5)
 (0 : Nat) (67 : Nat) ∧
 Vc.Bind
 (TV.put h_9
 (Array.size h_5)
 (0 : Nat)
 (TV.agg
 [TV.int IntKind.i64
 n_13,
 TV.bytes (32 : Nat)
 b_2,
 TV.int IntKind.i64
 n_14,
 TV.bytes (32 : Nat)
 b_3,
 TV.str s_3]))
 fun (h_10 : Array Obj) ↦
 wok h_10 (Array.size h)
 (0 : Nat) (67 : Nat) ∧
 Vc.Bind
 (TV.put h_10
 (Array.size h)
 (0 : Nat)
 (TV.agg
 [TV.int
 IntKind.i64
 n_15,
 TV.bytes
 (32 : Nat)
 b_4,
 TV.int
 IntKind.i64
 n_16,
 TV.bytes
 (32 : Nat)
 b_5,
 TV.str s_4]))
 fun
 (h_11 : Array Obj) ↦
 J
 (some
 (Loc.mk
 (Array.size
 h_6)
 (0 : Nat)),
 some
 (Loc.mk
 (Array.size
 h_5)
 (0 : Nat)),
 some
 (Loc.mk
 (Array.size h)
 (0 : Nat)))
 h_11) ∧
 Vc.Bind
 (newTV h_5
 (TV.agg
 [TV.int IntKind.i64 (0 : Int),
 TV.bytes (32 : Nat) (Bs.zero (32 : Nat)),
 TV.int IntKind.i64 (0 : Int),
 TV.bytes (32 : Nat) (Bs.zero (32 : Nat)), TV.str []])
 (32 : Nat))
 fun (h : Array Obj) ↦
 Ext h_5 h ∧
 (CallsH Try.prog (14 : Nat)
 (TVs.vals
 [TV.agg
 [TV.int IntKind.i64 n_8, TV.int IntKind.i64 n_9,
 TV.int IntKind.i64 n_10, TV.int IntKind.i64 n_11,
 TV.str s_2]])
 h fun (v : Value) (h : Array Obj) ↦
 ∃ (n_15 : Int),
 ∃ (b_4 : Bs (32 : Nat)),
 ∃ (n_16 : Int),
 ∃ (b_5 : Bs (32 : Nat)),
 ∃ (s_4 : List UInt8),
 v =
 TV.val
 (TV.agg
 [TV.int IntKind.i64 n_15,
 TV.bytes (32 : Nat) b_4,
 TV.int IntKind.i64 n_16,
 TV.bytes (32 : Nat) b_5,
 TV.str s_4]) ∧
 (Vc.Bind
 (newTV h
 (TV.agg
 [TV.int IntKind.i64 (0 : Int),
 TV.bytes (32 : Nat)
 (Bs.zero (32 : Nat)),
 TV.int IntKind.i64 (0 : Int),
 TV.bytes (32 : Nat)
 (Bs.zero (32 : Nat)),
 TV.str []])
 (32 : Nat))
 fun (h_6 : Array Obj) ↦
 Ext h h_6 ∧
 Vc.Bind
 (newTV h_6
 (TV.agg
 [TV.int IntKind.i64 (0 : Int),
 TV.bytes (32 : Nat)
 (Bs.zero (32 : Nat)),
 TV.int IntKind.i64 (0 : Int),
 TV.bytes (32 : Nat)
 (Bs.zero (32 : Nat)),
 TV.str []])
 (32 : Nat))
 fun (h_7 : Array Obj) ↦
 Ext h_6 h_7 ∧
 wok h_7 (Array.size h) (0 : Nat)
 (67 : Nat) ∧
 Vc.Bind
 (TV.put h_7 (Array.size h)
 (0 : Nat)
 (TV.agg
 [TV.int IntKind.i64 n,
 TV.bytes (32 : Nat) b,
 TV.int IntKind.i64 n_12,
 TV.bytes (32 : Nat) b_1,
 TV.str s]))
 fun (h_8 : Array Obj) ↦
 wok h_8 (Array.size h_6)
 (0 : Nat) (67 : Nat) ∧
 Vc.Bind
 (TV.put h_8 (Array.size h_6)
 (0 : Nat)
 (TV.agg
 [TV.int IntKind.i64
 n_13,
 TV.bytes (32 : Nat)
 b_2,
 TV.int IntKind.i64
 n_14,
 TV.bytes (32 : Nat)
 b_3,
 TV.str s_3]))
 fun (h_9 : Array Obj) ↦
 wok h_9 (Array.size h_5)
 (0 : Nat) (67 : Nat) ∧
 Vc.Bind
 (TV.put h_9
 (Array.size h_5)
 (0 : Nat)
 (TV.agg
 [TV.int IntKind.i64
 n_15,
 TV.bytes
 (32 : Nat) b_4,
 TV.int IntKind.i64
 n_16,
 TV.bytes
 (32 : Nat) b_5,
 TV.str s_4]))
 fun (h_10 : Array Obj) ↦
 J
 (some
 (Loc.mk
 (Array.size h)
 (0 : Nat)),
 some
 (Loc.mk
 (Array.size h_6)
 (0 : Nat)),
 some
 (Loc.mk
 (Array.size h_5)
 (0 : Nat)))
 h_10) ∧
 Vc.Bind
 (newTV h
 (TV.agg
 [TV.int IntKind.i64 (0 : Int),
 TV.bytes (32 : Nat)
 (Bs.zero (32 : Nat)),
 TV.int IntKind.i64 (0 : Int),
 TV.bytes (32 : Nat)
 (Bs.zero (32 : Nat)),
 TV.str []])
 (32 : Nat))
 fun (h_6 : Array Obj) ↦
 Ext h h_6 ∧
 Vc.Bind
 (newTV h_6
 (TV.agg
 [TV.int IntKind.i64 (0 : Int),
 TV.bytes (32 : Nat)
 (Bs.zero (32 : Nat)),
 TV.int IntKind.i64 (0 : Int),
 TV.bytes (32 : Nat)
 (Bs.zero (32 : Nat)),
 TV.str []])
 (32 : Nat))
 fun (h_7 : Array Obj) ↦
 Ext h_6 h_7 ∧
 wok h_7 (Array.size h_6) (0 : Nat)
 (67 : Nat) ∧
 Vc.Bind
 (TV.put h_7 (Array.size h_6)
 (0 : Nat)
 (TV.agg
 [TV.int IntKind.i64 n,
 TV.bytes (32 : Nat) b,
 TV.int IntKind.i64 n_12,
 TV.bytes (32 : Nat) b_1,
 TV.str s]))
 fun (h_8 : Array Obj) ↦
 wok h_8 (Array.size h) (0 : Nat)
 (67 : Nat) ∧
 Vc.Bind
 (TV.put h_8 (Array.size h)
 (0 : Nat)
 (TV.agg
 [TV.int IntKind.i64
 n_13,
 TV.bytes (32 : Nat)
 b_2,
 TV.int IntKind.i64
 n_14,
 TV.bytes (32 : Nat)
 b_3,
 TV.str s_3]))
 fun (h_9 : Array Obj) ↦
 wok h_9 (Array.size h_5)
 (0 : Nat) (67 : Nat) ∧
 Vc.Bind
 (TV.put h_9
 (Array.size h_5)
 (0 : Nat)
 (TV.agg
 [TV.int IntKind.i64
 n_15,
 TV.bytes
 (32 : Nat) b_4,
 TV.int IntKind.i64
 n_16,
 TV.bytes
 (32 : Nat) b_5,
 TV.str s_4]))
 fun (h_10 : Array Obj) ↦
 J
 (some
 (Loc.mk
 (Array.size h_6)
 (0 : Nat)),
 some
 (Loc.mk
 (Array.size h)
 (0 : Nat)),
 some
 (Loc.mk
 (Array.size h_5)
 (0 : Nat)))
 h_10) ∧
 (Vc.Bind
 (newTV h
 (TV.agg
 [TV.int IntKind.i64 (0 : Int),
 TV.bytes (32 : Nat) (Bs.zero (32 : Nat)),
 TV.int IntKind.i64 (0 : Int),
 TV.bytes (32 : Nat) (Bs.zero (32 : Nat)),
 TV.str []])
 (32 : Nat))
 fun (h_6 : Array Obj) ↦
 Ext h h_6 ∧
 (CallsH Try.prog (14 : Nat)
 (TVs.vals
 [TV.agg
 [TV.int IntKind.i64 n_8,
 TV.int IntKind.i64 n_9,
 TV.int IntKind.i64 n_10,
 TV.int IntKind.i64 n_11, TV.str s_2]])
 h_6 fun (v : Value) (h_7 : Array Obj) ↦
 ∃ (n_15 : Int),
 ∃ (b_4 : Bs (32 : Nat)),
 ∃ (n_16 : Int),
 ∃ (b_5 : Bs (32 : Nat)),
 ∃ (s_4 : List UInt8),
 v =
 TV.val
 (TV.agg
 [TV.int IntKind.i64 n_15,
 TV.bytes (32 : Nat) b_4,
 TV.int IntKind.i64 n_16,
 TV.bytes (32 : Nat) b_5,
 TV.str s_4]) ∧
 Vc.Bind
 (newTV h_7
 (TV.agg
 [TV.int IntKind.i64 (0 : Int),
 TV.bytes (32 : Nat)
 (Bs.zero (32 : Nat)),
 TV.int IntKind.i64 (0 : Int),
 TV.bytes (32 : Nat)
 (Bs.zero (32 : Nat)),
 TV.str []])
 (32 : Nat))
 fun (h_8 : Array Obj) ↦
 Ext h_7 h_8 ∧
 wok h_8 (Array.size h) (0 : Nat)
 (67 : Nat) ∧
 Vc.Bind
 (TV.put h_8 (Array.size h)
 (0 : Nat)
 (TV.agg
 [TV.int IntKind.i64 n,
 TV.bytes (32 : Nat) b,
 TV.int IntKind.i64 n_12,
 TV.bytes (32 : Nat) b_1,
 TV.str s]))
 fun (h_9 : Array Obj) ↦
 wok h_9 (Array.size h_7)
 (0 : Nat) (67 : Nat) ∧
 Vc.Bind
 (TV.put h_9
 (Array.size h_7)
 (0 : Nat)
 (TV.agg
 [TV.int IntKind.i64
 n_13,
 TV.bytes (32 : Nat)
 b_2,
 TV.int IntKind.i64
 n_14,
 TV.bytes (32 : Nat)
 b_3,
 TV.str s_3]))
 fun (h_10 : Array Obj) ↦
 wok h_10 (Array.size h_5)
 (0 : Nat) (67 : Nat) ∧
 Vc.Bind
 (TV.put h_10
 (Array.size h_5)
 (0 : Nat)
 (TV.agg
 [TV.int
 IntKind.i64
 n_15,
 TV.bytes
 (32 : Nat)
 b_4,
 TV.int
 IntKind.i64
 n_16,
 TV.bytes
 (32 : Nat)
 b_5,
 TV.str s_4]))
 fun
 (h_11 : Array Obj) ↦
 J
 (some
 (Loc.mk
 (Array.size h)
 (0 : Nat)),
 some
 (Loc.mk
 (Array.size
 h_7)
 (0 : Nat)),
 some
 (Loc.mk
 (Array.size
 h_5)
 (0 : Nat)))
 h_11) ∧
 Vc.Bind
 (newTV h_6
 (TV.agg
 [TV.int IntKind.i64 (0 : Int),
 TV.bytes (32 : Nat) (Bs.zero (32 : Nat)),
 TV.int IntKind.i64 (0 : Int),
 TV.bytes (32 : Nat) (Bs.zero (32 : Nat)),
 TV.str []])
 (32 : Nat))
 fun (h_7 : Array Obj) ↦
 Ext h_6 h_7 ∧
 CallsH Try.prog (14 : Nat)
 (TVs.vals
 [TV.agg
 [TV.int IntKind.i64 n_8,
 TV.int IntKind.i64 n_9,
 TV.int IntKind.i64 n_10,
 TV.int IntKind.i64 n_11, TV.str s_2]])
 h_7 fun (v : Value) (h_8 : Array Obj) ↦
 ∃ (n_15 : Int),
 ∃ (b_4 : Bs (32 : Nat)),
 ∃ (n_16 : Int),
 ∃ (b_5 : Bs (32 : Nat)),
 ∃ (s_4 : List UInt8),
 v =
 TV.val
 (TV.agg
 [TV.int IntKind.i64 n_15,
 TV.bytes (32 : Nat) b_4,
 TV.int IntKind.i64 n_16,
 TV.bytes (32 : Nat) b_5,
 TV.str s_4]) ∧
 wok h_8 (Array.size h) (0 : Nat)
 (67 : Nat) ∧
 Vc.Bind
 (TV.put h_8 (Array.size h)
 (0 : Nat)
 (TV.agg
 [TV.int IntKind.i64 n,
 TV.bytes (32 : Nat) b,
 TV.int IntKind.i64 n_12,
 TV.bytes (32 : Nat) b_1,
 TV.str s]))
 fun (h_9 : Array Obj) ↦
 wok h_9 (Array.size h_6)
 (0 : Nat) (67 : Nat) ∧
 Vc.Bind
 (TV.put h_9
 (Array.size h_6)
 (0 : Nat)
 (TV.agg
 [TV.int IntKind.i64
 n_13,
 TV.bytes (32 : Nat)
 b_2,
 TV.int IntKind.i64
 n_14,
 TV.bytes (32 : Nat)
 b_3,
 TV.str s_3]))
 fun (h_10 : Array Obj) ↦
 wok h_10 (Array.size h_5)
 (0 : Nat) (67 : Nat) ∧
 Vc.Bind
 (TV.put h_10
 (Array.size h_5)
 (0 : Nat)
 (TV.agg
 [TV.int
 IntKind.i64
 n_15,
 TV.bytes
 (32 : Nat)
 b_4,
 TV.int
 IntKind.i64
 n_16,
 TV.bytes
 (32 : Nat)
 b_5,
 TV.str s_4]))
 fun
 (h_11 : Array Obj) ↦
 J
 (some
 (Loc.mk
 (Array.size h)
 (0 : Nat)),
 some
 (Loc.mk
 (Array.size
 h_6)
 (0 : Nat)),
 some
 (Loc.mk
 (Array.size
 h_5)
 (0 : Nat)))
 h_11) ∧
 Vc.Bind
 (newTV h
 (TV.agg
 [TV.int IntKind.i64 (0 : Int),
 TV.bytes (32 : Nat) (Bs.zero (32 : Nat)),
 TV.int IntKind.i64 (0 : Int),
 TV.bytes (32 : Nat) (Bs.zero (32 : Nat)),
 TV.str []])
 (32 : Nat))
 fun (h_6 : Array Obj) ↦
 Ext h h_6 ∧
 (CallsH Try.prog (14 : Nat)
 (TVs.vals
 [TV.agg
 [TV.int IntKind.i64 n_8,
 TV.int IntKind.i64 n_9,
 TV.int IntKind.i64 n_10,
 TV.int IntKind.i64 n_11, TV.str s_2]])
 h_6 fun (v : Value) (h_7 : Array Obj) ↦
 ∃ (n_15 : Int),
 ∃ (b_4 : Bs (32 : Nat)),
 ∃ (n_16 : Int),
 ∃ (b_5 : Bs (32 : Nat)),
 ∃ (s_4 : List UInt8),
 v =
 TV.val
 (TV.agg
 [TV.int IntKind.i64 n_15,
 TV.bytes (32 : Nat) b_4,
 TV.int IntKind.i64 n_16,
 TV.bytes (32 : Nat) b_5,
 TV.str s_4]) ∧
 Vc.Bind
 (newTV h_7
 (TV.agg
 [TV.int IntKind.i64 (0 : Int),
 TV.bytes (32 : Nat)
 (Bs.zero (32 : Nat)),
 TV.int IntKind.i64 (0 : Int),
 TV.bytes (32 : Nat)
 (Bs.zero (32 : Nat)),
 TV.str []])
 (32 : Nat))
 fun (h_8 : Array Obj) ↦
 Ext h_7 h_8 ∧
 wok h_8 (Array.size h_7) (0 : Nat)
 (67 : Nat) ∧
 Vc.Bind
 (TV.put h_8 (Array.size h_7)
 (0 : Nat)
 (TV.agg
 [TV.int IntKind.i64 n,
 TV.bytes (32 : Nat) b,
 TV.int IntKind.i64 n_12,
 TV.bytes (32 : Nat) b_1,
 TV.str s]))
 fun (h_9 : Array Obj) ↦
 wok h_9 (Array.size h)
 (0 : Nat) (67 : Nat) ∧
 Vc.Bind
 (TV.put h_9 (Array.size h)
 (0 : Nat)
 (TV.agg
 [TV.int IntKind.i64
 n_13,
 TV.bytes (32 : Nat)
 b_2,
 TV.int IntKind.i64
 n_14,
 TV.bytes (32 : Nat)
 b_3,
 TV.str s_3]))
 fun (h_10 : Array Obj) ↦
 wok h_10 (Array.size h_5)
 (0 : Nat) (67 : Nat) ∧
 Vc.Bind
 (TV.put h_10
 (Array.size h_5)
 (0 : Nat)
 (TV.agg
 [TV.int
 IntKind.i64
 n_15,
 TV.bytes
 (32 : Nat)
 b_4,
 TV.int
 IntKind.i64
 n_16,
 TV.bytes
 (32 : Nat)
 b_5,
 TV.str s_4]))
 fun
 (h_11 : Array Obj) ↦
 J
 (some
 (Loc.mk
 (Array.size
 h_7)
 (0 : Nat)),
 some
 (Loc.mk
 (Array.size h)
 (0 : Nat)),
 some
 (Loc.mk
 (Array.size
 h_5)
 (0 : Nat)))
 h_11) ∧
 Vc.Bind
 (newTV h_6
 (TV.agg
 [TV.int IntKind.i64 (0 : Int),
 TV.bytes (32 : Nat) (Bs.zero (32 : Nat)),
 TV.int IntKind.i64 (0 : Int),
 TV.bytes (32 : Nat) (Bs.zero (32 : Nat)),
 TV.str []])
 (32 : Nat))
 fun (h_7 : Array Obj) ↦
 Ext h_6 h_7 ∧
 CallsH Try.prog (14 : Nat)
 (TVs.vals
 [TV.agg
 [TV.int IntKind.i64 n_8,
 TV.int IntKind.i64 n_9,
 TV.int IntKind.i64 n_10,
 TV.int IntKind.i64 n_11, TV.str s_2]])
 h_7 fun (v : Value) (h_8 : Array Obj) ↦
 ∃ (n_15 : Int),
 ∃ (b_4 : Bs (32 : Nat)),
 ∃ (n_16 : Int),
 ∃ (b_5 : Bs (32 : Nat)),
 ∃ (s_4 : List UInt8),
 v =
 TV.val
 (TV.agg
 [TV.int IntKind.i64 n_15,
 TV.bytes (32 : Nat) b_4,
 TV.int IntKind.i64 n_16,
 TV.bytes (32 : Nat) b_5,
 TV.str s_4]) ∧
 wok h_8 (Array.size h_6) (0 : Nat)
 (67 : Nat) ∧
 Vc.Bind
 (TV.put h_8 (Array.size h_6)
 (0 : Nat)
 (TV.agg
 [TV.int IntKind.i64 n,
 TV.bytes (32 : Nat) b,
 TV.int IntKind.i64 n_12,
 TV.bytes (32 : Nat) b_1,
 TV.str s]))
 fun (h_9 : Array Obj) ↦
 wok h_9 (Array.size h)
 (0 : Nat) (67 : Nat) ∧
 Vc.Bind
 (TV.put h_9 (Array.size h)
 (0 : Nat)
 (TV.agg
 [TV.int IntKind.i64
 n_13,
 TV.bytes (32 : Nat)
 b_2,
 TV.int IntKind.i64
 n_14,
 TV.bytes (32 : Nat)
 b_3,
 TV.str s_3]))
 fun (h_10 : Array Obj) ↦
 wok h_10 (Array.size h_5)
 (0 : Nat) (67 : Nat) ∧
 Vc.Bind
 (TV.put h_10
 (Array.size h_5)
 (0 : Nat)
 (TV.agg
 [TV.int
 IntKind.i64
 n_15,
 TV.bytes
 (32 : Nat)
 b_4,
 TV.int
 IntKind.i64
 n_16,
 TV.bytes
 (32 : Nat)
 b_5,
 TV.str s_4]))
 fun
 (h_11 : Array Obj) ↦
 J
 (some
 (Loc.mk
 (Array.size
 h_6)
 (0 : Nat)),
 some
 (Loc.mk
 (Array.size h)
 (0 : Nat)),
 some
 (Loc.mk
 (Array.size
 h_5)
 (0 : Nat)))
 h_11) ∧
 (Vc.Bind
 (newTV h
 (TV.agg
 [TV.int IntKind.i64 (0 : Int), TV.bytes (32 : Nat) (Bs.zero (32 : Nat)),
 TV.int IntKind.i64 (0 : Int), TV.bytes (32 : Nat) (Bs.zero (32 : Nat)),
 TV.str []])
 (32 : Nat))
 fun (h_5 : Array Obj) ↦
 Ext h h_5 ∧
 (CallsH Try.prog (14 : Nat)
 (TVs.vals
 [TV.agg
 [TV.int IntKind.i64 n_4, TV.int IntKind.i64 n_5, TV.int IntKind.i64 n_6,
 TV.int IntKind.i64 n_7, TV.str s_1]])
 h_5 fun (v : Value) (h_6 : Array Obj) ↦
 ∃ (n_13 : Int),
 ∃ (b_2 : Bs (32 : Nat)),
 ∃ (n_14 : Int),
 ∃ (b_3 : Bs (32 : Nat)),
 ∃ (s_3 : List UInt8),
 v =
 TV.val
 (TV.agg
 [TV.int IntKind.i64 n_13, TV.bytes (32 : Nat) b_2,
 TV.int IntKind.i64 n_14, TV.bytes (32 : Nat) b_3,
 TV.str s_3]) ∧
 Ext h_5 h_6 ∧
 (CallsH Try.prog (14 : Nat)
 (TVs.vals
 [TV.agg
 [TV.int IntKind.i64 n_8, TV.int IntKind.i64 n_9,
 TV.int IntKind.i64 n_10, TV.int IntKind.i64 n_11,
 TV.str s_2]])
 h_6 fun (v : Value) (h_7 : Array Obj) ↦
 ∃ (n_15 : Int),
 ∃ (b_4 : Bs (32 : Nat)),
 ∃ (n_16 : Int),
 ∃ (b_5 : Bs (32 : Nat)),
 ∃ (s_4 : List UInt8),
 v =
 TV.val
 (TV.agg
 [TV.int IntKind.i64 n_15,
 TV.bytes (32 : Nat) b_4,
 TV.int IntKind.i64 n_16,
 TV.bytes (32 : Nat) b_5, TV.str s_4]) ∧
 (Vc.Bind
 (newTV h_7
 (TV.agg
 [TV.int IntKind.i64 (0 : Int),
 TV.bytes (32 : Nat)
 (Bs.zero (32 : Nat)),
 TV.int IntKind.i64 (0 : Int),
 TV.bytes (32 : Nat)
 (Bs.zero (32 : Nat)),
 TV.str []])
 (32 : Nat))
 fun (h_8 : Array Obj) ↦
 Ext h_7 h_8 ∧
 Vc.Bind
 (newTV h_8
 (TV.agg
 [TV.int IntKind.i64 (0 : Int),
 TV.bytes (32 : Nat)
 (Bs.zero (32 : Nat)),
 TV.int IntKind.i64 (0 : Int),
 TV.bytes (32 : Nat)
 (Bs.zero (32 : Nat)),
 TV.str []])
 (32 : Nat))
 fun (h_9 : Array Obj) ↦
 Ext h_8 h_9 ∧
 wok h_9 (Array.size h) (0 : Nat)
 (67 : Nat) ∧
 Vc.Bind
 (TV.put h_9 (Array.size h)
 (0 : Nat)
 (TV.agg
 [TV.int IntKind.i64 n,
 TV.bytes (32 : Nat) b,
 TV.int IntKind.i64 n_12,
 TV.bytes (32 : Nat) b_1,
 TV.str s]))
 fun (h_10 : Array Obj) ↦
 wok h_10 (Array.size h_7)
 (0 : Nat) (67 : Nat) ∧
 Vc.Bind
 (TV.put h_10 (Array.size h_7)
 (0 : Nat)
 (TV.agg
 [TV.int IntKind.i64 n_13,
 TV.bytes (32 : Nat) b_2,
 TV.int IntKind.i64 n_14,
 TV.bytes (32 : Nat) b_3,
 TV.str s_3]))
 fun (h_11 : Array Obj) ↦
 wok h_11 (Array.size h_8)
 (0 : Nat) (67 : Nat) ∧
 Vc.Bind
 (TV.put h_11
 (Array.size h_8)
 (0 : Nat)
 (TV.agg
 [TV.int IntKind.i64
 n_15,
 TV.bytes (32 : Nat)
 b_4,
 TV.int IntKind.i64
 n_16,
 TV.bytes (32 : Nat)
 b_5,
 TV.str s_4]))
 fun (h_12 : Array Obj) ↦
 J
 (some
 (Loc.mk
 (Array.size h)
 (0 : Nat)),
 some
 (Loc.mk
 (Array.size h_7)
 (0 : Nat)),
 some
 (Loc.mk
 (Array.size h_8)
 (0 : Nat)))
 h_12) ∧
 Vc.Bind
 (newTV h_7
 (TV.agg
 [TV.int IntKind.i64 (0 : Int),
 TV.bytes (32 : Nat)
 (Bs.zero (32 : Nat)),
 TV.int IntKind.i64 (0 : Int),
 TV.bytes (32 : Nat)
 (Bs.zero (32 : Nat)),
 TV.str []])
 (32 : Nat))
 fun (h_8 : Array Obj) ↦
 Ext h_7 h_8 ∧
 Vc.Bind
 (newTV h_8
 (TV.agg
 [TV.int IntKind.i64 (0 : Int),
 TV.bytes (32 : Nat)
 (Bs.zero (32 : Nat)),
 TV.int IntKind.i64 (0 : Int),
 TV.bytes (32 : Nat)
 (Bs.zero (32 : Nat)),
 TV.str []])
 (32 : Nat))
 fun (h_9 : Array Obj) ↦
 Ext h_8 h_9 ∧
 wok h_9 (Array.size h) (0 : Nat)
 (67 : Nat) ∧
 Vc.Bind
 (TV.put h_9 (Array.size h)
 (0 : Nat)
 (TV.agg
 [TV.int IntKind.i64 n,
 TV.bytes (32 : Nat) b,
 TV.int IntKind.i64 n_12,
 TV.bytes (32 : Nat) b_1,
 TV.str s]))
 fun (h_10 : Array Obj) ↦
 wok h_10 (Array.size h_8)
 (0 : Nat) (67 : Nat) ∧
 Vc.Bind
 (TV.put h_10 (Array.size h_8)
 (0 : Nat)
 (TV.agg
 [TV.int IntKind.i64 n_13,
 TV.bytes (32 : Nat) b_2,
 TV.int IntKind.i64 n_14,
 TV.bytes (32 : Nat) b_3,
 TV.str s_3]))
 fun (h_11 : Array Obj) ↦
 wok h_11 (Array.size h_7)
 (0 : Nat) (67 : Nat) ∧
 Vc.Bind
 (TV.put h_11
 (Array.size h_7)
 (0 : Nat)
 (TV.agg
 [TV.int IntKind.i64
 n_15,
 TV.bytes (32 : Nat)
 b_4,
 TV.int IntKind.i64
 n_16,
 TV.bytes (32 : Nat)
 b_5,
 TV.str s_4]))
 fun (h_12 : Array Obj) ↦
 J
 (some
 (Loc.mk
 (Array.size h)
 (0 : Nat)),
 some
 (Loc.mk
 (Array.size h_8)
 (0 : Nat)),
 some
 (Loc.mk
 (Array.size h_7)
 (0 : Nat)))
 h_12) ∧
 (Vc.Bind
 (newTV h_6
 (TV.agg
 [TV.int IntKind.i64 (0 : Int),
 TV.bytes (32 : Nat) (Bs.zero (32 : Nat)),
 TV.int IntKind.i64 (0 : Int),
 TV.bytes (32 : Nat) (Bs.zero (32 : Nat)),
 TV.str []])
 (32 : Nat))
 fun (h_7 : Array Obj) ↦
 Ext h_6 h_7 ∧
 (CallsH Try.prog (14 : Nat)
 (TVs.vals
 [TV.agg
 [TV.int IntKind.i64 n_8,
 TV.int IntKind.i64 n_9,
 TV.int IntKind.i64 n_10,
 TV.int IntKind.i64 n_11, TV.str s_2]])
 h_7 fun (v : Value) (h_8 : Array Obj) ↦
 ∃ (n_15 : Int),
 ∃ (b_4 : Bs (32 : Nat)),
 ∃ (n_16 : Int),
 ∃ (b_5 : Bs (32 : Nat)),
 ∃ (s_4 : List UInt8),
 v =
 TV.val
 (TV.agg
 [TV.int IntKind.i64 n_15,
 TV.bytes (32 : Nat) b_4,
 TV.int IntKind.i64 n_16,
 TV.bytes (32 : Nat) b_5,
 TV.str s_4]) ∧
 Vc.Bind
 (newTV h_8
 (TV.agg
 [TV.int IntKind.i64 (0 : Int),
 TV.bytes (32 : Nat)
 (Bs.zero (32 : Nat)),
 TV.int IntKind.i64 (0 : Int),
 TV.bytes (32 : Nat)
 (Bs.zero (32 : Nat)),
 TV.str []])
 (32 : Nat))
 fun (h_9 : Array Obj) ↦
 Ext h_8 h_9 ∧
 wok h_9 (Array.size h) (0 : Nat)
 (67 : Nat) ∧
 Vc.Bind
 (TV.put h_9 (Array.size h)
 (0 : Nat)
 (TV.agg
 [TV.int IntKind.i64 n,
 TV.bytes (32 : Nat) b,
 TV.int IntKind.i64 n_12,
 TV.bytes (32 : Nat) b_1,
 TV.str s]))
 fun (h_10 : Array Obj) ↦
 wok h_10 (Array.size h_6)
 (0 : Nat) (67 : Nat) ∧
 Vc.Bind
 (TV.put h_10
 (Array.size h_6) (0 : Nat)
 (TV.agg
 [TV.int IntKind.i64
 n_13,
 TV.bytes (32 : Nat)
 b_2,
 TV.int IntKind.i64
 n_14,
 TV.bytes (32 : Nat)
 b_3,
 TV.str s_3]))
 fun (h_11 : Array Obj) ↦
 wok h_11 (Array.size h_8)
 (0 : Nat) (67 : Nat) ∧
 Vc.Bind
 (TV.put h_11
 (Array.size h_8)
 (0 : Nat)
 (TV.agg
 [TV.int IntKind.i64
 n_15,
 TV.bytes
 (32 : Nat) b_4,
 TV.int IntKind.i64
 n_16,
 TV.bytes
 (32 : Nat) b_5,
 TV.str s_4]))
 fun (h_12 : Array Obj) ↦
 J
 (some
 (Loc.mk
 (Array.size h)
 (0 : Nat)),
 some
 (Loc.mk
 (Array.size h_6)
 (0 : Nat)),
 some
 (Loc.mk
 (Array.size h_8)
 (0 : Nat)))
 h_12) ∧
 Vc.Bind
 (newTV h_7
 (TV.agg
 [TV.int IntKind.i64 (0 : Int),
 TV.bytes (32 : Nat) (Bs.zero (32 : Nat)),
 TV.int IntKind.i64 (0 : Int),
 TV.bytes (32 : Nat) (Bs.zero (32 : Nat)),
 TV.str []])
 (32 : Nat))
 fun (h_8 : Array Obj) ↦
 Ext h_7 h_8 ∧
 CallsH Try.prog (14 : Nat)
 (TVs.vals
 [TV.agg
 [TV.int IntKind.i64 n_8,
 TV.int IntKind.i64 n_9,
 TV.int IntKind.i64 n_10,
 TV.int IntKind.i64 n_11, TV.str s_2]])
 h_8 fun (v : Value) (h_9 : Array Obj) ↦
 ∃ (n_15 : Int),
 ∃ (b_4 : Bs (32 : Nat)),
 ∃ (n_16 : Int),
 ∃ (b_5 : Bs (32 : Nat)),
 ∃ (s_4 : List UInt8),
 v =
 TV.val
 (TV.agg
 [TV.int IntKind.i64 n_15,
 TV.bytes (32 : Nat) b_4,
 TV.int IntKind.i64 n_16,
 TV.bytes (32 : Nat) b_5,
 TV.str s_4]) ∧
 wok h_9 (Array.size h) (0 : Nat)
 (67 : Nat) ∧
 Vc.Bind
 (TV.put h_9 (Array.size h)
 (0 : Nat)
 (TV.agg
 [TV.int IntKind.i64 n,
 TV.bytes (32 : Nat) b,
 TV.int IntKind.i64 n_12,
 TV.bytes (32 : Nat) b_1,
 TV.str s]))
 fun (h_10 : Array Obj) ↦
 wok h_10 (Array.size h_6)
 (0 : Nat) (67 : Nat) ∧
 Vc.Bind
 (TV.put h_10
 (Array.size h_6) (0 : Nat)
 (TV.agg
 [TV.int IntKind.i64
 n_13,
 TV.bytes (32 : Nat)
 b_2,
 TV.int IntKind.i64
 n_14,
 TV.bytes (32 : Nat)
 b_3,
 TV.str s_3]))
 fun (h_11 : Array Obj) ↦
 wok h_11 (Array.size h_7)
 (0 : Nat) (67 : Nat) ∧
 Vc.Bind
 (TV.put h_11
 (Array.size h_7)
 (0 : Nat)
 (TV.agg
 [TV.int IntKind.i64
 n_15,
 TV.bytes
 (32 : Nat) b_4,
 TV.int IntKind.i64
 n_16,
 TV.bytes
 (32 : Nat) b_5,
 TV.str s_4]))
 fun (h_12 : Array Obj) ↦
 J
 (some
 (Loc.mk
 (Array.size h)
 (0 : Nat)),
 some
 (Loc.mk
 (Array.size h_6)
 (0 : Nat)),
 some
 (Loc.mk
 (Array.size h_7)
 (0 : Nat)))
 h_12) ∧
 Vc.Bind
 (newTV h_6
 (TV.agg
 [TV.int IntKind.i64 (0 : Int),
 TV.bytes (32 : Nat) (Bs.zero (32 : Nat)),
 TV.int IntKind.i64 (0 : Int),
 TV.bytes (32 : Nat) (Bs.zero (32 : Nat)),
 TV.str []])
 (32 : Nat))
 fun (h_7 : Array Obj) ↦
 Ext h_6 h_7 ∧
 (CallsH Try.prog (14 : Nat)
 (TVs.vals
 [TV.agg
 [TV.int IntKind.i64 n_8,
 TV.int IntKind.i64 n_9,
 TV.int IntKind.i64 n_10,
 TV.int IntKind.i64 n_11, TV.str s_2]])
 h_7 fun (v : Value) (h_8 : Array Obj) ↦
 ∃ (n_15 : Int),
 ∃ (b_4 : Bs (32 : Nat)),
 ∃ (n_16 : Int),
 ∃ (b_5 : Bs (32 : Nat)),
 ∃ (s_4 : List UInt8),
 v =
 TV.val
 (TV.agg
 [TV.int IntKind.i64 n_15,
 TV.bytes (32 : Nat) b_4,
 TV.int IntKind.i64 n_16,
 TV.bytes (32 : Nat) b_5,
 TV.str s_4]) ∧
 Vc.Bind
 (newTV h_8
 (TV.agg
 [TV.int IntKind.i64 (0 : Int),
 TV.bytes (32 : Nat)
 (Bs.zero (32 : Nat)),
 TV.int IntKind.i64 (0 : Int),
 TV.bytes (32 : Nat)
 (Bs.zero (32 : Nat)),
 TV.str []])
 (32 : Nat))
 fun (h_9 : Array Obj) ↦
 Ext h_8 h_9 ∧
 wok h_9 (Array.size h) (0 : Nat)
 (67 : Nat) ∧
 Vc.Bind
 (TV.put h_9 (Array.size h)
 (0 : Nat)
 (TV.agg
 [TV.int IntKind.i64 n,
 TV.bytes (32 : Nat) b,
 TV.int IntKind.i64 n_12,
 TV.bytes (32 : Nat) b_1,
 TV.str s]))
 fun (h_10 : Array Obj) ↦
 wok h_10 (Array.size h_8)
 (0 : Nat) (67 : Nat) ∧
 Vc.Bind
 (TV.put h_10
 (Array.size h_8) (0 : Nat)
 (TV.agg
 [TV.int IntKind.i64
 n_13,
 TV.bytes (32 : Nat)
 b_2,
 TV.int IntKind.i64
 n_14,
 TV.bytes (32 : Nat)
 b_3,
 TV.str s_3]))
 fun (h_11 : Array Obj) ↦
 wok h_11 (Array.size h_6)
 (0 : Nat) (67 : Nat) ∧
 Vc.Bind
 (TV.put h_11
 (Array.size h_6)
 (0 : Nat)
 (TV.agg
 [TV.int IntKind.i64
 n_15,
 TV.bytes
 (32 : Nat) b_4,
 TV.int IntKind.i64
 n_16,
 TV.bytes
 (32 : Nat) b_5,
 TV.str s_4]))
 fun (h_12 : Array Obj) ↦
 J
 (some
 (Loc.mk
 (Array.size h)
 (0 : Nat)),
 some
 (Loc.mk
 (Array.size h_8)
 (0 : Nat)),
 some
 (Loc.mk
 (Array.size h_6)
 (0 : Nat)))
 h_12) ∧
 Vc.Bind
 (newTV h_7
 (TV.agg
 [TV.int IntKind.i64 (0 : Int),
 TV.bytes (32 : Nat) (Bs.zero (32 : Nat)),
 TV.int IntKind.i64 (0 : Int),
 TV.bytes (32 : Nat) (Bs.zero (32 : Nat)),
 TV.str []])
 (32 : Nat))
 fun (h_8 : Array Obj) ↦
 Ext h_7 h_8 ∧
 CallsH Try.prog (14 : Nat)
 (TVs.vals
 [TV.agg
 [TV.int IntKind.i64 n_8,
 TV.int IntKind.i64 n_9,
 TV.int IntKind.i64 n_10,
 TV.int IntKind.i64 n_11, TV.str s_2]])
 h_8 fun (v : Value) (h_9 : Array Obj) ↦
 ∃ (n_15 : Int),
 ∃ (b_4 : Bs (32 : Nat)),
 ∃ (n_16 : Int),
 ∃ (b_5 : Bs (32 : Nat)),
 ∃ (s_4 : List UInt8),
 v =
 TV.val
 (TV.agg
 [TV.int IntKind.i64 n_15,
 TV.bytes (32 : Nat) b_4,
 TV.int IntKind.i64 n_16,
 TV.bytes (32 : Nat) b_5,
 TV.str s_4]) ∧
 wok h_9 (Array.size h) (0 : Nat)
 (67 : Nat) ∧
 Vc.Bind
 (TV.put h_9 (Array.size h)
 (0 : Nat)
 (TV.agg
 [TV.int IntKind.i64 n,
 TV.bytes (32 : Nat) b,
 TV.int IntKind.i64 n_12,
 TV.bytes (32 : Nat) b_1,
 TV.str s]))
 fun (h_10 : Array Obj) ↦
 wok h_10 (Array.size h_7)
 (0 : Nat) (67 : Nat) ∧
 Vc.Bind
 (TV.put h_10
 (Array.size h_7) (0 : Nat)
 (TV.agg
 [TV.int IntKind.i64
 n_13,
 TV.bytes (32 : Nat)
 b_2,
 TV.int IntKind.i64
 n_14,
 TV.bytes (32 : Nat)
 b_3,
 TV.str s_3]))
 fun (h_11 : Array Obj) ↦
 wok h_11 (Array.size h_6)
 (0 : Nat) (67 : Nat) ∧
 Vc.Bind
 (TV.put h_11
 (Array.size h_6)
 (0 : Nat)
 (TV.agg
 [TV.int IntKind.i64
 n_15,
 TV.bytes
 (32 : Nat) b_4,
 TV.int IntKind.i64
 n_16,
 TV.bytes
 (32 : Nat) b_5,
 TV.str s_4]))
 fun (h_12 : Array Obj) ↦
 J
 (some
 (Loc.mk
 (Array.size h)
 (0 : Nat)),
 some
 (Loc.mk
 (Array.size h_7)
 (0 : Nat)),
 some
 (Loc.mk
 (Array.size h_6)
 (0 : Nat)))
 h_12) ∧
 (Vc.Bind
 (newTV h_5
 (TV.agg
 [TV.int IntKind.i64 (0 : Int), TV.bytes (32 : Nat) (Bs.zero (32 : Nat)),
 TV.int IntKind.i64 (0 : Int),
 TV.bytes (32 : Nat) (Bs.zero (32 : Nat)), TV.str []])
 (32 : Nat))
 fun (h_6 : Array Obj) ↦
 Ext h_5 h_6 ∧
 (CallsH Try.prog (14 : Nat)
 (TVs.vals
 [TV.agg
 [TV.int IntKind.i64 n_4, TV.int IntKind.i64 n_5,
 TV.int IntKind.i64 n_6, TV.int IntKind.i64 n_7, TV.str s_1]])
 h_6 fun (v : Value) (h_7 : Array Obj) ↦
 ∃ (n_13 : Int),
 ∃ (b_2 : Bs (32 : Nat)),
 ∃ (n_14 : Int),
 ∃ (b_3 : Bs (32 : Nat)),
 ∃ (s_3 : List UInt8),
 v =
 TV.val
 (TV.agg
 [TV.int IntKind.i64 n_13, TV.bytes (32 : Nat) b_2,
 TV.int IntKind.i64 n_14, TV.bytes (32 : Nat) b_3,
 TV.str s_3]) ∧
 Ext h_6 h_7 ∧
 (CallsH Try.prog (14 : Nat)
 (TVs.vals
 [TV.agg
 [TV.int IntKind.i64 n_8,
 TV.int IntKind.i64 n_9,
 TV.int IntKind.i64 n_10,
 TV.int IntKind.i64 n_11, TV.str s_2]])
 h_7 fun (v : Value) (h_8 : Array Obj) ↦
 ∃ (n_15 : Int),
 ∃ (b_4 : Bs (32 : Nat)),
 ∃ (n_16 : Int),
 ∃ (b_5 : Bs (32 : Nat)),
 ∃ (s_4 : List UInt8),
 v =
 TV.val
 (TV.agg
 [TV.int IntKind.i64 n_15,
 TV.bytes (32 : Nat) b_4,
 TV.int IntKind.i64 n_16,
 TV.bytes (32 : Nat) b_5,
 TV.str s_4]) ∧
 Vc.Bind
 (newTV h_8
 (TV.agg
 [TV.int IntKind.i64 (0 : Int),
 TV.bytes (32 : Nat)
 (Bs.zero (32 : Nat)),
 TV.int IntKind.i64 (0 : Int),
 TV.bytes (32 : Nat)
 (Bs.zero (32 : Nat)),
 TV.str []])
 (32 : Nat))
 fun (h_9 : Array Obj) ↦
 Ext h_8 h_9 ∧
 wok h_9 (Array.size h) (0 : Nat)
 (67 : Nat) ∧
 Vc.Bind
 (TV.put h_9 (Array.size h)
 (0 : Nat)
 (TV.agg
 [TV.int IntKind.i64 n,
 TV.bytes (32 : Nat) b,
 TV.int IntKind.i64 n_12,
 TV.bytes (32 : Nat) b_1,
 TV.str s]))
 fun (h_10 : Array Obj) ↦
 wok h_10 (Array.size h_5)
 (0 : Nat) (67 : Nat) ∧
 Vc.Bind
 (TV.put h_10
 (Array.size h_5) (0 : Nat)
 (TV.agg
 [TV.int IntKind.i64
 n_13,
 TV.bytes (32 : Nat)
 b_2,
 TV.int IntKind.i64
 n_14,
 TV.bytes (32 : Nat)
 b_3,
 TV.str s_3]))
 fun (h_11 : Array Obj) ↦
 wok h_11 (Array.size h_8)
 (0 : Nat) (67 : Nat) ∧
 Vc.Bind
 (TV.put h_11
 (Array.size h_8)
 (0 : Nat)
 (TV.agg
 [TV.int IntKind.i64
 n_15,
 TV.bytes
 (32 : Nat) b_4,
 TV.int IntKind.i64
 n_16,
 TV.bytes
 (32 : Nat) b_5,
 TV.str s_4]))
 fun (h_12 : Array Obj) ↦
 J
 (some
 (Loc.mk
 (Array.size h)
 (0 : Nat)),
 some
 (Loc.mk
 (Array.size h_5)
 (0 : Nat)),
 some
 (Loc.mk
 (Array.size h_8)
 (0 : Nat)))
 h_12) ∧
 Vc.Bind
 (newTV h_7
 (TV.agg
 [TV.int IntKind.i64 (0 : Int),
 TV.bytes (32 : Nat) (Bs.zero (32 : Nat)),
 TV.int IntKind.i64 (0 : Int),
 TV.bytes (32 : Nat) (Bs.zero (32 : Nat)),
 TV.str []])
 (32 : Nat))
 fun (h_8 : Array Obj) ↦
 Ext h_7 h_8 ∧
 CallsH Try.prog (14 : Nat)
 (TVs.vals
 [TV.agg
 [TV.int IntKind.i64 n_8,
 TV.int IntKind.i64 n_9,
 TV.int IntKind.i64 n_10,
 TV.int IntKind.i64 n_11, TV.str s_2]])
 h_8 fun (v : Value) (h_9 : Array Obj) ↦
 ∃ (n_15 : Int),
 ∃ (b_4 : Bs (32 : Nat)),
 ∃ (n_16 : Int),
 ∃ (b_5 : Bs (32 : Nat)),
 ∃ (s_4 : List UInt8),
 v =
 TV.val
 (TV.agg
 [TV.int IntKind.i64 n_15,
 TV.bytes (32 : Nat) b_4,
 TV.int IntKind.i64 n_16,
 TV.bytes (32 : Nat) b_5,
 TV.str s_4]) ∧
 wok h_9 (Array.size h) (0 : Nat)
 (67 : Nat) ∧
 Vc.Bind
 (TV.put h_9 (Array.size h)
 (0 : Nat)
 (TV.agg
 [TV.int IntKind.i64 n,
 TV.bytes (32 : Nat) b,
 TV.int IntKind.i64 n_12,
 TV.bytes (32 : Nat) b_1,
 TV.str s]))
 fun (h_10 : Array Obj) ↦
 wok h_10 (Array.size h_5)
 (0 : Nat) (67 : Nat) ∧
 Vc.Bind
 (TV.put h_10
 (Array.size h_5) (0 : Nat)
 (TV.agg
 [TV.int IntKind.i64
 n_13,
 TV.bytes (32 : Nat)
 b_2,
 TV.int IntKind.i64
 n_14,
 TV.bytes (32 : Nat)
 b_3,
 TV.str s_3]))
 fun (h_11 : Array Obj) ↦
 wok h_11 (Array.size h_7)
 (0 : Nat) (67 : Nat) ∧
 Vc.Bind
 (TV.put h_11
 (Array.size h_7)
 (0 : Nat)
 (TV.agg
 [TV.int IntKind.i64
 n_15,
 TV.bytes
 (32 : Nat) b_4,
 TV.int IntKind.i64
 n_16,
 TV.bytes
 (32 : Nat) b_5,
 TV.str s_4]))
 fun (h_12 : Array Obj) ↦
 J
 (some
 (Loc.mk
 (Array.size h)
 (0 : Nat)),
 some
 (Loc.mk
 (Array.size h_5)
 (0 : Nat)),
 some
 (Loc.mk
 (Array.size h_7)
 (0 : Nat)))
 h_12) ∧
 Vc.Bind
 (newTV h_6
 (TV.agg
 [TV.int IntKind.i64 (0 : Int),
 TV.bytes (32 : Nat) (Bs.zero (32 : Nat)),
 TV.int IntKind.i64 (0 : Int),
 TV.bytes (32 : Nat) (Bs.zero (32 : Nat)), TV.str []])
 (32 : Nat))
 fun (h_7 : Array Obj) ↦
 Ext h_6 h_7 ∧
 CallsH Try.prog (14 : Nat)
 (TVs.vals
 [TV.agg
 [TV.int IntKind.i64 n_4, TV.int IntKind.i64 n_5,
 TV.int IntKind.i64 n_6, TV.int IntKind.i64 n_7,
 TV.str s_1]])
 h_7 fun (v : Value) (h_8 : Array Obj) ↦
 ∃ (n_13 : Int),
 ∃ (b_2 : Bs (32 : Nat)),
 ∃ (n_14 : Int),
 ∃ (b_3 : Bs (32 : Nat)),
 ∃ (s_3 : List UInt8),
 v =
 TV.val
 (TV.agg
 [TV.int IntKind.i64 n_13,
 TV.bytes (32 : Nat) b_2,
 TV.int IntKind.i64 n_14,
 TV.bytes (32 : Nat) b_3, TV.str s_3]) ∧
 Ext h_7 h_8 ∧
 CallsH Try.prog (14 : Nat)
 (TVs.vals
 [TV.agg
 [TV.int IntKind.i64 n_8,
 TV.int IntKind.i64 n_9,
 TV.int IntKind.i64 n_10,
 TV.int IntKind.i64 n_11, TV.str s_2]])
 h_8 fun (v : Value) (h_9 : Array Obj) ↦
 ∃ (n_15 : Int),
 ∃ (b_4 : Bs (32 : Nat)),
 ∃ (n_16 : Int),
 ∃ (b_5 : Bs (32 : Nat)),
 ∃ (s_4 : List UInt8),
 v =
 TV.val
 (TV.agg
 [TV.int IntKind.i64 n_15,
 TV.bytes (32 : Nat) b_4,
 TV.int IntKind.i64 n_16,
 TV.bytes (32 : Nat) b_5,
 TV.str s_4]) ∧
 wok h_9 (Array.size h) (0 : Nat)
 (67 : Nat) ∧
 Vc.Bind
 (TV.put h_9 (Array.size h)
 (0 : Nat)
 (TV.agg
 [TV.int IntKind.i64 n,
 TV.bytes (32 : Nat) b,
 TV.int IntKind.i64 n_12,
 TV.bytes (32 : Nat) b_1,
 TV.str s]))
 fun (h_10 : Array Obj) ↦
 wok h_10 (Array.size h_5)
 (0 : Nat) (67 : Nat) ∧
 Vc.Bind
 (TV.put h_10 (Array.size h_5)
 (0 : Nat)
 (TV.agg
 [TV.int IntKind.i64 n_13,
 TV.bytes (32 : Nat) b_2,
 TV.int IntKind.i64 n_14,
 TV.bytes (32 : Nat) b_3,
 TV.str s_3]))
 fun (h_11 : Array Obj) ↦
 wok h_11 (Array.size h_6)
 (0 : Nat) (67 : Nat) ∧
 Vc.Bind
 (TV.put h_11
 (Array.size h_6)
 (0 : Nat)
 (TV.agg
 [TV.int IntKind.i64
 n_15,
 TV.bytes (32 : Nat)
 b_4,
 TV.int IntKind.i64
 n_16,
 TV.bytes (32 : Nat)
 b_5,
 TV.str s_4]))
 fun (h_12 : Array Obj) ↦
 J
 (some
 (Loc.mk
 (Array.size h)
 (0 : Nat)),
 some
 (Loc.mk
 (Array.size h_5)
 (0 : Nat)),
 some
 (Loc.mk
 (Array.size h_6)
 (0 : Nat)))
 h_12) ∧
 Vc.Bind
 (newTV h_5
 (TV.agg
 [TV.int IntKind.i64 (0 : Int), TV.bytes (32 : Nat) (Bs.zero (32 : Nat)),
 TV.int IntKind.i64 (0 : Int),
 TV.bytes (32 : Nat) (Bs.zero (32 : Nat)), TV.str []])
 (32 : Nat))
 fun (h_6 : Array Obj) ↦
 Ext h_5 h_6 ∧
 (CallsH Try.prog (14 : Nat)
 (TVs.vals
 [TV.agg
 [TV.int IntKind.i64 n_4, TV.int IntKind.i64 n_5,
 TV.int IntKind.i64 n_6, TV.int IntKind.i64 n_7, TV.str s_1]])
 h_6 fun (v : Value) (h_7 : Array Obj) ↦
 ∃ (n_13 : Int),
 ∃ (b_2 : Bs (32 : Nat)),
 ∃ (n_14 : Int),
 ∃ (b_3 : Bs (32 : Nat)),
 ∃ (s_3 : List UInt8),
 v =
 TV.val
 (TV.agg
 [TV.int IntKind.i64 n_13, TV.bytes (32 : Nat) b_2,
 TV.int IntKind.i64 n_14, TV.bytes (32 : Nat) b_3,
 TV.str s_3]) ∧
 Ext h_6 h_7 ∧
 (CallsH Try.prog (14 : Nat)
 (TVs.vals
 [TV.agg
 [TV.int IntKind.i64 n_8,
 TV.int IntKind.i64 n_9,
 TV.int IntKind.i64 n_10,
 TV.int IntKind.i64 n_11, TV.str s_2]])
 h_7 fun (v : Value) (h_8 : Array Obj) ↦
 ∃ (n_15 : Int),
 ∃ (b_4 : Bs (32 : Nat)),
 ∃ (n_16 : Int),
 ∃ (b_5 : Bs (32 : Nat)),
 ∃ (s_4 : List UInt8),
 v =
 TV.val
 (TV.agg
 [TV.int IntKind.i64 n_15,
 TV.bytes (32 : Nat) b_4,
 TV.int IntKind.i64 n_16,
 TV.bytes (32 : Nat) b_5,
 TV.str s_4]) ∧
 Vc.Bind
 (newTV h_8
 (TV.agg
 [TV.int IntKind.i64 (0 : Int),
 TV.bytes (32 : Nat)
 (Bs.zero (32 : Nat)),
 TV.int IntKind.i64 (0 : Int),
 TV.bytes (32 : Nat)
 (Bs.zero (32 : Nat)),
 TV.str []])
 (32 : Nat))
 fun (h_9 : Array Obj) ↦
 Ext h_8 h_9 ∧
 wok h_9 (Array.size h) (0 : Nat)
 (67 : Nat) ∧
 Vc.Bind
 (TV.put h_9 (Array.size h)
 (0 : Nat)
 (TV.agg
 [TV.int IntKind.i64 n,
 TV.bytes (32 : Nat) b,
 TV.int IntKind.i64 n_12,
 TV.bytes (32 : Nat) b_1,
 TV.str s]))
 fun (h_10 : Array Obj) ↦
 wok h_10 (Array.size h_8)
 (0 : Nat) (67 : Nat) ∧
 Vc.Bind
 (TV.put h_10
 (Array.size h_8) (0 : Nat)
 (TV.agg
 [TV.int IntKind.i64
 n_13,
 TV.bytes (32 : Nat)
 b_2,
 TV.int IntKind.i64
 n_14,
 TV.bytes (32 : Nat)
 b_3,
 TV.str s_3]))
 fun (h_11 : Array Obj) ↦
 wok h_11 (Array.size h_5)
 (0 : Nat) (67 : Nat) ∧
 Vc.Bind
 (TV.put h_11
 (Array.size h_5)
 (0 : Nat)
 (TV.agg
 [TV.int IntKind.i64
 n_15,
 TV.bytes
 (32 : Nat) b_4,
 TV.int IntKind.i64
 n_16,
 TV.bytes
 (32 : Nat) b_5,
 TV.str s_4]))
 fun (h_12 : Array Obj) ↦
 J
 (some
 (Loc.mk
 (Array.size h)
 (0 : Nat)),
 some
 (Loc.mk
 (Array.size h_8)
 (0 : Nat)),
 some
 (Loc.mk
 (Array.size h_5)
 (0 : Nat)))
 h_12) ∧
 Vc.Bind
 (newTV h_7
 (TV.agg
 [TV.int IntKind.i64 (0 : Int),
 TV.bytes (32 : Nat) (Bs.zero (32 : Nat)),
 TV.int IntKind.i64 (0 : Int),
 TV.bytes (32 : Nat) (Bs.zero (32 : Nat)),
 TV.str []])
 (32 : Nat))
 fun (h_8 : Array Obj) ↦
 Ext h_7 h_8 ∧
 CallsH Try.prog (14 : Nat)
 (TVs.vals
 [TV.agg
 [TV.int IntKind.i64 n_8,
 TV.int IntKind.i64 n_9,
 TV.int IntKind.i64 n_10,
 TV.int IntKind.i64 n_11, TV.str s_2]])
 h_8 fun (v : Value) (h_9 : Array Obj) ↦
 ∃ (n_15 : Int),
 ∃ (b_4 : Bs (32 : Nat)),
 ∃ (n_16 : Int),
 ∃ (b_5 : Bs (32 : Nat)),
 ∃ (s_4 : List UInt8),
 v =
 TV.val
 (TV.agg
 [TV.int IntKind.i64 n_15,
 TV.bytes (32 : Nat) b_4,
 TV.int IntKind.i64 n_16,
 TV.bytes (32 : Nat) b_5,
 TV.str s_4]) ∧
 wok h_9 (Array.size h) (0 : Nat)
 (67 : Nat) ∧
 Vc.Bind
 (TV.put h_9 (Array.size h)
 (0 : Nat)
 (TV.agg
 [TV.int IntKind.i64 n,
 TV.bytes (32 : Nat) b,
 TV.int IntKind.i64 n_12,
 TV.bytes (32 : Nat) b_1,
 TV.str s]))
 fun (h_10 : Array Obj) ↦
 wok h_10 (Array.size h_7)
 (0 : Nat) (67 : Nat) ∧
 Vc.Bind
 (TV.put h_10
 (Array.size h_7) (0 : Nat)
 (TV.agg
 [TV.int IntKind.i64
 n_13,
 TV.bytes (32 : Nat)
 b_2,
 TV.int IntKind.i64
 n_14,
 TV.bytes (32 : Nat)
 b_3,
 TV.str s_3]))
 fun (h_11 : Array Obj) ↦
 wok h_11 (Array.size h_5)
 (0 : Nat) (67 : Nat) ∧
 Vc.Bind
 (TV.put h_11
 (Array.size h_5)
 (0 : Nat)
 (TV.agg
 [TV.int IntKind.i64
 n_15,
 TV.bytes
 (32 : Nat) b_4,
 TV.int IntKind.i64
 n_16,
 TV.bytes
 (32 : Nat) b_5,
 TV.str s_4]))
 fun (h_12 : Array Obj) ↦
 J
 (some
 (Loc.mk
 (Array.size h)
 (0 : Nat)),
 some
 (Loc.mk
 (Array.size h_7)
 (0 : Nat)),
 some
 (Loc.mk
 (Array.size h_5)
 (0 : Nat)))
 h_12) ∧
 Vc.Bind
 (newTV h_6
 (TV.agg
 [TV.int IntKind.i64 (0 : Int),
 TV.bytes (32 : Nat) (Bs.zero (32 : Nat)),
 TV.int IntKind.i64 (0 : Int),
 TV.bytes (32 : Nat) (Bs.zero (32 : Nat)), TV.str []])
 (32 : Nat))
 fun (h_7 : Array Obj) ↦
 Ext h_6 h_7 ∧
 CallsH Try.prog (14 : Nat)
 (TVs.vals
 [TV.agg
 [TV.int IntKind.i64 n_4, TV.int IntKind.i64 n_5,
 TV.int IntKind.i64 n_6, TV.int IntKind.i64 n_7,
 TV.str s_1]])
 h_7 fun (v : Value) (h_8 : Array Obj) ↦
 ∃ (n_13 : Int),
 ∃ (b_2 : Bs (32 : Nat)),
 ∃ (n_14 : Int),
 ∃ (b_3 : Bs (32 : Nat)),
 ∃ (s_3 : List UInt8),
 v =
 TV.val
 (TV.agg
 [TV.int IntKind.i64 n_13,
 TV.bytes (32 : Nat) b_2,
 TV.int IntKind.i64 n_14,
 TV.bytes (32 : Nat) b_3, TV.str s_3]) ∧
 Ext h_7 h_8 ∧
 CallsH Try.prog (14 : Nat)
 (TVs.vals
 [TV.agg
 [TV.int IntKind.i64 n_8,
 TV.int IntKind.i64 n_9,
 TV.int IntKind.i64 n_10,
 TV.int IntKind.i64 n_11, TV.str s_2]])
 h_8 fun (v : Value) (h_9 : Array Obj) ↦
 ∃ (n_15 : Int),
 ∃ (b_4 : Bs (32 : Nat)),
 ∃ (n_16 : Int),
 ∃ (b_5 : Bs (32 : Nat)),
 ∃ (s_4 : List UInt8),
 v =
 TV.val
 (TV.agg
 [TV.int IntKind.i64 n_15,
 TV.bytes (32 : Nat) b_4,
 TV.int IntKind.i64 n_16,
 TV.bytes (32 : Nat) b_5,
 TV.str s_4]) ∧
 wok h_9 (Array.size h) (0 : Nat)
 (67 : Nat) ∧
 Vc.Bind
 (TV.put h_9 (Array.size h)
 (0 : Nat)
 (TV.agg
 [TV.int IntKind.i64 n,
 TV.bytes (32 : Nat) b,
 TV.int IntKind.i64 n_12,
 TV.bytes (32 : Nat) b_1,
 TV.str s]))
 fun (h_10 : Array Obj) ↦
 wok h_10 (Array.size h_6)
 (0 : Nat) (67 : Nat) ∧
 Vc.Bind
 (TV.put h_10 (Array.size h_6)
 (0 : Nat)
 (TV.agg
 [TV.int IntKind.i64 n_13,
 TV.bytes (32 : Nat) b_2,
 TV.int IntKind.i64 n_14,
 TV.bytes (32 : Nat) b_3,
 TV.str s_3]))
 fun (h_11 : Array Obj) ↦
 wok h_11 (Array.size h_5)
 (0 : Nat) (67 : Nat) ∧
 Vc.Bind
 (TV.put h_11
 (Array.size h_5)
 (0 : Nat)
 (TV.agg
 [TV.int IntKind.i64
 n_15,
 TV.bytes (32 : Nat)
 b_4,
 TV.int IntKind.i64
 n_16,
 TV.bytes (32 : Nat)
 b_5,
 TV.str s_4]))
 fun (h_12 : Array Obj) ↦
 J
 (some
 (Loc.mk
 (Array.size h)
 (0 : Nat)),
 some
 (Loc.mk
 (Array.size h_6)
 (0 : Nat)),
 some
 (Loc.mk
 (Array.size h_5)
 (0 : Nat)))
 h_12) ∧
 (Vc.Bind
 (newTV h
 (TV.agg
 [TV.int IntKind.i64 (0 : Int), TV.bytes (32 : Nat) (Bs.zero (32 : Nat)),
 TV.int IntKind.i64 (0 : Int), TV.bytes (32 : Nat) (Bs.zero (32 : Nat)),
 TV.str []])
 (32 : Nat))
 fun (h_5 : Array Obj) ↦
 Ext h h_5 ∧
 (CallsH Try.prog (14 : Nat)
 (TVs.vals
 [TV.agg
 [TV.int IntKind.i64 n_4, TV.int IntKind.i64 n_5,
 TV.int IntKind.i64 n_6, TV.int IntKind.i64 n_7, TV.str s_1]])
 h_5 fun (v : Value) (h_6 : Array Obj) ↦
 ∃ (n_13 : Int),
 ∃ (b_2 : Bs (32 : Nat)),
 ∃ (n_14 : Int),
 ∃ (b_3 : Bs (32 : Nat)),
 ∃ (s_3 : List UInt8),
 v =
 TV.val
 (TV.agg
 [TV.int IntKind.i64 n_13, TV.bytes (32 : Nat) b_2,
 TV.int IntKind.i64 n_14, TV.bytes (32 : Nat) b_3,
 TV.str s_3]) ∧
 Ext h_5 h_6 ∧
 (CallsH Try.prog (14 : Nat)
 (TVs.vals
 [TV.agg
 [TV.int IntKind.i64 n_8, TV.int IntKind.i64 n_9,
 TV.int IntKind.i64 n_10, TV.int IntKind.i64 n_11,
 TV.str s_2]])
 h_6 fun (v : Value) (h_7 : Array Obj) ↦
 ∃ (n_15 : Int),
 ∃ (b_4 : Bs (32 : Nat)),
 ∃ (n_16 : Int),
 ∃ (b_5 : Bs (32 : Nat)),
 ∃ (s_4 : List UInt8),
 v =
 TV.val
 (TV.agg
 [TV.int IntKind.i64 n_15,
 TV.bytes (32 : Nat) b_4,
 TV.int IntKind.i64 n_16,
 TV.bytes (32 : Nat) b_5,
 TV.str s_4]) ∧
 (Vc.Bind
 (newTV h_7
 (TV.agg
 [TV.int IntKind.i64 (0 : Int),
 TV.bytes (32 : Nat)
 (Bs.zero (32 : Nat)),
 TV.int IntKind.i64 (0 : Int),
 TV.bytes (32 : Nat)
 (Bs.zero (32 : Nat)),
 TV.str []])
 (32 : Nat))
 fun (h_8 : Array Obj) ↦
 Ext h_7 h_8 ∧
 Vc.Bind
 (newTV h_8
 (TV.agg
 [TV.int IntKind.i64 (0 : Int),
 TV.bytes (32 : Nat)
 (Bs.zero (32 : Nat)),
 TV.int IntKind.i64 (0 : Int),
 TV.bytes (32 : Nat)
 (Bs.zero (32 : Nat)),
 TV.str []])
 (32 : Nat))
 fun (h_9 : Array Obj) ↦
 Ext h_8 h_9 ∧
 wok h_9 (Array.size h_7) (0 : Nat)
 (67 : Nat) ∧
 Vc.Bind
 (TV.put h_9 (Array.size h_7)
 (0 : Nat)
 (TV.agg
 [TV.int IntKind.i64 n,
 TV.bytes (32 : Nat) b,
 TV.int IntKind.i64 n_12,
 TV.bytes (32 : Nat) b_1,
 TV.str s]))
 fun (h_10 : Array Obj) ↦
 wok h_10 (Array.size h)
 (0 : Nat) (67 : Nat) ∧
 Vc.Bind
 (TV.put h_10 (Array.size h)
 (0 : Nat)
 (TV.agg
 [TV.int IntKind.i64
 n_13,
 TV.bytes (32 : Nat)
 b_2,
 TV.int IntKind.i64
 n_14,
 TV.bytes (32 : Nat)
 b_3,
 TV.str s_3]))
 fun (h_11 : Array Obj) ↦
 wok h_11 (Array.size h_8)
 (0 : Nat) (67 : Nat) ∧
 Vc.Bind
 (TV.put h_11
 (Array.size h_8)
 (0 : Nat)
 (TV.agg
 [TV.int IntKind.i64
 n_15,
 TV.bytes
 (32 : Nat) b_4,
 TV.int IntKind.i64
 n_16,
 TV.bytes
 (32 : Nat) b_5,
 TV.str s_4]))
 fun (h_12 : Array Obj) ↦
 J
 (some
 (Loc.mk
 (Array.size h_7)
 (0 : Nat)),
 some
 (Loc.mk
 (Array.size h)
 (0 : Nat)),
 some
 (Loc.mk
 (Array.size h_8)
 (0 : Nat)))
 h_12) ∧
 Vc.Bind
 (newTV h_7
 (TV.agg
 [TV.int IntKind.i64 (0 : Int),
 TV.bytes (32 : Nat)
 (Bs.zero (32 : Nat)),
 TV.int IntKind.i64 (0 : Int),
 TV.bytes (32 : Nat)
 (Bs.zero (32 : Nat)),
 TV.str []])
 (32 : Nat))
 fun (h_8 : Array Obj) ↦
 Ext h_7 h_8 ∧
 Vc.Bind
 (newTV h_8
 (TV.agg
 [TV.int IntKind.i64 (0 : Int),
 TV.bytes (32 : Nat)
 (Bs.zero (32 : Nat)),
 TV.int IntKind.i64 (0 : Int),
 TV.bytes (32 : Nat)
 (Bs.zero (32 : Nat)),
 TV.str []])
 (32 : Nat))
 fun (h_9 : Array Obj) ↦
 Ext h_8 h_9 ∧
 wok h_9 (Array.size h_8) (0 : Nat)
 (67 : Nat) ∧
 Vc.Bind
 (TV.put h_9 (Array.size h_8)
 (0 : Nat)
 (TV.agg
 [TV.int IntKind.i64 n,
 TV.bytes (32 : Nat) b,
 TV.int IntKind.i64 n_12,
 TV.bytes (32 : Nat) b_1,
 TV.str s]))
 fun (h_10 : Array Obj) ↦
 wok h_10 (Array.size h)
 (0 : Nat) (67 : Nat) ∧
 Vc.Bind
 (TV.put h_10 (Array.size h)
 (0 : Nat)
 (TV.agg
 [TV.int IntKind.i64
 n_13,
 TV.bytes (32 : Nat)
 b_2,
 TV.int IntKind.i64
 n_14,
 TV.bytes (32 : Nat)
 b_3,
 TV.str s_3]))
 fun (h_11 : Array Obj) ↦
 wok h_11 (Array.size h_7)
 (0 : Nat) (67 : Nat) ∧
 Vc.Bind
 (TV.put h_11
 (Array.size h_7)
 (0 : Nat)
 (TV.agg
 [TV.int IntKind.i64
 n_15,
 TV.bytes
 (32 : Nat) b_4,
 TV.int IntKind.i64
 n_16,
 TV.bytes
 (32 : Nat) b_5,
 TV.str s_4]))
 fun (h_12 : Array Obj) ↦
 J
 (some
 (Loc.mk
 (Array.size h_8)
 (0 : Nat)),
 some
 (Loc.mk
 (Array.size h)
 (0 : Nat)),
 some
 (Loc.mk
 (Array.size h_7)
 (0 : Nat)))
 h_12) ∧
 (Vc.Bind
 (newTV h_6
 (TV.agg
 [TV.int IntKind.i64 (0 : Int),
 TV.bytes (32 : Nat) (Bs.zero (32 : Nat)),
 TV.int IntKind.i64 (0 : Int),
 TV.bytes (32 : Nat) (Bs.zero (32 : Nat)),
 TV.str []])
 (32 : Nat))
 fun (h_7 : Array Obj) ↦
 Ext h_6 h_7 ∧
 (CallsH Try.prog (14 : Nat)
 (TVs.vals
 [TV.agg
 [TV.int IntKind.i64 n_8,
 TV.int IntKind.i64 n_9,
 TV.int IntKind.i64 n_10,
 TV.int IntKind.i64 n_11, TV.str s_2]])
 h_7 fun (v : Value) (h_8 : Array Obj) ↦
 ∃ (n_15 : Int),
 ∃ (b_4 : Bs (32 : Nat)),
 ∃ (n_16 : Int),
 ∃ (b_5 : Bs (32 : Nat)),
 ∃ (s_4 : List UInt8),
 v =
 TV.val
 (TV.agg
 [TV.int IntKind.i64 n_15,
 TV.bytes (32 : Nat) b_4,
 TV.int IntKind.i64 n_16,
 TV.bytes (32 : Nat) b_5,
 TV.str s_4]) ∧
 Vc.Bind
 (newTV h_8
 (TV.agg
 [TV.int IntKind.i64 (0 : Int),
 TV.bytes (32 : Nat)
 (Bs.zero (32 : Nat)),
 TV.int IntKind.i64 (0 : Int),
 TV.bytes (32 : Nat)
 (Bs.zero (32 : Nat)),
 TV.str []])
 (32 : Nat))
 fun (h_9 : Array Obj) ↦
 Ext h_8 h_9 ∧
 wok h_9 (Array.size h_6) (0 : Nat)
 (67 : Nat) ∧
 Vc.Bind
 (TV.put h_9 (Array.size h_6)
 (0 : Nat)
 (TV.agg
 [TV.int IntKind.i64 n,
 TV.bytes (32 : Nat) b,
 TV.int IntKind.i64 n_12,
 TV.bytes (32 : Nat) b_1,
 TV.str s]))
 fun (h_10 : Array Obj) ↦
 wok h_10 (Array.size h)
 (0 : Nat) (67 : Nat) ∧
 Vc.Bind
 (TV.put h_10
 (Array.size h) (0 : Nat)
 (TV.agg
 [TV.int IntKind.i64
 n_13,
 TV.bytes (32 : Nat)
 b_2,
 TV.int IntKind.i64
 n_14,
 TV.bytes (32 : Nat)
 b_3,
 TV.str s_3]))
 fun (h_11 : Array Obj) ↦
 wok h_11 (Array.size h_8)
 (0 : Nat) (67 : Nat) ∧
 Vc.Bind
 (TV.put h_11
 (Array.size h_8)
 (0 : Nat)
 (TV.agg
 [TV.int
 IntKind.i64
 n_15,
 TV.bytes
 (32 : Nat)
 b_4,
 TV.int
 IntKind.i64
 n_16,
 TV.bytes
 (32 : Nat)
 b_5,
 TV.str s_4]))
 fun
 (h_12 : Array Obj) ↦
 J
 (some
 (Loc.mk
 (Array.size
 h_6)
 (0 : Nat)),
 some
 (Loc.mk
 (Array.size h)
 (0 : Nat)),
 some
 (Loc.mk
 (Array.size
 h_8)
 (0 : Nat)))
 h_12) ∧
 Vc.Bind
 (newTV h_7
 (TV.agg
 [TV.int IntKind.i64 (0 : Int),
 TV.bytes (32 : Nat) (Bs.zero (32 : Nat)),
 TV.int IntKind.i64 (0 : Int),
 TV.bytes (32 : Nat) (Bs.zero (32 : Nat)),
 TV.str []])
 (32 : Nat))
 fun (h_8 : Array Obj) ↦
 Ext h_7 h_8 ∧
 CallsH Try.prog (14 : Nat)
 (TVs.vals
 [TV.agg
 [TV.int IntKind.i64 n_8,
 TV.int IntKind.i64 n_9,
 TV.int IntKind.i64 n_10,
 TV.int IntKind.i64 n_11, TV.str s_2]])
 h_8 fun (v : Value) (h_9 : Array Obj) ↦
 ∃ (n_15 : Int),
 ∃ (b_4 : Bs (32 : Nat)),
 ∃ (n_16 : Int),
 ∃ (b_5 : Bs (32 : Nat)),
 ∃ (s_4 : List UInt8),
 v =
 TV.val
 (TV.agg
 [TV.int IntKind.i64 n_15,
 TV.bytes (32 : Nat) b_4,
 TV.int IntKind.i64 n_16,
 TV.bytes (32 : Nat) b_5,
 TV.str s_4]) ∧
 wok h_9 (Array.size h_6) (0 : Nat)
 (67 : Nat) ∧
 Vc.Bind
 (TV.put h_9 (Array.size h_6)
 (0 : Nat)
 (TV.agg
 [TV.int IntKind.i64 n,
 TV.bytes (32 : Nat) b,
 TV.int IntKind.i64 n_12,
 TV.bytes (32 : Nat) b_1,
 TV.str s]))
 fun (h_10 : Array Obj) ↦
 wok h_10 (Array.size h)
 (0 : Nat) (67 : Nat) ∧
 Vc.Bind
 (TV.put h_10
 (Array.size h) (0 : Nat)
 (TV.agg
 [TV.int IntKind.i64
 n_13,
 TV.bytes (32 : Nat)
 b_2,
 TV.int IntKind.i64
 n_14,
 TV.bytes (32 : Nat)
 b_3,
 TV.str s_3]))
 fun (h_11 : Array Obj) ↦
 wok h_11 (Array.size h_7)
 (0 : Nat) (67 : Nat) ∧
 Vc.Bind
 (TV.put h_11
 (Array.size h_7)
 (0 : Nat)
 (TV.agg
 [TV.int
 IntKind.i64
 n_15,
 TV.bytes
 (32 : Nat)
 b_4,
 TV.int
 IntKind.i64
 n_16,
 TV.bytes
 (32 : Nat)
 b_5,
 TV.str s_4]))
 fun
 (h_12 : Array Obj) ↦
 J
 (some
 (Loc.mk
 (Array.size
 h_6)
 (0 : Nat)),
 some
 (Loc.mk
 (Array.size h)
 (0 : Nat)),
 some
 (Loc.mk
 (Array.size
 h_7)
 (0 : Nat)))
 h_12) ∧
 Vc.Bind
 (newTV h_6
 (TV.agg
 [TV.int IntKind.i64 (0 : Int),
 TV.bytes (32 : Nat) (Bs.zero (32 : Nat)),
 TV.int IntKind.i64 (0 : Int),
 TV.bytes (32 : Nat) (Bs.zero (32 : Nat)),
 TV.str []])
 (32 : Nat))
 fun (h_7 : Array Obj) ↦
 Ext h_6 h_7 ∧
 (CallsH Try.prog (14 : Nat)
 (TVs.vals
 [TV.agg
 [TV.int IntKind.i64 n_8,
 TV.int IntKind.i64 n_9,
 TV.int IntKind.i64 n_10,
 TV.int IntKind.i64 n_11, TV.str s_2]])
 h_7 fun (v : Value) (h_8 : Array Obj) ↦
 ∃ (n_15 : Int),
 ∃ (b_4 : Bs (32 : Nat)),
 ∃ (n_16 : Int),
 ∃ (b_5 : Bs (32 : Nat)),
 ∃ (s_4 : List UInt8),
 v =
 TV.val
 (TV.agg
 [TV.int IntKind.i64 n_15,
 TV.bytes (32 : Nat) b_4,
 TV.int IntKind.i64 n_16,
 TV.bytes (32 : Nat) b_5,
 TV.str s_4]) ∧
 Vc.Bind
 (newTV h_8
 (TV.agg
 [TV.int IntKind.i64 (0 : Int),
 TV.bytes (32 : Nat)
 (Bs.zero (32 : Nat)),
 TV.int IntKind.i64 (0 : Int),
 TV.bytes (32 : Nat)
 (Bs.zero (32 : Nat)),
 TV.str []])
 (32 : Nat))
 fun (h_9 : Array Obj) ↦
 Ext h_8 h_9 ∧
 wok h_9 (Array.size h_8) (0 : Nat)
 (67 : Nat) ∧
 Vc.Bind
 (TV.put h_9 (Array.size h_8)
 (0 : Nat)
 (TV.agg
 [TV.int IntKind.i64 n,
 TV.bytes (32 : Nat) b,
 TV.int IntKind.i64 n_12,
 TV.bytes (32 : Nat) b_1,
 TV.str s]))
 fun (h_10 : Array Obj) ↦
 wok h_10 (Array.size h)
 (0 : Nat) (67 : Nat) ∧
 Vc.Bind
 (TV.put h_10
 (Array.size h) (0 : Nat)
 (TV.agg
 [TV.int IntKind.i64
 n_13,
 TV.bytes (32 : Nat)
 b_2,
 TV.int IntKind.i64
 n_14,
 TV.bytes (32 : Nat)
 b_3,
 TV.str s_3]))
 fun (h_11 : Array Obj) ↦
 wok h_11 (Array.size h_6)
 (0 : Nat) (67 : Nat) ∧
 Vc.Bind
 (TV.put h_11
 (Array.size h_6)
 (0 : Nat)
 (TV.agg
 [TV.int
 IntKind.i64
 n_15,
 TV.bytes
 (32 : Nat)
 b_4,
 TV.int
 IntKind.i64
 n_16,
 TV.bytes
 (32 : Nat)
 b_5,
 TV.str s_4]))
 fun
 (h_12 : Array Obj) ↦
 J
 (some
 (Loc.mk
 (Array.size
 h_8)
 (0 : Nat)),
 some
 (Loc.mk
 (Array.size h)
 (0 : Nat)),
 some
 (Loc.mk
 (Array.size
 h_6)
 (0 : Nat)))
 h_12) ∧
 Vc.Bind
 (newTV h_7
 (TV.agg
 [TV.int IntKind.i64 (0 : Int),
 TV.bytes (32 : Nat) (Bs.zero (32 : Nat)),
 TV.int IntKind.i64 (0 : Int),
 TV.bytes (32 : Nat) (Bs.zero (32 : Nat)),
 TV.str []])
 (32 : Nat))
 fun (h_8 : Array Obj) ↦
 Ext h_7 h_8 ∧
 CallsH Try.prog (14 : Nat)
 (TVs.vals
 [TV.agg
 [TV.int IntKind.i64 n_8,
 TV.int IntKind.i64 n_9,
 TV.int IntKind.i64 n_10,
 TV.int IntKind.i64 n_11, TV.str s_2]])
 h_8 fun (v : Value) (h_9 : Array Obj) ↦
 ∃ (n_15 : Int),
 ∃ (b_4 : Bs (32 : Nat)),
 ∃ (n_16 : Int),
 ∃ (b_5 : Bs (32 : Nat)),
 ∃ (s_4 : List UInt8),
 v =
 TV.val
 (TV.agg
 [TV.int IntKind.i64 n_15,
 TV.bytes (32 : Nat) b_4,
 TV.int IntKind.i64 n_16,
 TV.bytes (32 : Nat) b_5,
 TV.str s_4]) ∧
 wok h_9 (Array.size h_7) (0 : Nat)
 (67 : Nat) ∧
 Vc.Bind
 (TV.put h_9 (Array.size h_7)
 (0 : Nat)
 (TV.agg
 [TV.int IntKind.i64 n,
 TV.bytes (32 : Nat) b,
 TV.int IntKind.i64 n_12,
 TV.bytes (32 : Nat) b_1,
 TV.str s]))
 fun (h_10 : Array Obj) ↦
 wok h_10 (Array.size h)
 (0 : Nat) (67 : Nat) ∧
 Vc.Bind
 (TV.put h_10
 (Array.size h) (0 : Nat)
 (TV.agg
 [TV.int IntKind.i64
 n_13,
 TV.bytes (32 : Nat)
 b_2,
 TV.int IntKind.i64
 n_14,
 TV.bytes (32 : Nat)
 b_3,
 TV.str s_3]))
 fun (h_11 : Array Obj) ↦
 wok h_11 (Array.size h_6)
 (0 : Nat) (67 : Nat) ∧
 Vc.Bind
 (TV.put h_11
 (Array.size h_6)
 (0 : Nat)
 (TV.agg
 [TV.int
 IntKind.i64
 n_15,
 TV.bytes
 (32 : Nat)
 b_4,
 TV.int
 IntKind.i64
 n_16,
 TV.bytes
 (32 : Nat)
 b_5,
 TV.str s_4]))
 fun
 (h_12 : Array Obj) ↦
 J
 (some
 (Loc.mk
 (Array.size
 h_7)
 (0 : Nat)),
 some
 (Loc.mk
 (Array.size h)
 (0 : Nat)),
 some
 (Loc.mk
 (Array.size
 h_6)
 (0 : Nat)))
 h_12) ∧
 (Vc.Bind
 (newTV h_5
 (TV.agg
 [TV.int IntKind.i64 (0 : Int),
 TV.bytes (32 : Nat) (Bs.zero (32 : Nat)),
 TV.int IntKind.i64 (0 : Int),
 TV.bytes (32 : Nat) (Bs.zero (32 : Nat)), TV.str []])
 (32 : Nat))
 fun (h_6 : Array Obj) ↦
 Ext h_5 h_6 ∧
 (CallsH Try.prog (14 : Nat)
 (TVs.vals
 [TV.agg
 [TV.int IntKind.i64 n_4, TV.int IntKind.i64 n_5,
 TV.int IntKind.i64 n_6, TV.int IntKind.i64 n_7,
 TV.str s_1]])
 h_6 fun (v : Value) (h_7 : Array Obj) ↦
 ∃ (n_13 : Int),
 ∃ (b_2 : Bs (32 : Nat)),
 ∃ (n_14 : Int),
 ∃ (b_3 : Bs (32 : Nat)),
 ∃ (s_3 : List UInt8),
 v =
 TV.val
 (TV.agg
 [TV.int IntKind.i64 n_13, TV.bytes (32 : Nat) b_2,
 TV.int IntKind.i64 n_14,
 TV.bytes (32 : Nat) b_3, TV.str s_3]) ∧
 Ext h_6 h_7 ∧
 (CallsH Try.prog (14 : Nat)
 (TVs.vals
 [TV.agg
 [TV.int IntKind.i64 n_8,
 TV.int IntKind.i64 n_9,
 TV.int IntKind.i64 n_10,
 TV.int IntKind.i64 n_11, TV.str s_2]])
 h_7 fun (v : Value) (h_8 : Array Obj) ↦
 ∃ (n_15 : Int),
 ∃ (b_4 : Bs (32 : Nat)),
 ∃ (n_16 : Int),
 ∃ (b_5 : Bs (32 : Nat)),
 ∃ (s_4 : List UInt8),
 v =
 TV.val
 (TV.agg
 [TV.int IntKind.i64 n_15,
 TV.bytes (32 : Nat) b_4,
 TV.int IntKind.i64 n_16,
 TV.bytes (32 : Nat) b_5,
 TV.str s_4]) ∧
 Vc.Bind
 (newTV h_8
 (TV.agg
 [TV.int IntKind.i64 (0 : Int),
 TV.bytes (32 : Nat)
 (Bs.zero (32 : Nat)),
 TV.int IntKind.i64 (0 : Int),
 TV.bytes (32 : Nat)
 (Bs.zero (32 : Nat)),
 TV.str []])
 (32 : Nat))
 fun (h_9 : Array Obj) ↦
 Ext h_8 h_9 ∧
 wok h_9 (Array.size h_5) (0 : Nat)
 (67 : Nat) ∧
 Vc.Bind
 (TV.put h_9 (Array.size h_5)
 (0 : Nat)
 (TV.agg
 [TV.int IntKind.i64 n,
 TV.bytes (32 : Nat) b,
 TV.int IntKind.i64 n_12,
 TV.bytes (32 : Nat) b_1,
 TV.str s]))
 fun (h_10 : Array Obj) ↦
 wok h_10 (Array.size h)
 (0 : Nat) (67 : Nat) ∧
 Vc.Bind
 (TV.put h_10
 (Array.size h) (0 : Nat)
 (TV.agg
 [TV.int IntKind.i64
 n_13,
 TV.bytes (32 : Nat)
 b_2,
 TV.int IntKind.i64
 n_14,
 TV.bytes (32 : Nat)
 b_3,
 TV.str s_3]))
 fun (h_11 : Array Obj) ↦
 wok h_11 (Array.size h_8)
 (0 : Nat) (67 : Nat) ∧
 Vc.Bind
 (TV.put h_11
 (Array.size h_8)
 (0 : Nat)
 (TV.agg
 [TV.int
 IntKind.i64
 n_15,
 TV.bytes
 (32 : Nat)
 b_4,
 TV.int
 IntKind.i64
 n_16,
 TV.bytes
 (32 : Nat)
 b_5,
 TV.str s_4]))
 fun
 (h_12 : Array Obj) ↦
 J
 (some
 (Loc.mk
 (Array.size
 h_5)
 (0 : Nat)),
 some
 (Loc.mk
 (Array.size h)
 (0 : Nat)),
 some
 (Loc.mk
 (Array.size
 h_8)
 (0 : Nat)))
 h_12) ∧
 Vc.Bind
 (newTV h_7
 (TV.agg
 [TV.int IntKind.i64 (0 : Int),
 TV.bytes (32 : Nat) (Bs.zero (32 : Nat)),
 TV.int IntKind.i64 (0 : Int),
 TV.bytes (32 : Nat) (Bs.zero (32 : Nat)),
 TV.str []])
 (32 : Nat))
 fun (h_8 : Array Obj) ↦
 Ext h_7 h_8 ∧
 CallsH Try.prog (14 : Nat)
 (TVs.vals
 [TV.agg
 [TV.int IntKind.i64 n_8,
 TV.int IntKind.i64 n_9,
 TV.int IntKind.i64 n_10,
 TV.int IntKind.i64 n_11, TV.str s_2]])
 h_8 fun (v : Value) (h_9 : Array Obj) ↦
 ∃ (n_15 : Int),
 ∃ (b_4 : Bs (32 : Nat)),
 ∃ (n_16 : Int),
 ∃ (b_5 : Bs (32 : Nat)),
 ∃ (s_4 : List UInt8),
 v =
 TV.val
 (TV.agg
 [TV.int IntKind.i64 n_15,
 TV.bytes (32 : Nat) b_4,
 TV.int IntKind.i64 n_16,
 TV.bytes (32 : Nat) b_5,
 TV.str s_4]) ∧
 wok h_9 (Array.size h_5) (0 : Nat)
 (67 : Nat) ∧
 Vc.Bind
 (TV.put h_9 (Array.size h_5)
 (0 : Nat)
 (TV.agg
 [TV.int IntKind.i64 n,
 TV.bytes (32 : Nat) b,
 TV.int IntKind.i64 n_12,
 TV.bytes (32 : Nat) b_1,
 TV.str s]))
 fun (h_10 : Array Obj) ↦
 wok h_10 (Array.size h)
 (0 : Nat) (67 : Nat) ∧
 Vc.Bind
 (TV.put h_10
 (Array.size h) (0 : Nat)
 (TV.agg
 [TV.int IntKind.i64
 n_13,
 TV.bytes (32 : Nat)
 b_2,
 TV.int IntKind.i64
 n_14,
 TV.bytes (32 : Nat)
 b_3,
 TV.str s_3]))
 fun (h_11 : Array Obj) ↦
 wok h_11 (Array.size h_7)
 (0 : Nat) (67 : Nat) ∧
 Vc.Bind
 (TV.put h_11
 (Array.size h_7)
 (0 : Nat)
 (TV.agg
 [TV.int
 IntKind.i64
 n_15,
 TV.bytes
 (32 : Nat)
 b_4,
 TV.int
 IntKind.i64
 n_16,
 TV.bytes
 (32 : Nat)
 b_5,
 TV.str s_4]))
 fun
 (h_12 : Array Obj) ↦
 J
 (some
 (Loc.mk
 (Array.size
 h_5)
 (0 : Nat)),
 some
 (Loc.mk
 (Array.size h)
 (0 : Nat)),
 some
 (Loc.mk
 (Array.size
 h_7)
 (0 : Nat)))
 h_12) ∧
 Vc.Bind
 (newTV h_6
 (TV.agg
 [TV.int IntKind.i64 (0 : Int),
 TV.bytes (32 : Nat) (Bs.zero (32 : Nat)),
 TV.int IntKind.i64 (0 : Int),
 TV.bytes (32 : Nat) (Bs.zero (32 : Nat)), TV.str []])
 (32 : Nat))
 fun (h_7 : Array Obj) ↦
 Ext h_6 h_7 ∧
 CallsH Try.prog (14 : Nat)
 (TVs.vals
 [TV.agg
 [TV.int IntKind.i64 n_4, TV.int IntKind.i64 n_5,
 TV.int IntKind.i64 n_6, TV.int IntKind.i64 n_7,
 TV.str s_1]])
 h_7 fun (v : Value) (h_8 : Array Obj) ↦
 ∃ (n_13 : Int),
 ∃ (b_2 : Bs (32 : Nat)),
 ∃ (n_14 : Int),
 ∃ (b_3 : Bs (32 : Nat)),
 ∃ (s_3 : List UInt8),
 v =
 TV.val
 (TV.agg
 [TV.int IntKind.i64 n_13,
 TV.bytes (32 : Nat) b_2,
 TV.int IntKind.i64 n_14,
 TV.bytes (32 : Nat) b_3, TV.str s_3]) ∧
 Ext h_7 h_8 ∧
 CallsH Try.prog (14 : Nat)
 (TVs.vals
 [TV.agg
 [TV.int IntKind.i64 n_8,
 TV.int IntKind.i64 n_9,
 TV.int IntKind.i64 n_10,
 TV.int IntKind.i64 n_11, TV.str s_2]])
 h_8 fun (v : Value) (h_9 : Array Obj) ↦
 ∃ (n_15 : Int),
 ∃ (b_4 : Bs (32 : Nat)),
 ∃ (n_16 : Int),
 ∃ (b_5 : Bs (32 : Nat)),
 ∃ (s_4 : List UInt8),
 v =
 TV.val
 (TV.agg
 [TV.int IntKind.i64 n_15,
 TV.bytes (32 : Nat) b_4,
 TV.int IntKind.i64 n_16,
 TV.bytes (32 : Nat) b_5,
 TV.str s_4]) ∧
 wok h_9 (Array.size h_5) (0 : Nat)
 (67 : Nat) ∧
 Vc.Bind
 (TV.put h_9 (Array.size h_5)
 (0 : Nat)
 (TV.agg
 [TV.int IntKind.i64 n,
 TV.bytes (32 : Nat) b,
 TV.int IntKind.i64 n_12,
 TV.bytes (32 : Nat) b_1,
 TV.str s]))
 fun (h_10 : Array Obj) ↦
 wok h_10 (Array.size h)
 (0 : Nat) (67 : Nat) ∧
 Vc.Bind
 (TV.put h_10 (Array.size h)
 (0 : Nat)
 (TV.agg
 [TV.int IntKind.i64
 n_13,
 TV.bytes (32 : Nat)
 b_2,
 TV.int IntKind.i64
 n_14,
 TV.bytes (32 : Nat)
 b_3,
 TV.str s_3]))
 fun (h_11 : Array Obj) ↦
 wok h_11 (Array.size h_6)
 (0 : Nat) (67 : Nat) ∧
 Vc.Bind
 (TV.put h_11
 (Array.size h_6)
 (0 : Nat)
 (TV.agg
 [TV.int IntKind.i64
 n_15,
 TV.bytes
 (32 : Nat) b_4,
 TV.int IntKind.i64
 n_16,
 TV.bytes
 (32 : Nat) b_5,
 TV.str s_4]))
 fun (h_12 : Array Obj) ↦
 J
 (some
 (Loc.mk
 (Array.size h_5)
 (0 : Nat)),
 some
 (Loc.mk
 (Array.size h)
 (0 : Nat)),
 some
 (Loc.mk
 (Array.size h_6)
 (0 : Nat)))
 h_12) ∧
 Vc.Bind
 (newTV h_5
 (TV.agg
 [TV.int IntKind.i64 (0 : Int),
 TV.bytes (32 : Nat) (Bs.zero (32 : Nat)),
 TV.int IntKind.i64 (0 : Int),
 TV.bytes (32 : Nat) (Bs.zero (32 : Nat)), TV.str []])
 (32 : Nat))
 fun (h_6 : Array Obj) ↦
 Ext h_5 h_6 ∧
 (CallsH Try.prog (14 : Nat)
 (TVs.vals
 [TV.agg
 [TV.int IntKind.i64 n_4, TV.int IntKind.i64 n_5,
 TV.int IntKind.i64 n_6, TV.int IntKind.i64 n_7,
 TV.str s_1]])
 h_6 fun (v : Value) (h_7 : Array Obj) ↦
 ∃ (n_13 : Int),
 ∃ (b_2 : Bs (32 : Nat)),
 ∃ (n_14 : Int),
 ∃ (b_3 : Bs (32 : Nat)),
 ∃ (s_3 : List UInt8),
 v =
 TV.val
 (TV.agg
 [TV.int IntKind.i64 n_13, TV.bytes (32 : Nat) b_2,
 TV.int IntKind.i64 n_14,
 TV.bytes (32 : Nat) b_3, TV.str s_3]) ∧
 Ext h_6 h_7 ∧
 (CallsH Try.prog (14 : Nat)
 (TVs.vals
 [TV.agg
 [TV.int IntKind.i64 n_8,
 TV.int IntKind.i64 n_9,
 TV.int IntKind.i64 n_10,
 TV.int IntKind.i64 n_11, TV.str s_2]])
 h_7 fun (v : Value) (h_8 : Array Obj) ↦
 ∃ (n_15 : Int),
 ∃ (b_4 : Bs (32 : Nat)),
 ∃ (n_16 : Int),
 ∃ (b_5 : Bs (32 : Nat)),
 ∃ (s_4 : List UInt8),
 v =
 TV.val
 (TV.agg
 [TV.int IntKind.i64 n_15,
 TV.bytes (32 : Nat) b_4,
 TV.int IntKind.i64 n_16,
 TV.bytes (32 : Nat) b_5,
 TV.str s_4]) ∧
 Vc.Bind
 (newTV h_8
 (TV.agg
 [TV.int IntKind.i64 (0 : Int),
 TV.bytes (32 : Nat)
 (Bs.zero (32 : Nat)),
 TV.int IntKind.i64 (0 : Int),
 TV.bytes (32 : Nat)
 (Bs.zero (32 : Nat)),
 TV.str []])
 (32 : Nat))
 fun (h_9 : Array Obj) ↦
 Ext h_8 h_9 ∧
 wok h_9 (Array.size h_8) (0 : Nat)
 (67 : Nat) ∧
 Vc.Bind
 (TV.put h_9 (Array.size h_8)
 (0 : Nat)
 (TV.agg
 [TV.int IntKind.i64 n,
 TV.bytes (32 : Nat) b,
 TV.int IntKind.i64 n_12,
 TV.bytes (32 : Nat) b_1,
 TV.str s]))
 fun (h_10 : Array Obj) ↦
 wok h_10 (Array.size h)
 (0 : Nat) (67 : Nat) ∧
 Vc.Bind
 (TV.put h_10
 (Array.size h) (0 : Nat)
 (TV.agg
 [TV.int IntKind.i64
 n_13,
 TV.bytes (32 : Nat)
 b_2,
 TV.int IntKind.i64
 n_14,
 TV.bytes (32 : Nat)
 b_3,
 TV.str s_3]))
 fun (h_11 : Array Obj) ↦
 wok h_11 (Array.size h_5)
 (0 : Nat) (67 : Nat) ∧
 Vc.Bind
 (TV.put h_11
 (Array.size h_5)
 (0 : Nat)
 (TV.agg
 [TV.int
 IntKind.i64
 n_15,
 TV.bytes
 (32 : Nat)
 b_4,
 TV.int
 IntKind.i64
 n_16,
 TV.bytes
 (32 : Nat)
 b_5,
 TV.str s_4]))
 fun
 (h_12 : Array Obj) ↦
 J
 (some
 (Loc.mk
 (Array.size
 h_8)
 (0 : Nat)),
 some
 (Loc.mk
 (Array.size h)
 (0 : Nat)),
 some
 (Loc.mk
 (Array.size
 h_5)
 (0 : Nat)))
 h_12) ∧
 Vc.Bind
 (newTV h_7
 (TV.agg
 [TV.int IntKind.i64 (0 : Int),
 TV.bytes (32 : Nat) (Bs.zero (32 : Nat)),
 TV.int IntKind.i64 (0 : Int),
 TV.bytes (32 : Nat) (Bs.zero (32 : Nat)),
 TV.str []])
 (32 : Nat))
 fun (h_8 : Array Obj) ↦
 Ext h_7 h_8 ∧
 CallsH Try.prog (14 : Nat)
 (TVs.vals
 [TV.agg
 [TV.int IntKind.i64 n_8,
 TV.int IntKind.i64 n_9,
 TV.int IntKind.i64 n_10,
 TV.int IntKind.i64 n_11, TV.str s_2]])
 h_8 fun (v : Value) (h_9 : Array Obj) ↦
 ∃ (n_15 : Int),
 ∃ (b_4 : Bs (32 : Nat)),
 ∃ (n_16 : Int),
 ∃ (b_5 : Bs (32 : Nat)),
 ∃ (s_4 : List UInt8),
 v =
 TV.val
 (TV.agg
 [TV.int IntKind.i64 n_15,
 TV.bytes (32 : Nat) b_4,
 TV.int IntKind.i64 n_16,
 TV.bytes (32 : Nat) b_5,
 TV.str s_4]) ∧
 wok h_9 (Array.size h_7) (0 : Nat)
 (67 : Nat) ∧
 Vc.Bind
 (TV.put h_9 (Array.size h_7)
 (0 : Nat)
 (TV.agg
 [TV.int IntKind.i64 n,
 TV.bytes (32 : Nat) b,
 TV.int IntKind.i64 n_12,
 TV.bytes (32 : Nat) b_1,
 TV.str s]))
 fun (h_10 : Array Obj) ↦
 wok h_10 (Array.size h)
 (0 : Nat) (67 : Nat) ∧
 Vc.Bind
 (TV.put h_10
 (Array.size h) (0 : Nat)
 (TV.agg
 [TV.int IntKind.i64
 n_13,
 TV.bytes (32 : Nat)
 b_2,
 TV.int IntKind.i64
 n_14,
 TV.bytes (32 : Nat)
 b_3,
 TV.str s_3]))
 fun (h_11 : Array Obj) ↦
 wok h_11 (Array.size h_5)
 (0 : Nat) (67 : Nat) ∧
 Vc.Bind
 (TV.put h_11
 (Array.size h_5)
 (0 : Nat)
 (TV.agg
 [TV.int
 IntKind.i64
 n_15,
 TV.bytes
 (32 : Nat)
 b_4,
 TV.int
 IntKind.i64
 n_16,
 TV.bytes
 (32 : Nat)
 b_5,
 TV.str s_4]))
 fun
 (h_12 : Array Obj) ↦
 J
 (some
 (Loc.mk
 (Array.size
 h_7)
 (0 : Nat)),
 some
 (Loc.mk
 (Array.size h)
 (0 : Nat)),
 some
 (Loc.mk
 (Array.size
 h_5)
 (0 : Nat)))
 h_12) ∧
 Vc.Bind
 (newTV h_6
 (TV.agg
 [TV.int IntKind.i64 (0 : Int),
 TV.bytes (32 : Nat) (Bs.zero (32 : Nat)),
 TV.int IntKind.i64 (0 : Int),
 TV.bytes (32 : Nat) (Bs.zero (32 : Nat)), TV.str []])
 (32 : Nat))
 fun (h_7 : Array Obj) ↦
 Ext h_6 h_7 ∧
 CallsH Try.prog (14 : Nat)
 (TVs.vals
 [TV.agg
 [TV.int IntKind.i64 n_4, TV.int IntKind.i64 n_5,
 TV.int IntKind.i64 n_6, TV.int IntKind.i64 n_7,
 TV.str s_1]])
 h_7 fun (v : Value) (h_8 : Array Obj) ↦
 ∃ (n_13 : Int),
 ∃ (b_2 : Bs (32 : Nat)),
 ∃ (n_14 : Int),
 ∃ (b_3 : Bs (32 : Nat)),
 ∃ (s_3 : List UInt8),
 v =
 TV.val
 (TV.agg
 [TV.int IntKind.i64 n_13,
 TV.bytes (32 : Nat) b_2,
 TV.int IntKind.i64 n_14,
 TV.bytes (32 : Nat) b_3, TV.str s_3]) ∧
 Ext h_7 h_8 ∧
 CallsH Try.prog (14 : Nat)
 (TVs.vals
 [TV.agg
 [TV.int IntKind.i64 n_8,
 TV.int IntKind.i64 n_9,
 TV.int IntKind.i64 n_10,
 TV.int IntKind.i64 n_11, TV.str s_2]])
 h_8 fun (v : Value) (h_9 : Array Obj) ↦
 ∃ (n_15 : Int),
 ∃ (b_4 : Bs (32 : Nat)),
 ∃ (n_16 : Int),
 ∃ (b_5 : Bs (32 : Nat)),
 ∃ (s_4 : List UInt8),
 v =
 TV.val
 (TV.agg
 [TV.int IntKind.i64 n_15,
 TV.bytes (32 : Nat) b_4,
 TV.int IntKind.i64 n_16,
 TV.bytes (32 : Nat) b_5,
 TV.str s_4]) ∧
 wok h_9 (Array.size h_6) (0 : Nat)
 (67 : Nat) ∧
 Vc.Bind
 (TV.put h_9 (Array.size h_6)
 (0 : Nat)
 (TV.agg
 [TV.int IntKind.i64 n,
 TV.bytes (32 : Nat) b,
 TV.int IntKind.i64 n_12,
 TV.bytes (32 : Nat) b_1,
 TV.str s]))
 fun (h_10 : Array Obj) ↦
 wok h_10 (Array.size h)
 (0 : Nat) (67 : Nat) ∧
 Vc.Bind
 (TV.put h_10 (Array.size h)
 (0 : Nat)
 (TV.agg
 [TV.int IntKind.i64
 n_13,
 TV.bytes (32 : Nat)
 b_2,
 TV.int IntKind.i64
 n_14,
 TV.bytes (32 : Nat)
 b_3,
 TV.str s_3]))
 fun (h_11 : Array Obj) ↦
 wok h_11 (Array.size h_5)
 (0 : Nat) (67 : Nat) ∧
 Vc.Bind
 (TV.put h_11
 (Array.size h_5)
 (0 : Nat)
 (TV.agg
 [TV.int IntKind.i64
 n_15,
 TV.bytes
 (32 : Nat) b_4,
 TV.int IntKind.i64
 n_16,
 TV.bytes
 (32 : Nat) b_5,
 TV.str s_4]))
 fun (h_12 : Array Obj) ↦
 J
 (some
 (Loc.mk
 (Array.size h_6)
 (0 : Nat)),
 some
 (Loc.mk
 (Array.size h)
 (0 : Nat)),
 some
 (Loc.mk
 (Array.size h_5)
 (0 : Nat)))
 h_12) ∧
 Vc.Bind
 (newTV h
 (TV.agg
 [TV.int IntKind.i64 (0 : Int), TV.bytes (32 : Nat) (Bs.zero (32 : Nat)),
 TV.int IntKind.i64 (0 : Int), TV.bytes (32 : Nat) (Bs.zero (32 : Nat)),
 TV.str []])
 (32 : Nat))
 fun (h_5 : Array Obj) ↦
 Ext h h_5 ∧
 (CallsH Try.prog (14 : Nat)
 (TVs.vals
 [TV.agg
 [TV.int IntKind.i64 n_4, TV.int IntKind.i64 n_5,
 TV.int IntKind.i64 n_6, TV.int IntKind.i64 n_7, TV.str s_1]])
 h_5 fun (v : Value) (h_6 : Array Obj) ↦
 ∃ (n_13 : Int),
 ∃ (b_2 : Bs (32 : Nat)),
 ∃ (n_14 : Int),
 ∃ (b_3 : Bs (32 : Nat)),
 ∃ (s_3 : List UInt8),
 v =
 TV.val
 (TV.agg
 [TV.int IntKind.i64 n_13, TV.bytes (32 : Nat) b_2,
 TV.int IntKind.i64 n_14, TV.bytes (32 : Nat) b_3,
 TV.str s_3]) ∧
 Ext h_5 h_6 ∧
 (CallsH Try.prog (14 : Nat)
 (TVs.vals
 [TV.agg
 [TV.int IntKind.i64 n_8, TV.int IntKind.i64 n_9,
 TV.int IntKind.i64 n_10, TV.int IntKind.i64 n_11,
 TV.str s_2]])
 h_6 fun (v : Value) (h_7 : Array Obj) ↦
 ∃ (n_15 : Int),
 ∃ (b_4 : Bs (32 : Nat)),
 ∃ (n_16 : Int),
 ∃ (b_5 : Bs (32 : Nat)),
 ∃ (s_4 : List UInt8),
 v =
 TV.val
 (TV.agg
 [TV.int IntKind.i64 n_15,
 TV.bytes (32 : Nat) b_4,
 TV.int IntKind.i64 n_16,
 TV.bytes (32 : Nat) b_5,
 TV.str s_4]) ∧
 (Vc.Bind
 (newTV h_7
 (TV.agg
 [TV.int IntKind.i64 (0 : Int),
 TV.bytes (32 : Nat)
 (Bs.zero (32 : Nat)),
 TV.int IntKind.i64 (0 : Int),
 TV.bytes (32 : Nat)
 (Bs.zero (32 : Nat)),
 TV.str []])
 (32 : Nat))
 fun (h_8 : Array Obj) ↦
 Ext h_7 h_8 ∧
 Vc.Bind
 (newTV h_8
 (TV.agg
 [TV.int IntKind.i64 (0 : Int),
 TV.bytes (32 : Nat)
 (Bs.zero (32 : Nat)),
 TV.int IntKind.i64 (0 : Int),
 TV.bytes (32 : Nat)
 (Bs.zero (32 : Nat)),
 TV.str []])
 (32 : Nat))
 fun (h_9 : Array Obj) ↦
 Ext h_8 h_9 ∧
 wok h_9 (Array.size h_7) (0 : Nat)
 (67 : Nat) ∧
 Vc.Bind
 (TV.put h_9 (Array.size h_7)
 (0 : Nat)
 (TV.agg
 [TV.int IntKind.i64 n,
 TV.bytes (32 : Nat) b,
 TV.int IntKind.i64 n_12,
 TV.bytes (32 : Nat) b_1,
 TV.str s]))
 fun (h_10 : Array Obj) ↦
 wok h_10 (Array.size h_8)
 (0 : Nat) (67 : Nat) ∧
 Vc.Bind
 (TV.put h_10
 (Array.size h_8) (0 : Nat)
 (TV.agg
 [TV.int IntKind.i64
 n_13,
 TV.bytes (32 : Nat)
 b_2,
 TV.int IntKind.i64
 n_14,
 TV.bytes (32 : Nat)
 b_3,
 TV.str s_3]))
 fun (h_11 : Array Obj) ↦
 wok h_11 (Array.size h)
 (0 : Nat) (67 : Nat) ∧
 Vc.Bind
 (TV.put h_11
 (Array.size h)
 (0 : Nat)
 (TV.agg
 [TV.int IntKind.i64
 n_15,
 TV.bytes
 (32 : Nat) b_4,
 TV.int IntKind.i64
 n_16,
 TV.bytes
 (32 : Nat) b_5,
 TV.str s_4]))
 fun (h_12 : Array Obj) ↦
 J
 (some
 (Loc.mk
 (Array.size h_7)
 (0 : Nat)),
 some
 (Loc.mk
 (Array.size h_8)
 (0 : Nat)),
 some
 (Loc.mk
 (Array.size h)
 (0 : Nat)))
 h_12) ∧
 Vc.Bind
 (newTV h_7
 (TV.agg
 [TV.int IntKind.i64 (0 : Int),
 TV.bytes (32 : Nat)
 (Bs.zero (32 : Nat)),
 TV.int IntKind.i64 (0 : Int),
 TV.bytes (32 : Nat)
 (Bs.zero (32 : Nat)),
 TV.str []])
 (32 : Nat))
 fun (h_8 : Array Obj) ↦
 Ext h_7 h_8 ∧
 Vc.Bind
 (newTV h_8
 (TV.agg
 [TV.int IntKind.i64 (0 : Int),
 TV.bytes (32 : Nat)
 (Bs.zero (32 : Nat)),
 TV.int IntKind.i64 (0 : Int),
 TV.bytes (32 : Nat)
 (Bs.zero (32 : Nat)),
 TV.str []])
 (32 : Nat))
 fun (h_9 : Array Obj) ↦
 Ext h_8 h_9 ∧
 wok h_9 (Array.size h_8) (0 : Nat)
 (67 : Nat) ∧
 Vc.Bind
 (TV.put h_9 (Array.size h_8)
 (0 : Nat)
 (TV.agg
 [TV.int IntKind.i64 n,
 TV.bytes (32 : Nat) b,
 TV.int IntKind.i64 n_12,
 TV.bytes (32 : Nat) b_1,
 TV.str s]))
 fun (h_10 : Array Obj) ↦
 wok h_10 (Array.size h_7)
 (0 : Nat) (67 : Nat) ∧
 Vc.Bind
 (TV.put h_10
 (Array.size h_7) (0 : Nat)
 (TV.agg
 [TV.int IntKind.i64
 n_13,
 TV.bytes (32 : Nat)
 b_2,
 TV.int IntKind.i64
 n_14,
 TV.bytes (32 : Nat)
 b_3,
 TV.str s_3]))
 fun (h_11 : Array Obj) ↦
 wok h_11 (Array.size h)
 (0 : Nat) (67 : Nat) ∧
 Vc.Bind
 (TV.put h_11
 (Array.size h)
 (0 : Nat)
 (TV.agg
 [TV.int IntKind.i64
 n_15,
 TV.bytes
 (32 : Nat) b_4,
 TV.int IntKind.i64
 n_16,
 TV.bytes
 (32 : Nat) b_5,
 TV.str s_4]))
 fun (h_12 : Array Obj) ↦
 J
 (some
 (Loc.mk
 (Array.size h_8)
 (0 : Nat)),
 some
 (Loc.mk
 (Array.size h_7)
 (0 : Nat)),
 some
 (Loc.mk
 (Array.size h)
 (0 : Nat)))
 h_12) ∧
 (Vc.Bind
 (newTV h_6
 (TV.agg
 [TV.int IntKind.i64 (0 : Int),
 TV.bytes (32 : Nat) (Bs.zero (32 : Nat)),
 TV.int IntKind.i64 (0 : Int),
 TV.bytes (32 : Nat) (Bs.zero (32 : Nat)),
 TV.str []])
 (32 : Nat))
 fun (h_7 : Array Obj) ↦
 Ext h_6 h_7 ∧
 (CallsH Try.prog (14 : Nat)
 (TVs.vals
 [TV.agg
 [TV.int IntKind.i64 n_8,
 TV.int IntKind.i64 n_9,
 TV.int IntKind.i64 n_10,
 TV.int IntKind.i64 n_11, TV.str s_2]])
 h_7 fun (v : Value) (h_8 : Array Obj) ↦
 ∃ (n_15 : Int),
 ∃ (b_4 : Bs (32 : Nat)),
 ∃ (n_16 : Int),
 ∃ (b_5 : Bs (32 : Nat)),
 ∃ (s_4 : List UInt8),
 v =
 TV.val
 (TV.agg
 [TV.int IntKind.i64 n_15,
 TV.bytes (32 : Nat) b_4,
 TV.int IntKind.i64 n_16,
 TV.bytes (32 : Nat) b_5,
 TV.str s_4]) ∧
 Vc.Bind
 (newTV h_8
 (TV.agg
 [TV.int IntKind.i64 (0 : Int),
 TV.bytes (32 : Nat)
 (Bs.zero (32 : Nat)),
 TV.int IntKind.i64 (0 : Int),
 TV.bytes (32 : Nat)
 (Bs.zero (32 : Nat)),
 TV.str []])
 (32 : Nat))
 fun (h_9 : Array Obj) ↦
 Ext h_8 h_9 ∧
 wok h_9 (Array.size h_6) (0 : Nat)
 (67 : Nat) ∧
 Vc.Bind
 (TV.put h_9 (Array.size h_6)
 (0 : Nat)
 (TV.agg
 [TV.int IntKind.i64 n,
 TV.bytes (32 : Nat) b,
 TV.int IntKind.i64 n_12,
 TV.bytes (32 : Nat) b_1,
 TV.str s]))
 fun (h_10 : Array Obj) ↦
 wok h_10 (Array.size h_8)
 (0 : Nat) (67 : Nat) ∧
 Vc.Bind
 (TV.put h_10
 (Array.size h_8)
 (0 : Nat)
 (TV.agg
 [TV.int IntKind.i64
 n_13,
 TV.bytes (32 : Nat)
 b_2,
 TV.int IntKind.i64
 n_14,
 TV.bytes (32 : Nat)
 b_3,
 TV.str s_3]))
 fun (h_11 : Array Obj) ↦
 wok h_11 (Array.size h)
 (0 : Nat) (67 : Nat) ∧
 Vc.Bind
 (TV.put h_11
 (Array.size h)
 (0 : Nat)
 (TV.agg
 [TV.int
 IntKind.i64
 n_15,
 TV.bytes
 (32 : Nat)
 b_4,
 TV.int
 IntKind.i64
 n_16,
 TV.bytes
 (32 : Nat)
 b_5,
 TV.str s_4]))
 fun
 (h_12 : Array Obj) ↦
 J
 (some
 (Loc.mk
 (Array.size
 h_6)
 (0 : Nat)),
 some
 (Loc.mk
 (Array.size
 h_8)
 (0 : Nat)),
 some
 (Loc.mk
 (Array.size h)
 (0 : Nat)))
 h_12) ∧
 Vc.Bind
 (newTV h_7
 (TV.agg
 [TV.int IntKind.i64 (0 : Int),
 TV.bytes (32 : Nat) (Bs.zero (32 : Nat)),
 TV.int IntKind.i64 (0 : Int),
 TV.bytes (32 : Nat) (Bs.zero (32 : Nat)),
 TV.str []])
 (32 : Nat))
 fun (h_8 : Array Obj) ↦
 Ext h_7 h_8 ∧
 CallsH Try.prog (14 : Nat)
 (TVs.vals
 [TV.agg
 [TV.int IntKind.i64 n_8,
 TV.int IntKind.i64 n_9,
 TV.int IntKind.i64 n_10,
 TV.int IntKind.i64 n_11, TV.str s_2]])
 h_8 fun (v : Value) (h_9 : Array Obj) ↦
 ∃ (n_15 : Int),
 ∃ (b_4 : Bs (32 : Nat)),
 ∃ (n_16 : Int),
 ∃ (b_5 : Bs (32 : Nat)),
 ∃ (s_4 : List UInt8),
 v =
 TV.val
 (TV.agg
 [TV.int IntKind.i64 n_15,
 TV.bytes (32 : Nat) b_4,
 TV.int IntKind.i64 n_16,
 TV.bytes (32 : Nat) b_5,
 TV.str s_4]) ∧
 wok h_9 (Array.size h_6) (0 : Nat)
 (67 : Nat) ∧
 Vc.Bind
 (TV.put h_9 (Array.size h_6)
 (0 : Nat)
 (TV.agg
 [TV.int IntKind.i64 n,
 TV.bytes (32 : Nat) b,
 TV.int IntKind.i64 n_12,
 TV.bytes (32 : Nat) b_1,
 TV.str s]))
 fun (h_10 : Array Obj) ↦
 wok h_10 (Array.size h_7)
 (0 : Nat) (67 : Nat) ∧
 Vc.Bind
 (TV.put h_10
 (Array.size h_7)
 (0 : Nat)
 (TV.agg
 [TV.int IntKind.i64
 n_13,
 TV.bytes (32 : Nat)
 b_2,
 TV.int IntKind.i64
 n_14,
 TV.bytes (32 : Nat)
 b_3,
 TV.str s_3]))
 fun (h_11 : Array Obj) ↦
 wok h_11 (Array.size h)
 (0 : Nat) (67 : Nat) ∧
 Vc.Bind
 (TV.put h_11
 (Array.size h)
 (0 : Nat)
 (TV.agg
 [TV.int
 IntKind.i64
 n_15,
 TV.bytes
 (32 : Nat)
 b_4,
 TV.int
 IntKind.i64
 n_16,
 TV.bytes
 (32 : Nat)
 b_5,
 TV.str s_4]))
 fun
 (h_12 : Array Obj) ↦
 J
 (some
 (Loc.mk
 (Array.size
 h_6)
 (0 : Nat)),
 some
 (Loc.mk
 (Array.size
 h_7)
 (0 : Nat)),
 some
 (Loc.mk
 (Array.size h)
 (0 : Nat)))
 h_12) ∧
 Vc.Bind
 (newTV h_6
 (TV.agg
 [TV.int IntKind.i64 (0 : Int),
 TV.bytes (32 : Nat) (Bs.zero (32 : Nat)),
 TV.int IntKind.i64 (0 : Int),
 TV.bytes (32 : Nat) (Bs.zero (32 : Nat)),
 TV.str []])
 (32 : Nat))
 fun (h_7 : Array Obj) ↦
 Ext h_6 h_7 ∧
 (CallsH Try.prog (14 : Nat)
 (TVs.vals
 [TV.agg
 [TV.int IntKind.i64 n_8,
 TV.int IntKind.i64 n_9,
 TV.int IntKind.i64 n_10,
 TV.int IntKind.i64 n_11, TV.str s_2]])
 h_7 fun (v : Value) (h_8 : Array Obj) ↦
 ∃ (n_15 : Int),
 ∃ (b_4 : Bs (32 : Nat)),
 ∃ (n_16 : Int),
 ∃ (b_5 : Bs (32 : Nat)),
 ∃ (s_4 : List UInt8),
 v =
 TV.val
 (TV.agg
 [TV.int IntKind.i64 n_15,
 TV.bytes (32 : Nat) b_4,
 TV.int IntKind.i64 n_16,
 TV.bytes (32 : Nat) b_5,
 TV.str s_4]) ∧
 Vc.Bind
 (newTV h_8
 (TV.agg
 [TV.int IntKind.i64 (0 : Int),
 TV.bytes (32 : Nat)
 (Bs.zero (32 : Nat)),
 TV.int IntKind.i64 (0 : Int),
 TV.bytes (32 : Nat)
 (Bs.zero (32 : Nat)),
 TV.str []])
 (32 : Nat))
 fun (h_9 : Array Obj) ↦
 Ext h_8 h_9 ∧
 wok h_9 (Array.size h_8) (0 : Nat)
 (67 : Nat) ∧
 Vc.Bind
 (TV.put h_9 (Array.size h_8)
 (0 : Nat)
 (TV.agg
 [TV.int IntKind.i64 n,
 TV.bytes (32 : Nat) b,
 TV.int IntKind.i64 n_12,
 TV.bytes (32 : Nat) b_1,
 TV.str s]))
 fun (h_10 : Array Obj) ↦
 wok h_10 (Array.size h_6)
 (0 : Nat) (67 : Nat) ∧
 Vc.Bind
 (TV.put h_10
 (Array.size h_6)
 (0 : Nat)
 (TV.agg
 [TV.int IntKind.i64
 n_13,
 TV.bytes (32 : Nat)
 b_2,
 TV.int IntKind.i64
 n_14,
 TV.bytes (32 : Nat)
 b_3,
 TV.str s_3]))
 fun (h_11 : Array Obj) ↦
 wok h_11 (Array.size h)
 (0 : Nat) (67 : Nat) ∧
 Vc.Bind
 (TV.put h_11
 (Array.size h)
 (0 : Nat)
 (TV.agg
 [TV.int
 IntKind.i64
 n_15,
 TV.bytes
 (32 : Nat)
 b_4,
 TV.int
 IntKind.i64
 n_16,
 TV.bytes
 (32 : Nat)
 b_5,
 TV.str s_4]))
 fun
 (h_12 : Array Obj) ↦
 J
 (some
 (Loc.mk
 (Array.size
 h_8)
 (0 : Nat)),
 some
 (Loc.mk
 (Array.size
 h_6)
 (0 : Nat)),
 some
 (Loc.mk
 (Array.size h)
 (0 : Nat)))
 h_12) ∧
 Vc.Bind
 (newTV h_7
 (TV.agg
 [TV.int IntKind.i64 (0 : Int),
 TV.bytes (32 : Nat) (Bs.zero (32 : Nat)),
 TV.int IntKind.i64 (0 : Int),
 TV.bytes (32 : Nat) (Bs.zero (32 : Nat)),
 TV.str []])
 (32 : Nat))
 fun (h_8 : Array Obj) ↦
 Ext h_7 h_8 ∧
 CallsH Try.prog (14 : Nat)
 (TVs.vals
 [TV.agg
 [TV.int IntKind.i64 n_8,
 TV.int IntKind.i64 n_9,
 TV.int IntKind.i64 n_10,
 TV.int IntKind.i64 n_11, TV.str s_2]])
 h_8 fun (v : Value) (h_9 : Array Obj) ↦
 ∃ (n_15 : Int),
 ∃ (b_4 : Bs (32 : Nat)),
 ∃ (n_16 : Int),
 ∃ (b_5 : Bs (32 : Nat)),
 ∃ (s_4 : List UInt8),
 v =
 TV.val
 (TV.agg
 [TV.int IntKind.i64 n_15,
 TV.bytes (32 : Nat) b_4,
 TV.int IntKind.i64 n_16,
 TV.bytes (32 : Nat) b_5,
 TV.str s_4]) ∧
 wok h_9 (Array.size h_7) (0 : Nat)
 (67 : Nat) ∧
 Vc.Bind
 (TV.put h_9 (Array.size h_7)
 (0 : Nat)
 (TV.agg
 [TV.int IntKind.i64 n,
 TV.bytes (32 : Nat) b,
 TV.int IntKind.i64 n_12,
 TV.bytes (32 : Nat) b_1,
 TV.str s]))
 fun (h_10 : Array Obj) ↦
 wok h_10 (Array.size h_6)
 (0 : Nat) (67 : Nat) ∧
 Vc.Bind
 (TV.put h_10
 (Array.size h_6)
 (0 : Nat)
 (TV.agg
 [TV.int IntKind.i64
 n_13,
 TV.bytes (32 : Nat)
 b_2,
 TV.int IntKind.i64
 n_14,
 TV.bytes (32 : Nat)
 b_3,
 TV.str s_3]))
 fun (h_11 : Array Obj) ↦
 wok h_11 (Array.size h)
 (0 : Nat) (67 : Nat) ∧
 Vc.Bind
 (TV.put h_11
 (Array.size h)
 (0 : Nat)
 (TV.agg
 [TV.int
 IntKind.i64
 n_15,
 TV.bytes
 (32 : Nat)
 b_4,
 TV.int
 IntKind.i64
 n_16,
 TV.bytes
 (32 : Nat)
 b_5,
 TV.str s_4]))
 fun
 (h_12 : Array Obj) ↦
 J
 (some
 (Loc.mk
 (Array.size
 h_7)
 (0 : Nat)),
 some
 (Loc.mk
 (Array.size
 h_6)
 (0 : Nat)),
 some
 (Loc.mk
 (Array.size h)
 (0 : Nat)))
 h_12) ∧
 (Vc.Bind
 (newTV h_5
 (TV.agg
 [TV.int IntKind.i64 (0 : Int),
 TV.bytes (32 : Nat) (Bs.zero (32 : Nat)),
 TV.int IntKind.i64 (0 : Int),
 TV.bytes (32 : Nat) (Bs.zero (32 : Nat)), TV.str []])
 (32 : Nat))
 fun (h_6 : Array Obj) ↦
 Ext h_5 h_6 ∧
 (CallsH Try.prog (14 : Nat)
 (TVs.vals
 [TV.agg
 [TV.int IntKind.i64 n_4, TV.int IntKind.i64 n_5,
 TV.int IntKind.i64 n_6, TV.int IntKind.i64 n_7,
 TV.str s_1]])
 h_6 fun (v : Value) (h_7 : Array Obj) ↦
 ∃ (n_13 : Int),
 ∃ (b_2 : Bs (32 : Nat)),
 ∃ (n_14 : Int),
 ∃ (b_3 : Bs (32 : Nat)),
 ∃ (s_3 : List UInt8),
 v =
 TV.val
 (TV.agg
 [TV.int IntKind.i64 n_13, TV.bytes (32 : Nat) b_2,
 TV.int IntKind.i64 n_14,
 TV.bytes (32 : Nat) b_3, TV.str s_3]) ∧
 Ext h_6 h_7 ∧
 (CallsH Try.prog (14 : Nat)
 (TVs.vals
 [TV.agg
 [TV.int IntKind.i64 n_8,
 TV.int IntKind.i64 n_9,
 TV.int IntKind.i64 n_10,
 TV.int IntKind.i64 n_11, TV.str s_2]])
 h_7 fun (v : Value) (h_8 : Array Obj) ↦
 ∃ (n_15 : Int),
 ∃ (b_4 : Bs (32 : Nat)),
 ∃ (n_16 : Int),
 ∃ (b_5 : Bs (32 : Nat)),
 ∃ (s_4 : List UInt8),
 v =
 TV.val
 (TV.agg
 [TV.int IntKind.i64 n_15,
 TV.bytes (32 : Nat) b_4,
 TV.int IntKind.i64 n_16,
 TV.bytes (32 : Nat) b_5,
 TV.str s_4]) ∧
 Vc.Bind
 (newTV h_8
 (TV.agg
 [TV.int IntKind.i64 (0 : Int),
 TV.bytes (32 : Nat)
 (Bs.zero (32 : Nat)),
 TV.int IntKind.i64 (0 : Int),
 TV.bytes (32 : Nat)
 (Bs.zero (32 : Nat)),
 TV.str []])
 (32 : Nat))
 fun (h_9 : Array Obj) ↦
 Ext h_8 h_9 ∧
 wok h_9 (Array.size h_5) (0 : Nat)
 (67 : Nat) ∧
 Vc.Bind
 (TV.put h_9 (Array.size h_5)
 (0 : Nat)
 (TV.agg
 [TV.int IntKind.i64 n,
 TV.bytes (32 : Nat) b,
 TV.int IntKind.i64 n_12,
 TV.bytes (32 : Nat) b_1,
 TV.str s]))
 fun (h_10 : Array Obj) ↦
 wok h_10 (Array.size h_8)
 (0 : Nat) (67 : Nat) ∧
 Vc.Bind
 (TV.put h_10
 (Array.size h_8)
 (0 : Nat)
 (TV.agg
 [TV.int IntKind.i64
 n_13,
 TV.bytes (32 : Nat)
 b_2,
 TV.int IntKind.i64
 n_14,
 TV.bytes (32 : Nat)
 b_3,
 TV.str s_3]))
 fun (h_11 : Array Obj) ↦
 wok h_11 (Array.size h)
 (0 : Nat) (67 : Nat) ∧
 Vc.Bind
 (TV.put h_11
 (Array.size h)
 (0 : Nat)
 (TV.agg
 [TV.int
 IntKind.i64
 n_15,
 TV.bytes
 (32 : Nat)
 b_4,
 TV.int
 IntKind.i64
 n_16,
 TV.bytes
 (32 : Nat)
 b_5,
 TV.str s_4]))
 fun
 (h_12 : Array Obj) ↦
 J
 (some
 (Loc.mk
 (Array.size
 h_5)
 (0 : Nat)),
 some
 (Loc.mk
 (Array.size
 h_8)
 (0 : Nat)),
 some
 (Loc.mk
 (Array.size h)
 (0 : Nat)))
 h_12) ∧
 Vc.Bind
 (newTV h_7
 (TV.agg
 [TV.int IntKind.i64 (0 : Int),
 TV.bytes (32 : Nat) (Bs.zero (32 : Nat)),
 TV.int IntKind.i64 (0 : Int),
 TV.bytes (32 : Nat) (Bs.zero (32 : Nat)),
 TV.str []])
 (32 : Nat))
 fun (h_8 : Array Obj) ↦
 Ext h_7 h_8 ∧
 CallsH Try.prog (14 : Nat)
 (TVs.vals
 [TV.agg
 [TV.int IntKind.i64 n_8,
 TV.int IntKind.i64 n_9,
 TV.int IntKind.i64 n_10,
 TV.int IntKind.i64 n_11, TV.str s_2]])
 h_8 fun (v : Value) (h_9 : Array Obj) ↦
 ∃ (n_15 : Int),
 ∃ (b_4 : Bs (32 : Nat)),
 ∃ (n_16 : Int),
 ∃ (b_5 : Bs (32 : Nat)),
 ∃ (s_4 : List UInt8),
 v =
 TV.val
 (TV.agg
 [TV.int IntKind.i64 n_15,
 TV.bytes (32 : Nat) b_4,
 TV.int IntKind.i64 n_16,
 TV.bytes (32 : Nat) b_5,
 TV.str s_4]) ∧
 wok h_9 (Array.size h_5) (0 : Nat)
 (67 : Nat) ∧
 Vc.Bind
 (TV.put h_9 (Array.size h_5)
 (0 : Nat)
 (TV.agg
 [TV.int IntKind.i64 n,
 TV.bytes (32 : Nat) b,
 TV.int IntKind.i64 n_12,
 TV.bytes (32 : Nat) b_1,
 TV.str s]))
 fun (h_10 : Array Obj) ↦
 wok h_10 (Array.size h_7)
 (0 : Nat) (67 : Nat) ∧
 Vc.Bind
 (TV.put h_10
 (Array.size h_7)
 (0 : Nat)
 (TV.agg
 [TV.int IntKind.i64
 n_13,
 TV.bytes (32 : Nat)
 b_2,
 TV.int IntKind.i64
 n_14,
 TV.bytes (32 : Nat)
 b_3,
 TV.str s_3]))
 fun (h_11 : Array Obj) ↦
 wok h_11 (Array.size h)
 (0 : Nat) (67 : Nat) ∧
 Vc.Bind
 (TV.put h_11
 (Array.size h)
 (0 : Nat)
 (TV.agg
 [TV.int
 IntKind.i64
 n_15,
 TV.bytes
 (32 : Nat)
 b_4,
 TV.int
 IntKind.i64
 n_16,
 TV.bytes
 (32 : Nat)
 b_5,
 TV.str s_4]))
 fun
 (h_12 : Array Obj) ↦
 J
 (some
 (Loc.mk
 (Array.size
 h_5)
 (0 : Nat)),
 some
 (Loc.mk
 (Array.size
 h_7)
 (0 : Nat)),
 some
 (Loc.mk
 (Array.size h)
 (0 : Nat)))
 h_12) ∧
 Vc.Bind
 (newTV h_6
 (TV.agg
 [TV.int IntKind.i64 (0 : Int),
 TV.bytes (32 : Nat) (Bs.zero (32 : Nat)),
 TV.int IntKind.i64 (0 : Int),
 TV.bytes (32 : Nat) (Bs.zero (32 : Nat)), TV.str []])
 (32 : Nat))
 fun (h_7 : Array Obj) ↦
 Ext h_6 h_7 ∧
 CallsH Try.prog (14 : Nat)
 (TVs.vals
 [TV.agg
 [TV.int IntKind.i64 n_4, TV.int IntKind.i64 n_5,
 TV.int IntKind.i64 n_6, TV.int IntKind.i64 n_7,
 TV.str s_1]])
 h_7 fun (v : Value) (h_8 : Array Obj) ↦
 ∃ (n_13 : Int),
 ∃ (b_2 : Bs (32 : Nat)),
 ∃ (n_14 : Int),
 ∃ (b_3 : Bs (32 : Nat)),
 ∃ (s_3 : List UInt8),
 v =
 TV.val
 (TV.agg
 [TV.int IntKind.i64 n_13,
 TV.bytes (32 : Nat) b_2,
 TV.int IntKind.i64 n_14,
 TV.bytes (32 : Nat) b_3, TV.str s_3]) ∧
 Ext h_7 h_8 ∧
 CallsH Try.prog (14 : Nat)
 (TVs.vals
 [TV.agg
 [TV.int IntKind.i64 n_8,
 TV.int IntKind.i64 n_9,
 TV.int IntKind.i64 n_10,
 TV.int IntKind.i64 n_11, TV.str s_2]])
 h_8 fun (v : Value) (h_9 : Array Obj) ↦
 ∃ (n_15 : Int),
 ∃ (b_4 : Bs (32 : Nat)),
 ∃ (n_16 : Int),
 ∃ (b_5 : Bs (32 : Nat)),
 ∃ (s_4 : List UInt8),
 v =
 TV.val
 (TV.agg
 [TV.int IntKind.i64 n_15,
 TV.bytes (32 : Nat) b_4,
 TV.int IntKind.i64 n_16,
 TV.bytes (32 : Nat) b_5,
 TV.str s_4]) ∧
 wok h_9 (Array.size h_5) (0 : Nat)
 (67 : Nat) ∧
 Vc.Bind
 (TV.put h_9 (Array.size h_5)
 (0 : Nat)
 (TV.agg
 [TV.int IntKind.i64 n,
 TV.bytes (32 : Nat) b,
 TV.int IntKind.i64 n_12,
 TV.bytes (32 : Nat) b_1,
 TV.str s]))
 fun (h_10 : Array Obj) ↦
 wok h_10 (Array.size h_6)
 (0 : Nat) (67 : Nat) ∧
 Vc.Bind
 (TV.put h_10
 (Array.size h_6) (0 : Nat)
 (TV.agg
 [TV.int IntKind.i64
 n_13,
 TV.bytes (32 : Nat)
 b_2,
 TV.int IntKind.i64
 n_14,
 TV.bytes (32 : Nat)
 b_3,
 TV.str s_3]))
 fun (h_11 : Array Obj) ↦
 wok h_11 (Array.size h)
 (0 : Nat) (67 : Nat) ∧
 Vc.Bind
 (TV.put h_11
 (Array.size h)
 (0 : Nat)
 (TV.agg
 [TV.int IntKind.i64
 n_15,
 TV.bytes
 (32 : Nat) b_4,
 TV.int IntKind.i64
 n_16,
 TV.bytes
 (32 : Nat) b_5,
 TV.str s_4]))
 fun (h_12 : Array Obj) ↦
 J
 (some
 (Loc.mk
 (Array.size h_5)
 (0 : Nat)),
 some
 (Loc.mk
 (Array.size h_6)
 (0 : Nat)),
 some
 (Loc.mk
 (Array.size h)
 (0 : Nat)))
 h_12) ∧
 Vc.Bind
 (newTV h_5
 (TV.agg
 [TV.int IntKind.i64 (0 : Int),
 TV.bytes (32 : Nat) (Bs.zero (32 : Nat)),
 TV.int IntKind.i64 (0 : Int),
 TV.bytes (32 : Nat) (Bs.zero (32 : Nat)), TV.str []])
 (32 : Nat))
 fun (h_6 : Array Obj) ↦
 Ext h_5 h_6 ∧
 (CallsH Try.prog (14 : Nat)
 (TVs.vals
 [TV.agg
 [TV.int IntKind.i64 n_4, TV.int IntKind.i64 n_5,
 TV.int IntKind.i64 n_6, TV.int IntKind.i64 n_7,
 TV.str s_1]])
 h_6 fun (v : Value) (h_7 : Array Obj) ↦
 ∃ (n_13 : Int),
 ∃ (b_2 : Bs (32 : Nat)),
 ∃ (n_14 : Int),
 ∃ (b_3 : Bs (32 : Nat)),
 ∃ (s_3 : List UInt8),
 v =
 TV.val
 (TV.agg
 [TV.int IntKind.i64 n_13, TV.bytes (32 : Nat) b_2,
 TV.int IntKind.i64 n_14,
 TV.bytes (32 : Nat) b_3, TV.str s_3]) ∧
 Ext h_6 h_7 ∧
 (CallsH Try.prog (14 : Nat)
 (TVs.vals
 [TV.agg
 [TV.int IntKind.i64 n_8,
 TV.int IntKind.i64 n_9,
 TV.int IntKind.i64 n_10,
 TV.int IntKind.i64 n_11, TV.str s_2]])
 h_7 fun (v : Value) (h_8 : Array Obj) ↦
 ∃ (n_15 : Int),
 ∃ (b_4 : Bs (32 : Nat)),
 ∃ (n_16 : Int),
 ∃ (b_5 : Bs (32 : Nat)),
 ∃ (s_4 : List UInt8),
 v =
 TV.val
 (TV.agg
 [TV.int IntKind.i64 n_15,
 TV.bytes (32 : Nat) b_4,
 TV.int IntKind.i64 n_16,
 TV.bytes (32 : Nat) b_5,
 TV.str s_4]) ∧
 Vc.Bind
 (newTV h_8
 (TV.agg
 [TV.int IntKind.i64 (0 : Int),
 TV.bytes (32 : Nat)
 (Bs.zero (32 : Nat)),
 TV.int IntKind.i64 (0 : Int),
 TV.bytes (32 : Nat)
 (Bs.zero (32 : Nat)),
 TV.str []])
 (32 : Nat))
 fun (h_9 : Array Obj) ↦
 Ext h_8 h_9 ∧
 wok h_9 (Array.size h_8) (0 : Nat)
 (67 : Nat) ∧
 Vc.Bind
 (TV.put h_9 (Array.size h_8)
 (0 : Nat)
 (TV.agg
 [TV.int IntKind.i64 n,
 TV.bytes (32 : Nat) b,
 TV.int IntKind.i64 n_12,
 TV.bytes (32 : Nat) b_1,
 TV.str s]))
 fun (h_10 : Array Obj) ↦
 wok h_10 (Array.size h_5)
 (0 : Nat) (67 : Nat) ∧
 Vc.Bind
 (TV.put h_10
 (Array.size h_5)
 (0 : Nat)
 (TV.agg
 [TV.int IntKind.i64
 n_13,
 TV.bytes (32 : Nat)
 b_2,
 TV.int IntKind.i64
 n_14,
 TV.bytes (32 : Nat)
 b_3,
 TV.str s_3]))
 fun (h_11 : Array Obj) ↦
 wok h_11 (Array.size h)
 (0 : Nat) (67 : Nat) ∧
 Vc.Bind
 (TV.put h_11
 (Array.size h)
 (0 : Nat)
 (TV.agg
 [TV.int
 IntKind.i64
 n_15,
 TV.bytes
 (32 : Nat)
 b_4,
 TV.int
 IntKind.i64
 n_16,
 TV.bytes
 (32 : Nat)
 b_5,
 TV.str s_4]))
 fun
 (h_12 : Array Obj) ↦
 J
 (some
 (Loc.mk
 (Array.size
 h_8)
 (0 : Nat)),
 some
 (Loc.mk
 (Array.size
 h_5)
 (0 : Nat)),
 some
 (Loc.mk
 (Array.size h)
 (0 : Nat)))
 h_12) ∧
 Vc.Bind
 (newTV h_7
 (TV.agg
 [TV.int IntKind.i64 (0 : Int),
 TV.bytes (32 : Nat) (Bs.zero (32 : Nat)),
 TV.int IntKind.i64 (0 : Int),
 TV.bytes (32 : Nat) (Bs.zero (32 : Nat)),
 TV.str []])
 (32 : Nat))
 fun (h_8 : Array Obj) ↦
 Ext h_7 h_8 ∧
 CallsH Try.prog (14 : Nat)
 (TVs.vals
 [TV.agg
 [TV.int IntKind.i64 n_8,
 TV.int IntKind.i64 n_9,
 TV.int IntKind.i64 n_10,
 TV.int IntKind.i64 n_11, TV.str s_2]])
 h_8 fun (v : Value) (h_9 : Array Obj) ↦
 ∃ (n_15 : Int),
 ∃ (b_4 : Bs (32 : Nat)),
 ∃ (n_16 : Int),
 ∃ (b_5 : Bs (32 : Nat)),
 ∃ (s_4 : List UInt8),
 v =
 TV.val
 (TV.agg
 [TV.int IntKind.i64 n_15,
 TV.bytes (32 : Nat) b_4,
 TV.int IntKind.i64 n_16,
 TV.bytes (32 : Nat) b_5,
 TV.str s_4]) ∧
 wok h_9 (Array.size h_7) (0 : Nat)
 (67 : Nat) ∧
 Vc.Bind
 (TV.put h_9 (Array.size h_7)
 (0 : Nat)
 (TV.agg
 [TV.int IntKind.i64 n,
 TV.bytes (32 : Nat) b,
 TV.int IntKind.i64 n_12,
 TV.bytes (32 : Nat) b_1,
 TV.str s]))
 fun (h_10 : Array Obj) ↦
 wok h_10 (Array.size h_5)
 (0 : Nat) (67 : Nat) ∧
 Vc.Bind
 (TV.put h_10
 (Array.size h_5)
 (0 : Nat)
 (TV.agg
 [TV.int IntKind.i64
 n_13,
 TV.bytes (32 : Nat)
 b_2,
 TV.int IntKind.i64
 n_14,
 TV.bytes (32 : Nat)
 b_3,
 TV.str s_3]))
 fun (h_11 : Array Obj) ↦
 wok h_11 (Array.size h)
 (0 : Nat) (67 : Nat) ∧
 Vc.Bind
 (TV.put h_11
 (Array.size h)
 (0 : Nat)
 (TV.agg
 [TV.int
 IntKind.i64
 n_15,
 TV.bytes
 (32 : Nat)
 b_4,
 TV.int
 IntKind.i64
 n_16,
 TV.bytes
 (32 : Nat)
 b_5,
 TV.str s_4]))
 fun
 (h_12 : Array Obj) ↦
 J
 (some
 (Loc.mk
 (Array.size
 h_7)
 (0 : Nat)),
 some
 (Loc.mk
 (Array.size
 h_5)
 (0 : Nat)),
 some
 (Loc.mk
 (Array.size h)
 (0 : Nat)))
 h_12) ∧
 Vc.Bind
 (newTV h_6
 (TV.agg
 [TV.int IntKind.i64 (0 : Int),
 TV.bytes (32 : Nat) (Bs.zero (32 : Nat)),
 TV.int IntKind.i64 (0 : Int),
 TV.bytes (32 : Nat) (Bs.zero (32 : Nat)), TV.str []])
 (32 : Nat))
 fun (h_7 : Array Obj) ↦
 Ext h_6 h_7 ∧
 CallsH Try.prog (14 : Nat)
 (TVs.vals
 [TV.agg
 [TV.int IntKind.i64 n_4, TV.int IntKind.i64 n_5,
 TV.int IntKind.i64 n_6, TV.int IntKind.i64 n_7,
 TV.str s_1]])
 h_7 fun (v : Value) (h_8 : Array Obj) ↦
 ∃ (n_13 : Int),
 ∃ (b_2 : Bs (32 : Nat)),
 ∃ (n_14 : Int),
 ∃ (b_3 : Bs (32 : Nat)),
 ∃ (s_3 : List UInt8),
 v =
 TV.val
 (TV.agg
 [TV.int IntKind.i64 n_13,
 TV.bytes (32 : Nat) b_2,
 TV.int IntKind.i64 n_14,
 TV.bytes (32 : Nat) b_3, TV.str s_3]) ∧
 Ext h_7 h_8 ∧
 CallsH Try.prog (14 : Nat)
 (TVs.vals
 [TV.agg
 [TV.int IntKind.i64 n_8,
 TV.int IntKind.i64 n_9,
 TV.int IntKind.i64 n_10,
 TV.int IntKind.i64 n_11, TV.str s_2]])
 h_8 fun (v : Value) (h_9 : Array Obj) ↦
 ∃ (n_15 : Int),
 ∃ (b_4 : Bs (32 : Nat)),
 ∃ (n_16 : Int),
 ∃ (b_5 : Bs (32 : Nat)),
 ∃ (s_4 : List UInt8),
 v =
 TV.val
 (TV.agg
 [TV.int IntKind.i64 n_15,
 TV.bytes (32 : Nat) b_4,
 TV.int IntKind.i64 n_16,
 TV.bytes (32 : Nat) b_5,
 TV.str s_4]) ∧
 wok h_9 (Array.size h_6) (0 : Nat)
 (67 : Nat) ∧
 Vc.Bind
 (TV.put h_9 (Array.size h_6)
 (0 : Nat)
 (TV.agg
 [TV.int IntKind.i64 n,
 TV.bytes (32 : Nat) b,
 TV.int IntKind.i64 n_12,
 TV.bytes (32 : Nat) b_1,
 TV.str s]))
 fun (h_10 : Array Obj) ↦
 wok h_10 (Array.size h_5)
 (0 : Nat) (67 : Nat) ∧
 Vc.Bind
 (TV.put h_10
 (Array.size h_5) (0 : Nat)
 (TV.agg
 [TV.int IntKind.i64
 n_13,
 TV.bytes (32 : Nat)
 b_2,
 TV.int IntKind.i64
 n_14,
 TV.bytes (32 : Nat)
 b_3,
 TV.str s_3]))
 fun (h_11 : Array Obj) ↦
 wok h_11 (Array.size h)
 (0 : Nat) (67 : Nat) ∧
 Vc.Bind
 (TV.put h_11
 (Array.size h)
 (0 : Nat)
 (TV.agg
 [TV.int IntKind.i64
 n_15,
 TV.bytes
 (32 : Nat) b_4,
 TV.int IntKind.i64
 n_16,
 TV.bytes
 (32 : Nat) b_5,
 TV.str s_4]))
 fun (h_12 : Array Obj) ↦
 J
 (some
 (Loc.mk
 (Array.size h_6)
 (0 : Nat)),
 some
 (Loc.mk
 (Array.size h_5)
 (0 : Nat)),
 some
 (Loc.mk
 (Array.size h)
 (0 : Nat)))
 h_12) ∧
 (Vc.Bind
 (newTV h_4
 (TV.agg
 [TV.int IntKind.i64 (0 : Int), TV.bytes (32 : Nat) (Bs.zero (32 : Nat)),
 TV.int IntKind.i64 (0 : Int), TV.bytes (32 : Nat) (Bs.zero (32 : Nat)), TV.str []])
 (32 : Nat))
 fun (h : Array Obj) ↦
 Ext h_4 h ∧
 (CallsH Try.prog (14 : Nat)
 (TVs.vals
 [TV.agg
 [TV.int IntKind.i64 n, TV.int IntKind.i64 n_1, TV.int IntKind.i64 n_2,
 TV.int IntKind.i64 n_3, TV.str s]])
 h fun (v : Value) (h_5 : Array Obj) ↦
 ∃ (n : Int),
 ∃ (b : Bs (32 : Nat)),
 ∃ (n_12 : Int),
 ∃ (b_1 : Bs (32 : Nat)),
 ∃ (s : List UInt8),
 v =
 TV.val
 (TV.agg
 [TV.int IntKind.i64 n, TV.bytes (32 : Nat) b, TV.int IntKind.i64 n_12,
 TV.bytes (32 : Nat) b_1, TV.str s]) ∧
 Ext h h_5 ∧
 (CallsH Try.prog (14 : Nat)
 (TVs.vals
 [TV.agg
 [TV.int IntKind.i64 n_4, TV.int IntKind.i64 n_5, TV.int IntKind.i64 n_6,
 TV.int IntKind.i64 n_7, TV.str s_1]])
 h_5 fun (v : Value) (h : Array Obj) ↦
 ∃ (n_13 : Int),
 ∃ (b_2 : Bs (32 : Nat)),
 ∃ (n_14 : Int),
 ∃ (b_3 : Bs (32 : Nat)),
 ∃ (s_3 : List UInt8),
 v =
 TV.val
 (TV.agg
 [TV.int IntKind.i64 n_13, TV.bytes (32 : Nat) b_2,
 TV.int IntKind.i64 n_14, TV.bytes (32 : Nat) b_3,
 TV.str s_3]) ∧
 Ext h_5 h ∧
 (CallsH Try.prog (14 : Nat)
 (TVs.vals
 [TV.agg
 [TV.int IntKind.i64 n_8, TV.int IntKind.i64 n_9,
 TV.int IntKind.i64 n_10, TV.int IntKind.i64 n_11,
 TV.str s_2]])
 h fun (v : Value) (h : Array Obj) ↦
 ∃ (n_15 : Int),
 ∃ (b_4 : Bs (32 : Nat)),
 ∃ (n_16 : Int),
 ∃ (b_5 : Bs (32 : Nat)),
 ∃ (s_4 : List UInt8),
 v =
 TV.val
 (TV.agg
 [TV.int IntKind.i64 n_15,
 TV.bytes (32 : Nat) b_4,
 TV.int IntKind.i64 n_16,
 TV.bytes (32 : Nat) b_5, TV.str s_4]) ∧
 (Vc.Bind
 (newTV h
 (TV.agg
 [TV.int IntKind.i64 (0 : Int),
 TV.bytes (32 : Nat)
 (Bs.zero (32 : Nat)),
 TV.int IntKind.i64 (0 : Int),
 TV.bytes (32 : Nat)
 (Bs.zero (32 : Nat)),
 TV.str []])
 (32 : Nat))
 fun (h_6 : Array Obj) ↦
 Ext h h_6 ∧
 Vc.Bind
 (newTV h_6
 (TV.agg
 [TV.int IntKind.i64 (0 : Int),
 TV.bytes (32 : Nat)
 (Bs.zero (32 : Nat)),
 TV.int IntKind.i64 (0 : Int),
 TV.bytes (32 : Nat)
 (Bs.zero (32 : Nat)),
 TV.str []])
 (32 : Nat))
 fun (h_7 : Array Obj) ↦
 Ext h_6 h_7 ∧
 wok h_7 (Array.size h_4) (0 : Nat)
 (67 : Nat) ∧
 Vc.Bind
 (TV.put h_7 (Array.size h_4)
 (0 : Nat)
 (TV.agg
 [TV.int IntKind.i64 n,
 TV.bytes (32 : Nat) b,
 TV.int IntKind.i64 n_12,
 TV.bytes (32 : Nat) b_1,
 TV.str s]))
 fun (h_8 : Array Obj) ↦
 wok h_8 (Array.size h) (0 : Nat)
 (67 : Nat) ∧
 Vc.Bind
 (TV.put h_8 (Array.size h)
 (0 : Nat)
 (TV.agg
 [TV.int IntKind.i64 n_13,
 TV.bytes (32 : Nat) b_2,
 TV.int IntKind.i64 n_14,
 TV.bytes (32 : Nat) b_3,
 TV.str s_3]))
 fun (h_9 : Array Obj) ↦
 wok h_9 (Array.size h_6)
 (0 : Nat) (67 : Nat) ∧
 Vc.Bind
 (TV.put h_9
 (Array.size h_6)
 (0 : Nat)
 (TV.agg
 [TV.int IntKind.i64
 n_15,
 TV.bytes (32 : Nat)
 b_4,
 TV.int IntKind.i64
 n_16,
 TV.bytes (32 : Nat)
 b_5,
 TV.str s_4]))
 fun (h_10 : Array Obj) ↦
 J
 (some
 (Loc.mk
 (Array.size h_4)
 (0 : Nat)),
 some
 (Loc.mk
 (Array.size h)
 (0 : Nat)),
 some
 (Loc.mk
 (Array.size h_6)
 (0 : Nat)))
 h_10) ∧
 Vc.Bind
 (newTV h
 (TV.agg
 [TV.int IntKind.i64 (0 : Int),
 TV.bytes (32 : Nat)
 (Bs.zero (32 : Nat)),
 TV.int IntKind.i64 (0 : Int),
 TV.bytes (32 : Nat)
 (Bs.zero (32 : Nat)),
 TV.str []])
 (32 : Nat))
 fun (h_6 : Array Obj) ↦
 Ext h h_6 ∧
 Vc.Bind
 (newTV h_6
 (TV.agg
 [TV.int IntKind.i64 (0 : Int),
 TV.bytes (32 : Nat)
 (Bs.zero (32 : Nat)),
 TV.int IntKind.i64 (0 : Int),
 TV.bytes (32 : Nat)
 (Bs.zero (32 : Nat)),
 TV.str []])
 (32 : Nat))
 fun (h_7 : Array Obj) ↦
 Ext h_6 h_7 ∧
 wok h_7 (Array.size h_4) (0 : Nat)
 (67 : Nat) ∧
 Vc.Bind
 (TV.put h_7 (Array.size h_4)
 (0 : Nat)
 (TV.agg
 [TV.int IntKind.i64 n,
 TV.bytes (32 : Nat) b,
 TV.int IntKind.i64 n_12,
 TV.bytes (32 : Nat) b_1,
 TV.str s]))
 fun (h_8 : Array Obj) ↦
 wok h_8 (Array.size h_6) (0 : Nat)
 (67 : Nat) ∧
 Vc.Bind
 (TV.put h_8 (Array.size h_6)
 (0 : Nat)
 (TV.agg
 [TV.int IntKind.i64 n_13,
 TV.bytes (32 : Nat) b_2,
 TV.int IntKind.i64 n_14,
 TV.bytes (32 : Nat) b_3,
 TV.str s_3]))
 fun (h_9 : Array Obj) ↦
 wok h_9 (Array.size h)
 (0 : Nat) (67 : Nat) ∧
 Vc.Bind
 (TV.put h_9 (Array.size h)
 (0 : Nat)
 (TV.agg
 [TV.int IntKind.i64
 n_15,
 TV.bytes (32 : Nat)
 b_4,
 TV.int IntKind.i64
 n_16,
 TV.bytes (32 : Nat)
 b_5,
 TV.str s_4]))
 fun (h_10 : Array Obj) ↦
 J
 (some
 (Loc.mk
 (Array.size h_4)
 (0 : Nat)),
 some
 (Loc.mk
 (Array.size h_6)
 (0 : Nat)),
 some
 (Loc.mk
 (Array.size h)
 (0 : Nat)))
 h_10) ∧
 (Vc.Bind
 (newTV h
 (TV.agg
 [TV.int IntKind.i64 (0 : Int),
 TV.bytes (32 : Nat) (Bs.zero (32 : Nat)),
 TV.int IntKind.i64 (0 : Int),
 TV.bytes (32 : Nat) (Bs.zero (32 : Nat)),
 TV.str []])
 (32 : Nat))
 fun (h_6 : Array Obj) ↦
 Ext h h_6 ∧
 (CallsH Try.prog (14 : Nat)
 (TVs.vals
 [TV.agg
 [TV.int IntKind.i64 n_8,
 TV.int IntKind.i64 n_9,
 TV.int IntKind.i64 n_10,
 TV.int IntKind.i64 n_11, TV.str s_2]])
 h_6 fun (v : Value) (h_7 : Array Obj) ↦
 ∃ (n_15 : Int),
 ∃ (b_4 : Bs (32 : Nat)),
 ∃ (n_16 : Int),
 ∃ (b_5 : Bs (32 : Nat)),
 ∃ (s_4 : List UInt8),
 v =
 TV.val
 (TV.agg
 [TV.int IntKind.i64 n_15,
 TV.bytes (32 : Nat) b_4,
 TV.int IntKind.i64 n_16,
 TV.bytes (32 : Nat) b_5,
 TV.str s_4]) ∧
 Vc.Bind
 (newTV h_7
 (TV.agg
 [TV.int IntKind.i64 (0 : Int),
 TV.bytes (32 : Nat)
 (Bs.zero (32 : Nat)),
 TV.int IntKind.i64 (0 : Int),
 TV.bytes (32 : Nat)
 (Bs.zero (32 : Nat)),
 TV.str []])
 (32 : Nat))
 fun (h_8 : Array Obj) ↦
 Ext h_7 h_8 ∧
 wok h_8 (Array.size h_4) (0 : Nat)
 (67 : Nat) ∧
 Vc.Bind
 (TV.put h_8 (Array.size h_4)
 (0 : Nat)
 (TV.agg
 [TV.int IntKind.i64 n,
 TV.bytes (32 : Nat) b,
 TV.int IntKind.i64 n_12,
 TV.bytes (32 : Nat) b_1,
 TV.str s]))
 fun (h_9 : Array Obj) ↦
 wok h_9 (Array.size h) (0 : Nat)
 (67 : Nat) ∧
 Vc.Bind
 (TV.put h_9 (Array.size h)
 (0 : Nat)
 (TV.agg
 [TV.int IntKind.i64
 n_13,
 TV.bytes (32 : Nat)
 b_2,
 TV.int IntKind.i64
 n_14,
 TV.bytes (32 : Nat)
 b_3,
 TV.str s_3]))
 fun (h_10 : Array Obj) ↦
 wok h_10 (Array.size h_7)
 (0 : Nat) (67 : Nat) ∧
 Vc.Bind
 (TV.put h_10
 (Array.size h_7)
 (0 : Nat)
 (TV.agg
 [TV.int IntKind.i64
 n_15,
 TV.bytes
 (32 : Nat) b_4,
 TV.int IntKind.i64
 n_16,
 TV.bytes
 (32 : Nat) b_5,
 TV.str s_4]))
 fun (h_11 : Array Obj) ↦
 J
 (some
 (Loc.mk
 (Array.size h_4)
 (0 : Nat)),
 some
 (Loc.mk
 (Array.size h)
 (0 : Nat)),
 some
 (Loc.mk
 (Array.size h_7)
 (0 : Nat)))
 h_11) ∧
 Vc.Bind
 (newTV h_6
 (TV.agg
 [TV.int IntKind.i64 (0 : Int),
 TV.bytes (32 : Nat) (Bs.zero (32 : Nat)),
 TV.int IntKind.i64 (0 : Int),
 TV.bytes (32 : Nat) (Bs.zero (32 : Nat)),
 TV.str []])
 (32 : Nat))
 fun (h_7 : Array Obj) ↦
 Ext h_6 h_7 ∧
 CallsH Try.prog (14 : Nat)
 (TVs.vals
 [TV.agg
 [TV.int IntKind.i64 n_8,
 TV.int IntKind.i64 n_9,
 TV.int IntKind.i64 n_10,
 TV.int IntKind.i64 n_11, TV.str s_2]])
 h_7 fun (v : Value) (h_8 : Array Obj) ↦
 ∃ (n_15 : Int),
 ∃ (b_4 : Bs (32 : Nat)),
 ∃ (n_16 : Int),
 ∃ (b_5 : Bs (32 : Nat)),
 ∃ (s_4 : List UInt8),
 v =
 TV.val
 (TV.agg
 [TV.int IntKind.i64 n_15,
 TV.bytes (32 : Nat) b_4,
 TV.int IntKind.i64 n_16,
 TV.bytes (32 : Nat) b_5,
 TV.str s_4]) ∧
 wok h_8 (Array.size h_4) (0 : Nat)
 (67 : Nat) ∧
 Vc.Bind
 (TV.put h_8 (Array.size h_4)
 (0 : Nat)
 (TV.agg
 [TV.int IntKind.i64 n,
 TV.bytes (32 : Nat) b,
 TV.int IntKind.i64 n_12,
 TV.bytes (32 : Nat) b_1,
 TV.str s]))
 fun (h_9 : Array Obj) ↦
 wok h_9 (Array.size h) (0 : Nat)
 (67 : Nat) ∧
 Vc.Bind
 (TV.put h_9 (Array.size h)
 (0 : Nat)
 (TV.agg
 [TV.int IntKind.i64
 n_13,
 TV.bytes (32 : Nat)
 b_2,
 TV.int IntKind.i64
 n_14,
 TV.bytes (32 : Nat)
 b_3,
 TV.str s_3]))
 fun (h_10 : Array Obj) ↦
 wok h_10 (Array.size h_6)
 (0 : Nat) (67 : Nat) ∧
 Vc.Bind
 (TV.put h_10
 (Array.size h_6)
 (0 : Nat)
 (TV.agg
 [TV.int IntKind.i64
 n_15,
 TV.bytes
 (32 : Nat) b_4,
 TV.int IntKind.i64
 n_16,
 TV.bytes
 (32 : Nat) b_5,
 TV.str s_4]))
 fun (h_11 : Array Obj) ↦
 J
 (some
 (Loc.mk
 (Array.size h_4)
 (0 : Nat)),
 some
 (Loc.mk
 (Array.size h)
 (0 : Nat)),
 some
 (Loc.mk
 (Array.size h_6)
 (0 : Nat)))
 h_11) ∧
 Vc.Bind
 (newTV h
 (TV.agg
 [TV.int IntKind.i64 (0 : Int),
 TV.bytes (32 : Nat) (Bs.zero (32 : Nat)),
 TV.int IntKind.i64 (0 : Int),
 TV.bytes (32 : Nat) (Bs.zero (32 : Nat)),
 TV.str []])
 (32 : Nat))
 fun (h_6 : Array Obj) ↦
 Ext h h_6 ∧
 (CallsH Try.prog (14 : Nat)
 (TVs.vals
 [TV.agg
 [TV.int IntKind.i64 n_8,
 TV.int IntKind.i64 n_9,
 TV.int IntKind.i64 n_10,
 TV.int IntKind.i64 n_11, TV.str s_2]])
 h_6 fun (v : Value) (h_7 : Array Obj) ↦
 ∃ (n_15 : Int),
 ∃ (b_4 : Bs (32 : Nat)),
 ∃ (n_16 : Int),
 ∃ (b_5 : Bs (32 : Nat)),
 ∃ (s_4 : List UInt8),
 v =
 TV.val
 (TV.agg
 [TV.int IntKind.i64 n_15,
 TV.bytes (32 : Nat) b_4,
 TV.int IntKind.i64 n_16,
 TV.bytes (32 : Nat) b_5,
 TV.str s_4]) ∧
 Vc.Bind
 (newTV h_7
 (TV.agg
 [TV.int IntKind.i64 (0 : Int),
 TV.bytes (32 : Nat)
 (Bs.zero (32 : Nat)),
 TV.int IntKind.i64 (0 : Int),
 TV.bytes (32 : Nat)
 (Bs.zero (32 : Nat)),
 TV.str []])
 (32 : Nat))
 fun (h_8 : Array Obj) ↦
 Ext h_7 h_8 ∧
 wok h_8 (Array.size h_4) (0 : Nat)
 (67 : Nat) ∧
 Vc.Bind
 (TV.put h_8 (Array.size h_4)
 (0 : Nat)
 (TV.agg
 [TV.int IntKind.i64 n,
 TV.bytes (32 : Nat) b,
 TV.int IntKind.i64 n_12,
 TV.bytes (32 : Nat) b_1,
 TV.str s]))
 fun (h_9 : Array Obj) ↦
 wok h_9 (Array.size h_7)
 (0 : Nat) (67 : Nat) ∧
 Vc.Bind
 (TV.put h_9 (Array.size h_7)
 (0 : Nat)
 (TV.agg
 [TV.int IntKind.i64
 n_13,
 TV.bytes (32 : Nat)
 b_2,
 TV.int IntKind.i64
 n_14,
 TV.bytes (32 : Nat)
 b_3,
 TV.str s_3]))
 fun (h_10 : Array Obj) ↦
 wok h_10 (Array.size h)
 (0 : Nat) (67 : Nat) ∧
 Vc.Bind
 (TV.put h_10
 (Array.size h)
 (0 : Nat)
 (TV.agg
 [TV.int IntKind.i64
 n_15,
 TV.bytes
 (32 : Nat) b_4,
 TV.int IntKind.i64
 n_16,
 TV.bytes
 (32 : Nat) b_5,
 TV.str s_4]))
 fun (h_11 : Array Obj) ↦
 J
 (some
 (Loc.mk
 (Array.size h_4)
 (0 : Nat)),
 some
 (Loc.mk
 (Array.size h_7)
 (0 : Nat)),
 some
 (Loc.mk
 (Array.size h)
 (0 : Nat)))
 h_11) ∧
 Vc.Bind
 (newTV h_6
 (TV.agg
 [TV.int IntKind.i64 (0 : Int),
 TV.bytes (32 : Nat) (Bs.zero (32 : Nat)),
 TV.int IntKind.i64 (0 : Int),
 TV.bytes (32 : Nat) (Bs.zero (32 : Nat)),
 TV.str []])
 (32 : Nat))
 fun (h_7 : Array Obj) ↦
 Ext h_6 h_7 ∧
 CallsH Try.prog (14 : Nat)
 (TVs.vals
 [TV.agg
 [TV.int IntKind.i64 n_8,
 TV.int IntKind.i64 n_9,
 TV.int IntKind.i64 n_10,
 TV.int IntKind.i64 n_11, TV.str s_2]])
 h_7 fun (v : Value) (h_8 : Array Obj) ↦
 ∃ (n_15 : Int),
 ∃ (b_4 : Bs (32 : Nat)),
 ∃ (n_16 : Int),
 ∃ (b_5 : Bs (32 : Nat)),
 ∃ (s_4 : List UInt8),
 v =
 TV.val
 (TV.agg
 [TV.int IntKind.i64 n_15,
 TV.bytes (32 : Nat) b_4,
 TV.int IntKind.i64 n_16,
 TV.bytes (32 : Nat) b_5,
 TV.str s_4]) ∧
 wok h_8 (Array.size h_4) (0 : Nat)
 (67 : Nat) ∧
 Vc.Bind
 (TV.put h_8 (Array.size h_4)
 (0 : Nat)
 (TV.agg
 [TV.int IntKind.i64 n,
 TV.bytes (32 : Nat) b,
 TV.int IntKind.i64 n_12,
 TV.bytes (32 : Nat) b_1,
 TV.str s]))
 fun (h_9 : Array Obj) ↦
 wok h_9 (Array.size h_6)
 (0 : Nat) (67 : Nat) ∧
 Vc.Bind
 (TV.put h_9 (Array.size h_6)
 (0 : Nat)
 (TV.agg
 [TV.int IntKind.i64
 n_13,
 TV.bytes (32 : Nat)
 b_2,
 TV.int IntKind.i64
 n_14,
 TV.bytes (32 : Nat)
 b_3,
 TV.str s_3]))
 fun (h_10 : Array Obj) ↦
 wok h_10 (Array.size h)
 (0 : Nat) (67 : Nat) ∧
 Vc.Bind
 (TV.put h_10
 (Array.size h)
 (0 : Nat)
 (TV.agg
 [TV.int IntKind.i64
 n_15,
 TV.bytes
 (32 : Nat) b_4,
 TV.int IntKind.i64
 n_16,
 TV.bytes
 (32 : Nat) b_5,
 TV.str s_4]))
 fun (h_11 : Array Obj) ↦
 J
 (some
 (Loc.mk
 (Array.size h_4)
 (0 : Nat)),
 some
 (Loc.mk
 (Array.size h_6)
 (0 : Nat)),
 some
 (Loc.mk
 (Array.size h)
 (0 : Nat)))
 h_11) ∧
 (Vc.Bind
 (newTV h_5
 (TV.agg
 [TV.int IntKind.i64 (0 : Int), TV.bytes (32 : Nat) (Bs.zero (32 : Nat)),
 TV.int IntKind.i64 (0 : Int),
 TV.bytes (32 : Nat) (Bs.zero (32 : Nat)), TV.str []])
 (32 : Nat))
 fun (h : Array Obj) ↦
 Ext h_5 h ∧
 (CallsH Try.prog (14 : Nat)
 (TVs.vals
 [TV.agg
 [TV.int IntKind.i64 n_4, TV.int IntKind.i64 n_5,
 TV.int IntKind.i64 n_6, TV.int IntKind.i64 n_7, TV.str s_1]])
 h fun (v : Value) (h_6 : Array Obj) ↦
 ∃ (n_13 : Int),
 ∃ (b_2 : Bs (32 : Nat)),
 ∃ (n_14 : Int),
 ∃ (b_3 : Bs (32 : Nat)),
 ∃ (s_3 : List UInt8),
 v =
 TV.val
 (TV.agg
 [TV.int IntKind.i64 n_13, TV.bytes (32 : Nat) b_2,
 TV.int IntKind.i64 n_14, TV.bytes (32 : Nat) b_3,
 TV.str s_3]) ∧
 Ext h h_6 ∧
 (CallsH Try.prog (14 : Nat)
 (TVs.vals
 [TV.agg
 [TV.int IntKind.i64 n_8,
 TV.int IntKind.i64 n_9,
 TV.int IntKind.i64 n_10,
 TV.int IntKind.i64 n_11, TV.str s_2]])
 h_6 fun (v : Value) (h : Array Obj) ↦
 ∃ (n_15 : Int),
 ∃ (b_4 : Bs (32 : Nat)),
 ∃ (n_16 : Int),
 ∃ (b_5 : Bs (32 : Nat)),
 ∃ (s_4 : List UInt8),
 v =
 TV.val
 (TV.agg
 [TV.int IntKind.i64 n_15,
 TV.bytes (32 : Nat) b_4,
 TV.int IntKind.i64 n_16,
 TV.bytes (32 : Nat) b_5,
 TV.str s_4]) ∧
 Vc.Bind
 (newTV h
 (TV.agg
 [TV.int IntKind.i64 (0 : Int),
 TV.bytes (32 : Nat)
 (Bs.zero (32 : Nat)),
 TV.int IntKind.i64 (0 : Int),
 TV.bytes (32 : Nat)
 (Bs.zero (32 : Nat)),
 TV.str []])
 (32 : Nat))
 fun (h_7 : Array Obj) ↦
 Ext h h_7 ∧
 wok h_7 (Array.size h_4) (0 : Nat)
 (67 : Nat) ∧
 Vc.Bind
 (TV.put h_7 (Array.size h_4)
 (0 : Nat)
 (TV.agg
 [TV.int IntKind.i64 n,
 TV.bytes (32 : Nat) b,
 TV.int IntKind.i64 n_12,
 TV.bytes (32 : Nat) b_1,
 TV.str s]))
 fun (h_8 : Array Obj) ↦
 wok h_8 (Array.size h_5)
 (0 : Nat) (67 : Nat) ∧
 Vc.Bind
 (TV.put h_8 (Array.size h_5)
 (0 : Nat)
 (TV.agg
 [TV.int IntKind.i64
 n_13,
 TV.bytes (32 : Nat)
 b_2,
 TV.int IntKind.i64
 n_14,
 TV.bytes (32 : Nat)
 b_3,
 TV.str s_3]))
 fun (h_9 : Array Obj) ↦
 wok h_9 (Array.size h)
 (0 : Nat) (67 : Nat) ∧
 Vc.Bind
 (TV.put h_9
 (Array.size h)
 (0 : Nat)
 (TV.agg
 [TV.int IntKind.i64
 n_15,
 TV.bytes
 (32 : Nat) b_4,
 TV.int IntKind.i64
 n_16,
 TV.bytes
 (32 : Nat) b_5,
 TV.str s_4]))
 fun (h_10 : Array Obj) ↦
 J
 (some
 (Loc.mk
 (Array.size h_4)
 (0 : Nat)),
 some
 (Loc.mk
 (Array.size h_5)
 (0 : Nat)),
 some
 (Loc.mk
 (Array.size h)
 (0 : Nat)))
 h_10) ∧
 Vc.Bind
 (newTV h_6
 (TV.agg
 [TV.int IntKind.i64 (0 : Int),
 TV.bytes (32 : Nat) (Bs.zero (32 : Nat)),
 TV.int IntKind.i64 (0 : Int),
 TV.bytes (32 : Nat) (Bs.zero (32 : Nat)),
 TV.str []])
 (32 : Nat))
 fun (h : Array Obj) ↦
 Ext h_6 h ∧
 CallsH Try.prog (14 : Nat)
 (TVs.vals
 [TV.agg
 [TV.int IntKind.i64 n_8,
 TV.int IntKind.i64 n_9,
 TV.int IntKind.i64 n_10,
 TV.int IntKind.i64 n_11, TV.str s_2]])
 h fun (v : Value) (h : Array Obj) ↦
 ∃ (n_15 : Int),
 ∃ (b_4 : Bs (32 : Nat)),
 ∃ (n_16 : Int),
 ∃ (b_5 : Bs (32 : Nat)),
 ∃ (s_4 : List UInt8),
 v =
 TV.val
 (TV.agg
 [TV.int IntKind.i64 n_15,
 TV.bytes (32 : Nat) b_4,
 TV.int IntKind.i64 n_16,
 TV.bytes (32 : Nat) b_5,
 TV.str s_4]) ∧
 wok h (Array.size h_4) (0 : Nat)
 (67 : Nat) ∧
 Vc.Bind
 (TV.put h (Array.size h_4)
 (0 : Nat)
 (TV.agg
 [TV.int IntKind.i64 n,
 TV.bytes (32 : Nat) b,
 TV.int IntKind.i64 n_12,
 TV.bytes (32 : Nat) b_1,
 TV.str s]))
 fun (h : Array Obj) ↦
 wok h (Array.size h_5) (0 : Nat)
 (67 : Nat) ∧
 Vc.Bind
 (TV.put h (Array.size h_5)
 (0 : Nat)
 (TV.agg
 [TV.int IntKind.i64
 n_13,
 TV.bytes (32 : Nat)
 b_2,
 TV.int IntKind.i64
 n_14,
 TV.bytes (32 : Nat)
 b_3,
 TV.str s_3]))
 fun (h : Array Obj) ↦
 wok h (Array.size h_6)
 (0 : Nat) (67 : Nat) ∧
 Vc.Bind
 (TV.put h
 (Array.size h_6)
 (0 : Nat)
 (TV.agg
 [TV.int IntKind.i64
 n_15,
 TV.bytes
 (32 : Nat) b_4,
 TV.int IntKind.i64
 n_16,
 TV.bytes
 (32 : Nat) b_5,
 TV.str s_4]))
 fun (h : Array Obj) ↦
 J
 (some
 (Loc.mk
 (Array.size h_4)
 (0 : Nat)),
 some
 (Loc.mk
 (Array.size h_5)
 (0 : Nat)),
 some
 (Loc.mk
 (Array.size h_6)
 (0 : Nat)))
 h) ∧
 Vc.Bind
 (newTV h
 (TV.agg
 [TV.int IntKind.i64 (0 : Int),
 TV.bytes (32 : Nat) (Bs.zero (32 : Nat)),
 TV.int IntKind.i64 (0 : Int),
 TV.bytes (32 : Nat) (Bs.zero (32 : Nat)), TV.str []])
 (32 : Nat))
 fun (h_6 : Array Obj) ↦
 Ext h h_6 ∧
 CallsH Try.prog (14 : Nat)
 (TVs.vals
 [TV.agg
 [TV.int IntKind.i64 n_4, TV.int IntKind.i64 n_5,
 TV.int IntKind.i64 n_6, TV.int IntKind.i64 n_7,
 TV.str s_1]])
 h_6 fun (v : Value) (h_7 : Array Obj) ↦
 ∃ (n_13 : Int),
 ∃ (b_2 : Bs (32 : Nat)),
 ∃ (n_14 : Int),
 ∃ (b_3 : Bs (32 : Nat)),
 ∃ (s_3 : List UInt8),
 v =
 TV.val
 (TV.agg
 [TV.int IntKind.i64 n_13,
 TV.bytes (32 : Nat) b_2,
 TV.int IntKind.i64 n_14,
 TV.bytes (32 : Nat) b_3, TV.str s_3]) ∧
 Ext h_6 h_7 ∧
 CallsH Try.prog (14 : Nat)
 (TVs.vals
 [TV.agg
 [TV.int IntKind.i64 n_8,
 TV.int IntKind.i64 n_9,
 TV.int IntKind.i64 n_10,
 TV.int IntKind.i64 n_11, TV.str s_2]])
 h_7 fun (v : Value) (h_8 : Array Obj) ↦
 ∃ (n_15 : Int),
 ∃ (b_4 : Bs (32 : Nat)),
 ∃ (n_16 : Int),
 ∃ (b_5 : Bs (32 : Nat)),
 ∃ (s_4 : List UInt8),
 v =
 TV.val
 (TV.agg
 [TV.int IntKind.i64 n_15,
 TV.bytes (32 : Nat) b_4,
 TV.int IntKind.i64 n_16,
 TV.bytes (32 : Nat) b_5,
 TV.str s_4]) ∧
 wok h_8 (Array.size h_4) (0 : Nat)
 (67 : Nat) ∧
 Vc.Bind
 (TV.put h_8 (Array.size h_4)
 (0 : Nat)
 (TV.agg
 [TV.int IntKind.i64 n,
 TV.bytes (32 : Nat) b,
 TV.int IntKind.i64 n_12,
 TV.bytes (32 : Nat) b_1,
 TV.str s]))
 fun (h_9 : Array Obj) ↦
 wok h_9 (Array.size h_5) (0 : Nat)
 (67 : Nat) ∧
 Vc.Bind
 (TV.put h_9 (Array.size h_5)
 (0 : Nat)
 (TV.agg
 [TV.int IntKind.i64 n_13,
 TV.bytes (32 : Nat) b_2,
 TV.int IntKind.i64 n_14,
 TV.bytes (32 : Nat) b_3,
 TV.str s_3]))
 fun (h_10 : Array Obj) ↦
 wok h_10 (Array.size h)
 (0 : Nat) (67 : Nat) ∧
 Vc.Bind
 (TV.put h_10
 (Array.size h) (0 : Nat)
 (TV.agg
 [TV.int IntKind.i64
 n_15,
 TV.bytes (32 : Nat)
 b_4,
 TV.int IntKind.i64
 n_16,
 TV.bytes (32 : Nat)
 b_5,
 TV.str s_4]))
 fun (h_11 : Array Obj) ↦
 J
 (some
 (Loc.mk
 (Array.size h_4)
 (0 : Nat)),
 some
 (Loc.mk
 (Array.size h_5)
 (0 : Nat)),
 some
 (Loc.mk
 (Array.size h)
 (0 : Nat)))
 h_11) ∧
 Vc.Bind
 (newTV h_5
 (TV.agg
 [TV.int IntKind.i64 (0 : Int), TV.bytes (32 : Nat) (Bs.zero (32 : Nat)),
 TV.int IntKind.i64 (0 : Int),
 TV.bytes (32 : Nat) (Bs.zero (32 : Nat)), TV.str []])
 (32 : Nat))
 fun (h : Array Obj) ↦
 Ext h_5 h ∧
 (CallsH Try.prog (14 : Nat)
 (TVs.vals
 [TV.agg
 [TV.int IntKind.i64 n_4, TV.int IntKind.i64 n_5,
 TV.int IntKind.i64 n_6, TV.int IntKind.i64 n_7, TV.str s_1]])
 h fun (v : Value) (h_6 : Array Obj) ↦
 ∃ (n_13 : Int),
 ∃ (b_2 : Bs (32 : Nat)),
 ∃ (n_14 : Int),
 ∃ (b_3 : Bs (32 : Nat)),
 ∃ (s_3 : List UInt8),
 v =
 TV.val
 (TV.agg
 [TV.int IntKind.i64 n_13, TV.bytes (32 : Nat) b_2,
 TV.int IntKind.i64 n_14, TV.bytes (32 : Nat) b_3,
 TV.str s_3]) ∧
 Ext h h_6 ∧
 (CallsH Try.prog (14 : Nat)
 (TVs.vals
 [TV.agg
 [TV.int IntKind.i64 n_8,
 TV.int IntKind.i64 n_9,
 TV.int IntKind.i64 n_10,
 TV.int IntKind.i64 n_11, TV.str s_2]])
 h_6 fun (v : Value) (h : Array Obj) ↦
 ∃ (n_15 : Int),
 ∃ (b_4 : Bs (32 : Nat)),
 ∃ (n_16 : Int),
 ∃ (b_5 : Bs (32 : Nat)),
 ∃ (s_4 : List UInt8),
 v =
 TV.val
 (TV.agg
 [TV.int IntKind.i64 n_15,
 TV.bytes (32 : Nat) b_4,
 TV.int IntKind.i64 n_16,
 TV.bytes (32 : Nat) b_5,
 TV.str s_4]) ∧
 Vc.Bind
 (newTV h
 (TV.agg
 [TV.int IntKind.i64 (0 : Int),
 TV.bytes (32 : Nat)
 (Bs.zero (32 : Nat)),
 TV.int IntKind.i64 (0 : Int),
 TV.bytes (32 : Nat)
 (Bs.zero (32 : Nat)),
 TV.str []])
 (32 : Nat))
 fun (h_7 : Array Obj) ↦
 Ext h h_7 ∧
 wok h_7 (Array.size h_4) (0 : Nat)
 (67 : Nat) ∧
 Vc.Bind
 (TV.put h_7 (Array.size h_4)
 (0 : Nat)
 (TV.agg
 [TV.int IntKind.i64 n,
 TV.bytes (32 : Nat) b,
 TV.int IntKind.i64 n_12,
 TV.bytes (32 : Nat) b_1,
 TV.str s]))
 fun (h_8 : Array Obj) ↦
 wok h_8 (Array.size h) (0 : Nat)
 (67 : Nat) ∧
 Vc.Bind
 (TV.put h_8 (Array.size h)
 (0 : Nat)
 (TV.agg
 [TV.int IntKind.i64
 n_13,
 TV.bytes (32 : Nat)
 b_2,
 TV.int IntKind.i64
 n_14,
 TV.bytes (32 : Nat)
 b_3,
 TV.str s_3]))
 fun (h_9 : Array Obj) ↦
 wok h_9 (Array.size h_5)
 (0 : Nat) (67 : Nat) ∧
 Vc.Bind
 (TV.put h_9
 (Array.size h_5)
 (0 : Nat)
 (TV.agg
 [TV.int IntKind.i64
 n_15,
 TV.bytes
 (32 : Nat) b_4,
 TV.int IntKind.i64
 n_16,
 TV.bytes
 (32 : Nat) b_5,
 TV.str s_4]))
 fun (h_10 : Array Obj) ↦
 J
 (some
 (Loc.mk
 (Array.size h_4)
 (0 : Nat)),
 some
 (Loc.mk
 (Array.size h)
 (0 : Nat)),
 some
 (Loc.mk
 (Array.size h_5)
 (0 : Nat)))
 h_10) ∧
 Vc.Bind
 (newTV h_6
 (TV.agg
 [TV.int IntKind.i64 (0 : Int),
 TV.bytes (32 : Nat) (Bs.zero (32 : Nat)),
 TV.int IntKind.i64 (0 : Int),
 TV.bytes (32 : Nat) (Bs.zero (32 : Nat)),
 TV.str []])
 (32 : Nat))
 fun (h : Array Obj) ↦
 Ext h_6 h ∧
 CallsH Try.prog (14 : Nat)
 (TVs.vals
 [TV.agg
 [TV.int IntKind.i64 n_8,
 TV.int IntKind.i64 n_9,
 TV.int IntKind.i64 n_10,
 TV.int IntKind.i64 n_11, TV.str s_2]])
 h fun (v : Value) (h : Array Obj) ↦
 ∃ (n_15 : Int),
 ∃ (b_4 : Bs (32 : Nat)),
 ∃ (n_16 : Int),
 ∃ (b_5 : Bs (32 : Nat)),
 ∃ (s_4 : List UInt8),
 v =
 TV.val
 (TV.agg
 [TV.int IntKind.i64 n_15,
 TV.bytes (32 : Nat) b_4,
 TV.int IntKind.i64 n_16,
 TV.bytes (32 : Nat) b_5,
 TV.str s_4]) ∧
 wok h (Array.size h_4) (0 : Nat)
 (67 : Nat) ∧
 Vc.Bind
 (TV.put h (Array.size h_4)
 (0 : Nat)
 (TV.agg
 [TV.int IntKind.i64 n,
 TV.bytes (32 : Nat) b,
 TV.int IntKind.i64 n_12,
 TV.bytes (32 : Nat) b_1,
 TV.str s]))
 fun (h : Array Obj) ↦
 wok h (Array.size h_6) (0 : Nat)
 (67 : Nat) ∧
 Vc.Bind
 (TV.put h (Array.size h_6)
 (0 : Nat)
 (TV.agg
 [TV.int IntKind.i64
 n_13,
 TV.bytes (32 : Nat)
 b_2,
 TV.int IntKind.i64
 n_14,
 TV.bytes (32 : Nat)
 b_3,
 TV.str s_3]))
 fun (h : Array Obj) ↦
 wok h (Array.size h_5)
 (0 : Nat) (67 : Nat) ∧
 Vc.Bind
 (TV.put h
 (Array.size h_5)
 (0 : Nat)
 (TV.agg
 [TV.int IntKind.i64
 n_15,
 TV.bytes
 (32 : Nat) b_4,
 TV.int IntKind.i64
 n_16,
 TV.bytes
 (32 : Nat) b_5,
 TV.str s_4]))
 fun (h : Array Obj) ↦
 J
 (some
 (Loc.mk
 (Array.size h_4)
 (0 : Nat)),
 some
 (Loc.mk
 (Array.size h_6)
 (0 : Nat)),
 some
 (Loc.mk
 (Array.size h_5)
 (0 : Nat)))
 h) ∧
 Vc.Bind
 (newTV h
 (TV.agg
 [TV.int IntKind.i64 (0 : Int),
 TV.bytes (32 : Nat) (Bs.zero (32 : Nat)),
 TV.int IntKind.i64 (0 : Int),
 TV.bytes (32 : Nat) (Bs.zero (32 : Nat)), TV.str []])
 (32 : Nat))
 fun (h_6 : Array Obj) ↦
 Ext h h_6 ∧
 CallsH Try.prog (14 : Nat)
 (TVs.vals
 [TV.agg
 [TV.int IntKind.i64 n_4, TV.int IntKind.i64 n_5,
 TV.int IntKind.i64 n_6, TV.int IntKind.i64 n_7,
 TV.str s_1]])
 h_6 fun (v : Value) (h_7 : Array Obj) ↦
 ∃ (n_13 : Int),
 ∃ (b_2 : Bs (32 : Nat)),
 ∃ (n_14 : Int),
 ∃ (b_3 : Bs (32 : Nat)),
 ∃ (s_3 : List UInt8),
 v =
 TV.val
 (TV.agg
 [TV.int IntKind.i64 n_13,
 TV.bytes (32 : Nat) b_2,
 TV.int IntKind.i64 n_14,
 TV.bytes (32 : Nat) b_3, TV.str s_3]) ∧
 Ext h_6 h_7 ∧
 CallsH Try.prog (14 : Nat)
 (TVs.vals
 [TV.agg
 [TV.int IntKind.i64 n_8,
 TV.int IntKind.i64 n_9,
 TV.int IntKind.i64 n_10,
 TV.int IntKind.i64 n_11, TV.str s_2]])
 h_7 fun (v : Value) (h_8 : Array Obj) ↦
 ∃ (n_15 : Int),
 ∃ (b_4 : Bs (32 : Nat)),
 ∃ (n_16 : Int),
 ∃ (b_5 : Bs (32 : Nat)),
 ∃ (s_4 : List UInt8),
 v =
 TV.val
 (TV.agg
 [TV.int IntKind.i64 n_15,
 TV.bytes (32 : Nat) b_4,
 TV.int IntKind.i64 n_16,
 TV.bytes (32 : Nat) b_5,
 TV.str s_4]) ∧
 wok h_8 (Array.size h_4) (0 : Nat)
 (67 : Nat) ∧
 Vc.Bind
 (TV.put h_8 (Array.size h_4)
 (0 : Nat)
 (TV.agg
 [TV.int IntKind.i64 n,
 TV.bytes (32 : Nat) b,
 TV.int IntKind.i64 n_12,
 TV.bytes (32 : Nat) b_1,
 TV.str s]))
 fun (h_9 : Array Obj) ↦
 wok h_9 (Array.size h) (0 : Nat)
 (67 : Nat) ∧
 Vc.Bind
 (TV.put h_9 (Array.size h)
 (0 : Nat)
 (TV.agg
 [TV.int IntKind.i64 n_13,
 TV.bytes (32 : Nat) b_2,
 TV.int IntKind.i64 n_14,
 TV.bytes (32 : Nat) b_3,
 TV.str s_3]))
 fun (h_10 : Array Obj) ↦
 wok h_10 (Array.size h_5)
 (0 : Nat) (67 : Nat) ∧
 Vc.Bind
 (TV.put h_10
 (Array.size h_5)
 (0 : Nat)
 (TV.agg
 [TV.int IntKind.i64
 n_15,
 TV.bytes (32 : Nat)
 b_4,
 TV.int IntKind.i64
 n_16,
 TV.bytes (32 : Nat)
 b_5,
 TV.str s_4]))
 fun (h_11 : Array Obj) ↦
 J
 (some
 (Loc.mk
 (Array.size h_4)
 (0 : Nat)),
 some
 (Loc.mk
 (Array.size h)
 (0 : Nat)),
 some
 (Loc.mk
 (Array.size h_5)
 (0 : Nat)))
 h_11) ∧
 (Vc.Bind
 (newTV h
 (TV.agg
 [TV.int IntKind.i64 (0 : Int), TV.bytes (32 : Nat) (Bs.zero (32 : Nat)),
 TV.int IntKind.i64 (0 : Int), TV.bytes (32 : Nat) (Bs.zero (32 : Nat)), TV.str []])
 (32 : Nat))
 fun (h_5 : Array Obj) ↦
 Ext h h_5 ∧
 (CallsH Try.prog (14 : Nat)
 (TVs.vals
 [TV.agg
 [TV.int IntKind.i64 n, TV.int IntKind.i64 n_1, TV.int IntKind.i64 n_2,
 TV.int IntKind.i64 n_3, TV.str s]])
 h_5 fun (v : Value) (h_6 : Array Obj) ↦
 ∃ (n : Int),
 ∃ (b : Bs (32 : Nat)),
 ∃ (n_12 : Int),
 ∃ (b_1 : Bs (32 : Nat)),
 ∃ (s : List UInt8),
 v =
 TV.val
 (TV.agg
 [TV.int IntKind.i64 n, TV.bytes (32 : Nat) b, TV.int IntKind.i64 n_12,
 TV.bytes (32 : Nat) b_1, TV.str s]) ∧
 Ext h_5 h_6 ∧
 (CallsH Try.prog (14 : Nat)
 (TVs.vals
 [TV.agg
 [TV.int IntKind.i64 n_4, TV.int IntKind.i64 n_5,
 TV.int IntKind.i64 n_6, TV.int IntKind.i64 n_7, TV.str s_1]])
 h_6 fun (v : Value) (h_7 : Array Obj) ↦
 ∃ (n_13 : Int),
 ∃ (b_2 : Bs (32 : Nat)),
 ∃ (n_14 : Int),
 ∃ (b_3 : Bs (32 : Nat)),
 ∃ (s_3 : List UInt8),
 v =
 TV.val
 (TV.agg
 [TV.int IntKind.i64 n_13, TV.bytes (32 : Nat) b_2,
 TV.int IntKind.i64 n_14, TV.bytes (32 : Nat) b_3,
 TV.str s_3]) ∧
 Ext h_6 h_7 ∧
 (CallsH Try.prog (14 : Nat)
 (TVs.vals
 [TV.agg
 [TV.int IntKind.i64 n_8,
 TV.int IntKind.i64 n_9,
 TV.int IntKind.i64 n_10,
 TV.int IntKind.i64 n_11, TV.str s_2]])
 h_7 fun (v : Value) (h_8 : Array Obj) ↦
 ∃ (n_15 : Int),
 ∃ (b_4 : Bs (32 : Nat)),
 ∃ (n_16 : Int),
 ∃ (b_5 : Bs (32 : Nat)),
 ∃ (s_4 : List UInt8),
 v =
 TV.val
 (TV.agg
 [TV.int IntKind.i64 n_15,
 TV.bytes (32 : Nat) b_4,
 TV.int IntKind.i64 n_16,
 TV.bytes (32 : Nat) b_5,
 TV.str s_4]) ∧
 Vc.Bind
 (newTV h_8
 (TV.agg
 [TV.int IntKind.i64 (0 : Int),
 TV.bytes (32 : Nat)
 (Bs.zero (32 : Nat)),
 TV.int IntKind.i64 (0 : Int),
 TV.bytes (32 : Nat)
 (Bs.zero (32 : Nat)),
 TV.str []])
 (32 : Nat))
 fun (h_9 : Array Obj) ↦
 Ext h_8 h_9 ∧
 wok h_9 (Array.size h_4) (0 : Nat)
 (67 : Nat) ∧
 Vc.Bind
 (TV.put h_9 (Array.size h_4)
 (0 : Nat)
 (TV.agg
 [TV.int IntKind.i64 n,
 TV.bytes (32 : Nat) b,
 TV.int IntKind.i64 n_12,
 TV.bytes (32 : Nat) b_1,
 TV.str s]))
 fun (h_10 : Array Obj) ↦
 wok h_10 (Array.size h)
 (0 : Nat) (67 : Nat) ∧
 Vc.Bind
 (TV.put h_10 (Array.size h)
 (0 : Nat)
 (TV.agg
 [TV.int IntKind.i64
 n_13,
 TV.bytes (32 : Nat)
 b_2,
 TV.int IntKind.i64
 n_14,
 TV.bytes (32 : Nat)
 b_3,
 TV.str s_3]))
 fun (h_11 : Array Obj) ↦
 wok h_11 (Array.size h_8)
 (0 : Nat) (67 : Nat) ∧
 Vc.Bind
 (TV.put h_11
 (Array.size h_8)
 (0 : Nat)
 (TV.agg
 [TV.int IntKind.i64
 n_15,
 TV.bytes
 (32 : Nat) b_4,
 TV.int IntKind.i64
 n_16,
 TV.bytes
 (32 : Nat) b_5,
 TV.str s_4]))
 fun (h_12 : Array Obj) ↦
 J
 (some
 (Loc.mk
 (Array.size h_4)
 (0 : Nat)),
 some
 (Loc.mk
 (Array.size h)
 (0 : Nat)),
 some
 (Loc.mk
 (Array.size h_8)
 (0 : Nat)))
 h_12) ∧
 Vc.Bind
 (newTV h_7
 (TV.agg
 [TV.int IntKind.i64 (0 : Int),
 TV.bytes (32 : Nat) (Bs.zero (32 : Nat)),
 TV.int IntKind.i64 (0 : Int),
 TV.bytes (32 : Nat) (Bs.zero (32 : Nat)),
 TV.str []])
 (32 : Nat))
 fun (h_8 : Array Obj) ↦
 Ext h_7 h_8 ∧
 CallsH Try.prog (14 : Nat)
 (TVs.vals
 [TV.agg
 [TV.int IntKind.i64 n_8,
 TV.int IntKind.i64 n_9,
 TV.int IntKind.i64 n_10,
 TV.int IntKind.i64 n_11, TV.str s_2]])
 h_8 fun (v : Value) (h_9 : Array Obj) ↦
 ∃ (n_15 : Int),
 ∃ (b_4 : Bs (32 : Nat)),
 ∃ (n_16 : Int),
 ∃ (b_5 : Bs (32 : Nat)),
 ∃ (s_4 : List UInt8),
 v =
 TV.val
 (TV.agg
 [TV.int IntKind.i64 n_15,
 TV.bytes (32 : Nat) b_4,
 TV.int IntKind.i64 n_16,
 TV.bytes (32 : Nat) b_5,
 TV.str s_4]) ∧
 wok h_9 (Array.size h_4) (0 : Nat)
 (67 : Nat) ∧
 Vc.Bind
 (TV.put h_9 (Array.size h_4)
 (0 : Nat)
 (TV.agg
 [TV.int IntKind.i64 n,
 TV.bytes (32 : Nat) b,
 TV.int IntKind.i64 n_12,
 TV.bytes (32 : Nat) b_1,
 TV.str s]))
 fun (h_10 : Array Obj) ↦
 wok h_10 (Array.size h)
 (0 : Nat) (67 : Nat) ∧
 Vc.Bind
 (TV.put h_10 (Array.size h)
 (0 : Nat)
 (TV.agg
 [TV.int IntKind.i64
 n_13,
 TV.bytes (32 : Nat)
 b_2,
 TV.int IntKind.i64
 n_14,
 TV.bytes (32 : Nat)
 b_3,
 TV.str s_3]))
 fun (h_11 : Array Obj) ↦
 wok h_11 (Array.size h_7)
 (0 : Nat) (67 : Nat) ∧
 Vc.Bind
 (TV.put h_11
 (Array.size h_7)
 (0 : Nat)
 (TV.agg
 [TV.int IntKind.i64
 n_15,
 TV.bytes
 (32 : Nat) b_4,
 TV.int IntKind.i64
 n_16,
 TV.bytes
 (32 : Nat) b_5,
 TV.str s_4]))
 fun (h_12 : Array Obj) ↦
 J
 (some
 (Loc.mk
 (Array.size h_4)
 (0 : Nat)),
 some
 (Loc.mk
 (Array.size h)
 (0 : Nat)),
 some
 (Loc.mk
 (Array.size h_7)
 (0 : Nat)))
 h_12) ∧
 Vc.Bind
 (newTV h_6
 (TV.agg
 [TV.int IntKind.i64 (0 : Int),
 TV.bytes (32 : Nat) (Bs.zero (32 : Nat)),
 TV.int IntKind.i64 (0 : Int),
 TV.bytes (32 : Nat) (Bs.zero (32 : Nat)), TV.str []])
 (32 : Nat))
 fun (h_7 : Array Obj) ↦
 Ext h_6 h_7 ∧
 CallsH Try.prog (14 : Nat)
 (TVs.vals
 [TV.agg
 [TV.int IntKind.i64 n_4, TV.int IntKind.i64 n_5,
 TV.int IntKind.i64 n_6, TV.int IntKind.i64 n_7,
 TV.str s_1]])
 h_7 fun (v : Value) (h_8 : Array Obj) ↦
 ∃ (n_13 : Int),
 ∃ (b_2 : Bs (32 : Nat)),
 ∃ (n_14 : Int),
 ∃ (b_3 : Bs (32 : Nat)),
 ∃ (s_3 : List UInt8),
 v =
 TV.val
 (TV.agg
 [TV.int IntKind.i64 n_13,
 TV.bytes (32 : Nat) b_2,
 TV.int IntKind.i64 n_14,
 TV.bytes (32 : Nat) b_3, TV.str s_3]) ∧
 Ext h_7 h_8 ∧
 CallsH Try.prog (14 : Nat)
 (TVs.vals
 [TV.agg
 [TV.int IntKind.i64 n_8,
 TV.int IntKind.i64 n_9,
 TV.int IntKind.i64 n_10,
 TV.int IntKind.i64 n_11, TV.str s_2]])
 h_8 fun (v : Value) (h_9 : Array Obj) ↦
 ∃ (n_15 : Int),
 ∃ (b_4 : Bs (32 : Nat)),
 ∃ (n_16 : Int),
 ∃ (b_5 : Bs (32 : Nat)),
 ∃ (s_4 : List UInt8),
 v =
 TV.val
 (TV.agg
 [TV.int IntKind.i64 n_15,
 TV.bytes (32 : Nat) b_4,
 TV.int IntKind.i64 n_16,
 TV.bytes (32 : Nat) b_5,
 TV.str s_4]) ∧
 wok h_9 (Array.size h_4) (0 : Nat)
 (67 : Nat) ∧
 Vc.Bind
 (TV.put h_9 (Array.size h_4)
 (0 : Nat)
 (TV.agg
 [TV.int IntKind.i64 n,
 TV.bytes (32 : Nat) b,
 TV.int IntKind.i64 n_12,
 TV.bytes (32 : Nat) b_1,
 TV.str s]))
 fun (h_10 : Array Obj) ↦
 wok h_10 (Array.size h) (0 : Nat)
 (67 : Nat) ∧
 Vc.Bind
 (TV.put h_10 (Array.size h)
 (0 : Nat)
 (TV.agg
 [TV.int IntKind.i64 n_13,
 TV.bytes (32 : Nat) b_2,
 TV.int IntKind.i64 n_14,
 TV.bytes (32 : Nat) b_3,
 TV.str s_3]))
 fun (h_11 : Array Obj) ↦
 wok h_11 (Array.size h_6)
 (0 : Nat) (67 : Nat) ∧
 Vc.Bind
 (TV.put h_11
 (Array.size h_6)
 (0 : Nat)
 (TV.agg
 [TV.int IntKind.i64
 n_15,
 TV.bytes (32 : Nat)
 b_4,
 TV.int IntKind.i64
 n_16,
 TV.bytes (32 : Nat)
 b_5,
 TV.str s_4]))
 fun (h_12 : Array Obj) ↦
 J
 (some
 (Loc.mk
 (Array.size h_4)
 (0 : Nat)),
 some
 (Loc.mk
 (Array.size h)
 (0 : Nat)),
 some
 (Loc.mk
 (Array.size h_6)
 (0 : Nat)))
 h_12) ∧
 Vc.Bind
 (newTV h_5
 (TV.agg
 [TV.int IntKind.i64 (0 : Int), TV.bytes (32 : Nat) (Bs.zero (32 : Nat)),
 TV.int IntKind.i64 (0 : Int), TV.bytes (32 : Nat) (Bs.zero (32 : Nat)),
 TV.str []])
 (32 : Nat))
 fun (h_6 : Array Obj) ↦
 Ext h_5 h_6 ∧
 CallsH Try.prog (14 : Nat)
 (TVs.vals
 [TV.agg
 [TV.int IntKind.i64 n, TV.int IntKind.i64 n_1, TV.int IntKind.i64 n_2,
 TV.int IntKind.i64 n_3, TV.str s]])
 h_6 fun (v : Value) (h_7 : Array Obj) ↦
 ∃ (n : Int),
 ∃ (b : Bs (32 : Nat)),
 ∃ (n_12 : Int),
 ∃ (b_1 : Bs (32 : Nat)),
 ∃ (s : List UInt8),
 v =
 TV.val
 (TV.agg
 [TV.int IntKind.i64 n, TV.bytes (32 : Nat) b,
 TV.int IntKind.i64 n_12, TV.bytes (32 : Nat) b_1, TV.str s]) ∧
 Ext h_6 h_7 ∧
 CallsH Try.prog (14 : Nat)
 (TVs.vals
 [TV.agg
 [TV.int IntKind.i64 n_4, TV.int IntKind.i64 n_5,
 TV.int IntKind.i64 n_6, TV.int IntKind.i64 n_7,
 TV.str s_1]])
 h_7 fun (v : Value) (h_8 : Array Obj) ↦
 ∃ (n_13 : Int),
 ∃ (b_2 : Bs (32 : Nat)),
 ∃ (n_14 : Int),
 ∃ (b_3 : Bs (32 : Nat)),
 ∃ (s_3 : List UInt8),
 v =
 TV.val
 (TV.agg
 [TV.int IntKind.i64 n_13, TV.bytes (32 : Nat) b_2,
 TV.int IntKind.i64 n_14,
 TV.bytes (32 : Nat) b_3, TV.str s_3]) ∧
 Ext h_7 h_8 ∧
 CallsH Try.prog (14 : Nat)
 (TVs.vals
 [TV.agg
 [TV.int IntKind.i64 n_8,
 TV.int IntKind.i64 n_9,
 TV.int IntKind.i64 n_10,
 TV.int IntKind.i64 n_11, TV.str s_2]])
 h_8 fun (v : Value) (h_9 : Array Obj) ↦
 ∃ (n_15 : Int),
 ∃ (b_4 : Bs (32 : Nat)),
 ∃ (n_16 : Int),
 ∃ (b_5 : Bs (32 : Nat)),
 ∃ (s_4 : List UInt8),
 v =
 TV.val
 (TV.agg
 [TV.int IntKind.i64 n_15,
 TV.bytes (32 : Nat) b_4,
 TV.int IntKind.i64 n_16,
 TV.bytes (32 : Nat) b_5,
 TV.str s_4]) ∧
 wok h_9 (Array.size h_4) (0 : Nat)
 (67 : Nat) ∧
 Vc.Bind
 (TV.put h_9 (Array.size h_4)
 (0 : Nat)
 (TV.agg
 [TV.int IntKind.i64 n,
 TV.bytes (32 : Nat) b,
 TV.int IntKind.i64 n_12,
 TV.bytes (32 : Nat) b_1,
 TV.str s]))
 fun (h_10 : Array Obj) ↦
 wok h_10 (Array.size h) (0 : Nat)
 (67 : Nat) ∧
 Vc.Bind
 (TV.put h_10 (Array.size h)
 (0 : Nat)
 (TV.agg
 [TV.int IntKind.i64 n_13,
 TV.bytes (32 : Nat) b_2,
 TV.int IntKind.i64 n_14,
 TV.bytes (32 : Nat) b_3,
 TV.str s_3]))
 fun (h_11 : Array Obj) ↦
 wok h_11 (Array.size h_5)
 (0 : Nat) (67 : Nat) ∧
 Vc.Bind
 (TV.put h_11
 (Array.size h_5) (0 : Nat)
 (TV.agg
 [TV.int IntKind.i64
 n_15,
 TV.bytes (32 : Nat)
 b_4,
 TV.int IntKind.i64
 n_16,
 TV.bytes (32 : Nat)
 b_5,
 TV.str s_4]))
 fun (h_12 : Array Obj) ↦
 J
 (some
 (Loc.mk
 (Array.size h_4)
 (0 : Nat)),
 some
 (Loc.mk (Array.size h)
 (0 : Nat)),
 some
 (Loc.mk
 (Array.size h_5)
 (0 : Nat)))
 h_12) ∧
 Vc.Bind
 (newTV h
 (TV.agg
 [TV.int IntKind.i64 (0 : Int), TV.bytes (32 : Nat) (Bs.zero (32 : Nat)),
 TV.int IntKind.i64 (0 : Int), TV.bytes (32 : Nat) (Bs.zero (32 : Nat)), TV.str []])
 (32 : Nat))
 fun (h_5 : Array Obj) ↦
 Ext h h_5 ∧
 (CallsH Try.prog (14 : Nat)
 (TVs.vals
 [TV.agg
 [TV.int IntKind.i64 n, TV.int IntKind.i64 n_1, TV.int IntKind.i64 n_2,
 TV.int IntKind.i64 n_3, TV.str s]])
 h_5 fun (v : Value) (h_6 : Array Obj) ↦
 ∃ (n : Int),
 ∃ (b : Bs (32 : Nat)),
 ∃ (n_12 : Int),
 ∃ (b_1 : Bs (32 : Nat)),
 ∃ (s : List UInt8),
 v =
 TV.val
 (TV.agg
 [TV.int IntKind.i64 n, TV.bytes (32 : Nat) b, TV.int IntKind.i64 n_12,
 TV.bytes (32 : Nat) b_1, TV.str s]) ∧
 Ext h_5 h_6 ∧
 (CallsH Try.prog (14 : Nat)
 (TVs.vals
 [TV.agg
 [TV.int IntKind.i64 n_4, TV.int IntKind.i64 n_5,
 TV.int IntKind.i64 n_6, TV.int IntKind.i64 n_7, TV.str s_1]])
 h_6 fun (v : Value) (h_7 : Array Obj) ↦
 ∃ (n_13 : Int),
 ∃ (b_2 : Bs (32 : Nat)),
 ∃ (n_14 : Int),
 ∃ (b_3 : Bs (32 : Nat)),
 ∃ (s_3 : List UInt8),
 v =
 TV.val
 (TV.agg
 [TV.int IntKind.i64 n_13, TV.bytes (32 : Nat) b_2,
 TV.int IntKind.i64 n_14, TV.bytes (32 : Nat) b_3,
 TV.str s_3]) ∧
 Ext h_6 h_7 ∧
 (CallsH Try.prog (14 : Nat)
 (TVs.vals
 [TV.agg
 [TV.int IntKind.i64 n_8,
 TV.int IntKind.i64 n_9,
 TV.int IntKind.i64 n_10,
 TV.int IntKind.i64 n_11, TV.str s_2]])
 h_7 fun (v : Value) (h_8 : Array Obj) ↦
 ∃ (n_15 : Int),
 ∃ (b_4 : Bs (32 : Nat)),
 ∃ (n_16 : Int),
 ∃ (b_5 : Bs (32 : Nat)),
 ∃ (s_4 : List UInt8),
 v =
 TV.val
 (TV.agg
 [TV.int IntKind.i64 n_15,
 TV.bytes (32 : Nat) b_4,
 TV.int IntKind.i64 n_16,
 TV.bytes (32 : Nat) b_5,
 TV.str s_4]) ∧
 Vc.Bind
 (newTV h_8
 (TV.agg
 [TV.int IntKind.i64 (0 : Int),
 TV.bytes (32 : Nat)
 (Bs.zero (32 : Nat)),
 TV.int IntKind.i64 (0 : Int),
 TV.bytes (32 : Nat)
 (Bs.zero (32 : Nat)),
 TV.str []])
 (32 : Nat))
 fun (h_9 : Array Obj) ↦
 Ext h_8 h_9 ∧
 wok h_9 (Array.size h_4) (0 : Nat)
 (67 : Nat) ∧
 Vc.Bind
 (TV.put h_9 (Array.size h_4)
 (0 : Nat)
 (TV.agg
 [TV.int IntKind.i64 n,
 TV.bytes (32 : Nat) b,
 TV.int IntKind.i64 n_12,
 TV.bytes (32 : Nat) b_1,
 TV.str s]))
 fun (h_10 : Array Obj) ↦
 wok h_10 (Array.size h_8)
 (0 : Nat) (67 : Nat) ∧
 Vc.Bind
 (TV.put h_10
 (Array.size h_8) (0 : Nat)
 (TV.agg
 [TV.int IntKind.i64
 n_13,
 TV.bytes (32 : Nat)
 b_2,
 TV.int IntKind.i64
 n_14,
 TV.bytes (32 : Nat)
 b_3,
 TV.str s_3]))
 fun (h_11 : Array Obj) ↦
 wok h_11 (Array.size h)
 (0 : Nat) (67 : Nat) ∧
 Vc.Bind
 (TV.put h_11
 (Array.size h)
 (0 : Nat)
 (TV.agg
 [TV.int IntKind.i64
 n_15,
 TV.bytes
 (32 : Nat) b_4,
 TV.int IntKind.i64
 n_16,
 TV.bytes
 (32 : Nat) b_5,
 TV.str s_4]))
 fun (h_12 : Array Obj) ↦
 J
 (some
 (Loc.mk
 (Array.size h_4)
 (0 : Nat)),
 some
 (Loc.mk
 (Array.size h_8)
 (0 : Nat)),
 some
 (Loc.mk
 (Array.size h)
 (0 : Nat)))
 h_12) ∧
 Vc.Bind
 (newTV h_7
 (TV.agg
 [TV.int IntKind.i64 (0 : Int),
 TV.bytes (32 : Nat) (Bs.zero (32 : Nat)),
 TV.int IntKind.i64 (0 : Int),
 TV.bytes (32 : Nat) (Bs.zero (32 : Nat)),
 TV.str []])
 (32 : Nat))
 fun (h_8 : Array Obj) ↦
 Ext h_7 h_8 ∧
 CallsH Try.prog (14 : Nat)
 (TVs.vals
 [TV.agg
 [TV.int IntKind.i64 n_8,
 TV.int IntKind.i64 n_9,
 TV.int IntKind.i64 n_10,
 TV.int IntKind.i64 n_11, TV.str s_2]])
 h_8 fun (v : Value) (h_9 : Array Obj) ↦
 ∃ (n_15 : Int),
 ∃ (b_4 : Bs (32 : Nat)),
 ∃ (n_16 : Int),
 ∃ (b_5 : Bs (32 : Nat)),
 ∃ (s_4 : List UInt8),
 v =
 TV.val
 (TV.agg
 [TV.int IntKind.i64 n_15,
 TV.bytes (32 : Nat) b_4,
 TV.int IntKind.i64 n_16,
 TV.bytes (32 : Nat) b_5,
 TV.str s_4]) ∧
 wok h_9 (Array.size h_4) (0 : Nat)
 (67 : Nat) ∧
 Vc.Bind
 (TV.put h_9 (Array.size h_4)
 (0 : Nat)
 (TV.agg
 [TV.int IntKind.i64 n,
 TV.bytes (32 : Nat) b,
 TV.int IntKind.i64 n_12,
 TV.bytes (32 : Nat) b_1,
 TV.str s]))
 fun (h_10 : Array Obj) ↦
 wok h_10 (Array.size h_7)
 (0 : Nat) (67 : Nat) ∧
 Vc.Bind
 (TV.put h_10
 (Array.size h_7) (0 : Nat)
 (TV.agg
 [TV.int IntKind.i64
 n_13,
 TV.bytes (32 : Nat)
 b_2,
 TV.int IntKind.i64
 n_14,
 TV.bytes (32 : Nat)
 b_3,
 TV.str s_3]))
 fun (h_11 : Array Obj) ↦
 wok h_11 (Array.size h)
 (0 : Nat) (67 : Nat) ∧
 Vc.Bind
 (TV.put h_11
 (Array.size h)
 (0 : Nat)
 (TV.agg
 [TV.int IntKind.i64
 n_15,
 TV.bytes
 (32 : Nat) b_4,
 TV.int IntKind.i64
 n_16,
 TV.bytes
 (32 : Nat) b_5,
 TV.str s_4]))
 fun (h_12 : Array Obj) ↦
 J
 (some
 (Loc.mk
 (Array.size h_4)
 (0 : Nat)),
 some
 (Loc.mk
 (Array.size h_7)
 (0 : Nat)),
 some
 (Loc.mk
 (Array.size h)
 (0 : Nat)))
 h_12) ∧
 Vc.Bind
 (newTV h_6
 (TV.agg
 [TV.int IntKind.i64 (0 : Int),
 TV.bytes (32 : Nat) (Bs.zero (32 : Nat)),
 TV.int IntKind.i64 (0 : Int),
 TV.bytes (32 : Nat) (Bs.zero (32 : Nat)), TV.str []])
 (32 : Nat))
 fun (h_7 : Array Obj) ↦
 Ext h_6 h_7 ∧
 CallsH Try.prog (14 : Nat)
 (TVs.vals
 [TV.agg
 [TV.int IntKind.i64 n_4, TV.int IntKind.i64 n_5,
 TV.int IntKind.i64 n_6, TV.int IntKind.i64 n_7,
 TV.str s_1]])
 h_7 fun (v : Value) (h_8 : Array Obj) ↦
 ∃ (n_13 : Int),
 ∃ (b_2 : Bs (32 : Nat)),
 ∃ (n_14 : Int),
 ∃ (b_3 : Bs (32 : Nat)),
 ∃ (s_3 : List UInt8),
 v =
 TV.val
 (TV.agg
 [TV.int IntKind.i64 n_13,
 TV.bytes (32 : Nat) b_2,
 TV.int IntKind.i64 n_14,
 TV.bytes (32 : Nat) b_3, TV.str s_3]) ∧
 Ext h_7 h_8 ∧
 CallsH Try.prog (14 : Nat)
 (TVs.vals
 [TV.agg
 [TV.int IntKind.i64 n_8,
 TV.int IntKind.i64 n_9,
 TV.int IntKind.i64 n_10,
 TV.int IntKind.i64 n_11, TV.str s_2]])
 h_8 fun (v : Value) (h_9 : Array Obj) ↦
 ∃ (n_15 : Int),
 ∃ (b_4 : Bs (32 : Nat)),
 ∃ (n_16 : Int),
 ∃ (b_5 : Bs (32 : Nat)),
 ∃ (s_4 : List UInt8),
 v =
 TV.val
 (TV.agg
 [TV.int IntKind.i64 n_15,
 TV.bytes (32 : Nat) b_4,
 TV.int IntKind.i64 n_16,
 TV.bytes (32 : Nat) b_5,
 TV.str s_4]) ∧
 wok h_9 (Array.size h_4) (0 : Nat)
 (67 : Nat) ∧
 Vc.Bind
 (TV.put h_9 (Array.size h_4)
 (0 : Nat)
 (TV.agg
 [TV.int IntKind.i64 n,
 TV.bytes (32 : Nat) b,
 TV.int IntKind.i64 n_12,
 TV.bytes (32 : Nat) b_1,
 TV.str s]))
 fun (h_10 : Array Obj) ↦
 wok h_10 (Array.size h_6)
 (0 : Nat) (67 : Nat) ∧
 Vc.Bind
 (TV.put h_10 (Array.size h_6)
 (0 : Nat)
 (TV.agg
 [TV.int IntKind.i64 n_13,
 TV.bytes (32 : Nat) b_2,
 TV.int IntKind.i64 n_14,
 TV.bytes (32 : Nat) b_3,
 TV.str s_3]))
 fun (h_11 : Array Obj) ↦
 wok h_11 (Array.size h)
 (0 : Nat) (67 : Nat) ∧
 Vc.Bind
 (TV.put h_11
 (Array.size h) (0 : Nat)
 (TV.agg
 [TV.int IntKind.i64
 n_15,
 TV.bytes (32 : Nat)
 b_4,
 TV.int IntKind.i64
 n_16,
 TV.bytes (32 : Nat)
 b_5,
 TV.str s_4]))
 fun (h_12 : Array Obj) ↦
 J
 (some
 (Loc.mk
 (Array.size h_4)
 (0 : Nat)),
 some
 (Loc.mk
 (Array.size h_6)
 (0 : Nat)),
 some
 (Loc.mk
 (Array.size h)
 (0 : Nat)))
 h_12) ∧
 Vc.Bind
 (newTV h_5
 (TV.agg
 [TV.int IntKind.i64 (0 : Int), TV.bytes (32 : Nat) (Bs.zero (32 : Nat)),
 TV.int IntKind.i64 (0 : Int), TV.bytes (32 : Nat) (Bs.zero (32 : Nat)),
 TV.str []])
 (32 : Nat))
 fun (h_6 : Array Obj) ↦
 Ext h_5 h_6 ∧
 CallsH Try.prog (14 : Nat)
 (TVs.vals
 [TV.agg
 [TV.int IntKind.i64 n, TV.int IntKind.i64 n_1, TV.int IntKind.i64 n_2,
 TV.int IntKind.i64 n_3, TV.str s]])
 h_6 fun (v : Value) (h_7 : Array Obj) ↦
 ∃ (n : Int),
 ∃ (b : Bs (32 : Nat)),
 ∃ (n_12 : Int),
 ∃ (b_1 : Bs (32 : Nat)),
 ∃ (s : List UInt8),
 v =
 TV.val
 (TV.agg
 [TV.int IntKind.i64 n, TV.bytes (32 : Nat) b,
 TV.int IntKind.i64 n_12, TV.bytes (32 : Nat) b_1, TV.str s]) ∧
 Ext h_6 h_7 ∧
 CallsH Try.prog (14 : Nat)
 (TVs.vals
 [TV.agg
 [TV.int IntKind.i64 n_4, TV.int IntKind.i64 n_5,
 TV.int IntKind.i64 n_6, TV.int IntKind.i64 n_7,
 TV.str s_1]])
 h_7 fun (v : Value) (h_8 : Array Obj) ↦
 ∃ (n_13 : Int),
 ∃ (b_2 : Bs (32 : Nat)),
 ∃ (n_14 : Int),
 ∃ (b_3 : Bs (32 : Nat)),
 ∃ (s_3 : List UInt8),
 v =
 TV.val
 (TV.agg
 [TV.int IntKind.i64 n_13, TV.bytes (32 : Nat) b_2,
 TV.int IntKind.i64 n_14,
 TV.bytes (32 : Nat) b_3, TV.str s_3]) ∧
 Ext h_7 h_8 ∧
 CallsH Try.prog (14 : Nat)
 (TVs.vals
 [TV.agg
 [TV.int IntKind.i64 n_8,
 TV.int IntKind.i64 n_9,
 TV.int IntKind.i64 n_10,
 TV.int IntKind.i64 n_11, TV.str s_2]])
 h_8 fun (v : Value) (h_9 : Array Obj) ↦
 ∃ (n_15 : Int),
 ∃ (b_4 : Bs (32 : Nat)),
 ∃ (n_16 : Int),
 ∃ (b_5 : Bs (32 : Nat)),
 ∃ (s_4 : List UInt8),
 v =
 TV.val
 (TV.agg
 [TV.int IntKind.i64 n_15,
 TV.bytes (32 : Nat) b_4,
 TV.int IntKind.i64 n_16,
 TV.bytes (32 : Nat) b_5,
 TV.str s_4]) ∧
 wok h_9 (Array.size h_4) (0 : Nat)
 (67 : Nat) ∧
 Vc.Bind
 (TV.put h_9 (Array.size h_4)
 (0 : Nat)
 (TV.agg
 [TV.int IntKind.i64 n,
 TV.bytes (32 : Nat) b,
 TV.int IntKind.i64 n_12,
 TV.bytes (32 : Nat) b_1,
 TV.str s]))
 fun (h_10 : Array Obj) ↦
 wok h_10 (Array.size h_5) (0 : Nat)
 (67 : Nat) ∧
 Vc.Bind
 (TV.put h_10 (Array.size h_5)
 (0 : Nat)
 (TV.agg
 [TV.int IntKind.i64 n_13,
 TV.bytes (32 : Nat) b_2,
 TV.int IntKind.i64 n_14,
 TV.bytes (32 : Nat) b_3,
 TV.str s_3]))
 fun (h_11 : Array Obj) ↦
 wok h_11 (Array.size h)
 (0 : Nat) (67 : Nat) ∧
 Vc.Bind
 (TV.put h_11 (Array.size h)
 (0 : Nat)
 (TV.agg
 [TV.int IntKind.i64
 n_15,
 TV.bytes (32 : Nat)
 b_4,
 TV.int IntKind.i64
 n_16,
 TV.bytes (32 : Nat)
 b_5,
 TV.str s_4]))
 fun (h_12 : Array Obj) ↦
 J
 (some
 (Loc.mk
 (Array.size h_4)
 (0 : Nat)),
 some
 (Loc.mk
 (Array.size h_5)
 (0 : Nat)),
 some
 (Loc.mk (Array.size h)
 (0 : Nat)))
 h_12) ∧
 (Vc.Bind
 (newTV h_4
 (TV.agg
 [TV.int IntKind.i64 (0 : Int), TV.bytes (32 : Nat) (Bs.zero (32 : Nat)),
 TV.int IntKind.i64 (0 : Int), TV.bytes (32 : Nat) (Bs.zero (32 : Nat)), TV.str []])
 (32 : Nat))
 fun (h : Array Obj) ↦
 Ext h_4 h ∧
 (CallsH Try.prog (14 : Nat)
 (TVs.vals
 [TV.agg
 [TV.int IntKind.i64 n, TV.int IntKind.i64 n_1, TV.int IntKind.i64 n_2,
 TV.int IntKind.i64 n_3, TV.str s]])
 h fun (v : Value) (h_5 : Array Obj) ↦
 ∃ (n : Int),
 ∃ (b : Bs (32 : Nat)),
 ∃ (n_12 : Int),
 ∃ (b_1 : Bs (32 : Nat)),
 ∃ (s : List UInt8),
 v =
 TV.val
 (TV.agg
 [TV.int IntKind.i64 n, TV.bytes (32 : Nat) b, TV.int IntKind.i64 n_12,
 TV.bytes (32 : Nat) b_1, TV.str s]) ∧
 Ext h h_5 ∧
 (CallsH Try.prog (14 : Nat)
 (TVs.vals
 [TV.agg
 [TV.int IntKind.i64 n_4, TV.int IntKind.i64 n_5,
 TV.int IntKind.i64 n_6, TV.int IntKind.i64 n_7, TV.str s_1]])
 h_5 fun (v : Value) (h : Array Obj) ↦
 ∃ (n_13 : Int),
 ∃ (b_2 : Bs (32 : Nat)),
 ∃ (n_14 : Int),
 ∃ (b_3 : Bs (32 : Nat)),
 ∃ (s_3 : List UInt8),
 v =
 TV.val
 (TV.agg
 [TV.int IntKind.i64 n_13, TV.bytes (32 : Nat) b_2,
 TV.int IntKind.i64 n_14, TV.bytes (32 : Nat) b_3,
 TV.str s_3]) ∧
 Ext h_5 h ∧
 (CallsH Try.prog (14 : Nat)
 (TVs.vals
 [TV.agg
 [TV.int IntKind.i64 n_8, TV.int IntKind.i64 n_9,
 TV.int IntKind.i64 n_10, TV.int IntKind.i64 n_11,
 TV.str s_2]])
 h fun (v : Value) (h : Array Obj) ↦
 ∃ (n_15 : Int),
 ∃ (b_4 : Bs (32 : Nat)),
 ∃ (n_16 : Int),
 ∃ (b_5 : Bs (32 : Nat)),
 ∃ (s_4 : List UInt8),
 v =
 TV.val
 (TV.agg
 [TV.int IntKind.i64 n_15,
 TV.bytes (32 : Nat) b_4,
 TV.int IntKind.i64 n_16,
 TV.bytes (32 : Nat) b_5,
 TV.str s_4]) ∧
 (Vc.Bind
 (newTV h
 (TV.agg
 [TV.int IntKind.i64 (0 : Int),
 TV.bytes (32 : Nat)
 (Bs.zero (32 : Nat)),
 TV.int IntKind.i64 (0 : Int),
 TV.bytes (32 : Nat)
 (Bs.zero (32 : Nat)),
 TV.str []])
 (32 : Nat))
 fun (h_6 : Array Obj) ↦
 Ext h h_6 ∧
 Vc.Bind
 (newTV h_6
 (TV.agg
 [TV.int IntKind.i64 (0 : Int),
 TV.bytes (32 : Nat)
 (Bs.zero (32 : Nat)),
 TV.int IntKind.i64 (0 : Int),
 TV.bytes (32 : Nat)
 (Bs.zero (32 : Nat)),
 TV.str []])
 (32 : Nat))
 fun (h_7 : Array Obj) ↦
 Ext h_6 h_7 ∧
 wok h_7 (Array.size h) (0 : Nat)
 (67 : Nat) ∧
 Vc.Bind
 (TV.put h_7 (Array.size h)
 (0 : Nat)
 (TV.agg
 [TV.int IntKind.i64 n,
 TV.bytes (32 : Nat) b,
 TV.int IntKind.i64 n_12,
 TV.bytes (32 : Nat) b_1,
 TV.str s]))
 fun (h_8 : Array Obj) ↦
 wok h_8 (Array.size h_4)
 (0 : Nat) (67 : Nat) ∧
 Vc.Bind
 (TV.put h_8 (Array.size h_4)
 (0 : Nat)
 (TV.agg
 [TV.int IntKind.i64
 n_13,
 TV.bytes (32 : Nat)
 b_2,
 TV.int IntKind.i64
 n_14,
 TV.bytes (32 : Nat)
 b_3,
 TV.str s_3]))
 fun (h_9 : Array Obj) ↦
 wok h_9 (Array.size h_6)
 (0 : Nat) (67 : Nat) ∧
 Vc.Bind
 (TV.put h_9
 (Array.size h_6)
 (0 : Nat)
 (TV.agg
 [TV.int IntKind.i64
 n_15,
 TV.bytes
 (32 : Nat) b_4,
 TV.int IntKind.i64
 n_16,
 TV.bytes
 (32 : Nat) b_5,
 TV.str s_4]))
 fun (h_10 : Array Obj) ↦
 J
 (some
 (Loc.mk
 (Array.size h)
 (0 : Nat)),
 some
 (Loc.mk
 (Array.size h_4)
 (0 : Nat)),
 some
 (Loc.mk
 (Array.size h_6)
 (0 : Nat)))
 h_10) ∧
 Vc.Bind
 (newTV h
 (TV.agg
 [TV.int IntKind.i64 (0 : Int),
 TV.bytes (32 : Nat)
 (Bs.zero (32 : Nat)),
 TV.int IntKind.i64 (0 : Int),
 TV.bytes (32 : Nat)
 (Bs.zero (32 : Nat)),
 TV.str []])
 (32 : Nat))
 fun (h_6 : Array Obj) ↦
 Ext h h_6 ∧
 Vc.Bind
 (newTV h_6
 (TV.agg
 [TV.int IntKind.i64 (0 : Int),
 TV.bytes (32 : Nat)
 (Bs.zero (32 : Nat)),
 TV.int IntKind.i64 (0 : Int),
 TV.bytes (32 : Nat)
 (Bs.zero (32 : Nat)),
 TV.str []])
 (32 : Nat))
 fun (h_7 : Array Obj) ↦
 Ext h_6 h_7 ∧
 wok h_7 (Array.size h_6) (0 : Nat)
 (67 : Nat) ∧
 Vc.Bind
 (TV.put h_7 (Array.size h_6)
 (0 : Nat)
 (TV.agg
 [TV.int IntKind.i64 n,
 TV.bytes (32 : Nat) b,
 TV.int IntKind.i64 n_12,
 TV.bytes (32 : Nat) b_1,
 TV.str s]))
 fun (h_8 : Array Obj) ↦
 wok h_8 (Array.size h_4)
 (0 : Nat) (67 : Nat) ∧
 Vc.Bind
 (TV.put h_8 (Array.size h_4)
 (0 : Nat)
 (TV.agg
 [TV.int IntKind.i64
 n_13,
 TV.bytes (32 : Nat)
 b_2,
 TV.int IntKind.i64
 n_14,
 TV.bytes (32 : Nat)
 b_3,
 TV.str s_3]))
 fun (h_9 : Array Obj) ↦
 wok h_9 (Array.size h)
 (0 : Nat) (67 : Nat) ∧
 Vc.Bind
 (TV.put h_9
 (Array.size h)
 (0 : Nat)
 (TV.agg
 [TV.int IntKind.i64
 n_15,
 TV.bytes
 (32 : Nat) b_4,
 TV.int IntKind.i64
 n_16,
 TV.bytes
 (32 : Nat) b_5,
 TV.str s_4]))
 fun (h_10 : Array Obj) ↦
 J
 (some
 (Loc.mk
 (Array.size h_6)
 (0 : Nat)),
 some
 (Loc.mk
 (Array.size h_4)
 (0 : Nat)),
 some
 (Loc.mk
 (Array.size h)
 (0 : Nat)))
 h_10) ∧
 (Vc.Bind
 (newTV h
 (TV.agg
 [TV.int IntKind.i64 (0 : Int),
 TV.bytes (32 : Nat) (Bs.zero (32 : Nat)),
 TV.int IntKind.i64 (0 : Int),
 TV.bytes (32 : Nat) (Bs.zero (32 : Nat)),
 TV.str []])
 (32 : Nat))
 fun (h_6 : Array Obj) ↦
 Ext h h_6 ∧
 (CallsH Try.prog (14 : Nat)
 (TVs.vals
 [TV.agg
 [TV.int IntKind.i64 n_8,
 TV.int IntKind.i64 n_9,
 TV.int IntKind.i64 n_10,
 TV.int IntKind.i64 n_11, TV.str s_2]])
 h_6 fun (v : Value) (h_7 : Array Obj) ↦
 ∃ (n_15 : Int),
 ∃ (b_4 : Bs (32 : Nat)),
 ∃ (n_16 : Int),
 ∃ (b_5 : Bs (32 : Nat)),
 ∃ (s_4 : List UInt8),
 v =
 TV.val
 (TV.agg
 [TV.int IntKind.i64 n_15,
 TV.bytes (32 : Nat) b_4,
 TV.int IntKind.i64 n_16,
 TV.bytes (32 : Nat) b_5,
 TV.str s_4]) ∧
 Vc.Bind
 (newTV h_7
 (TV.agg
 [TV.int IntKind.i64 (0 : Int),
 TV.bytes (32 : Nat)
 (Bs.zero (32 : Nat)),
 TV.int IntKind.i64 (0 : Int),
 TV.bytes (32 : Nat)
 (Bs.zero (32 : Nat)),
 TV.str []])
 (32 : Nat))
 fun (h_8 : Array Obj) ↦
 Ext h_7 h_8 ∧
 wok h_8 (Array.size h) (0 : Nat)
 (67 : Nat) ∧
 Vc.Bind
 (TV.put h_8 (Array.size h)
 (0 : Nat)
 (TV.agg
 [TV.int IntKind.i64 n,
 TV.bytes (32 : Nat) b,
 TV.int IntKind.i64 n_12,
 TV.bytes (32 : Nat) b_1,
 TV.str s]))
 fun (h_9 : Array Obj) ↦
 wok h_9 (Array.size h_4)
 (0 : Nat) (67 : Nat) ∧
 Vc.Bind
 (TV.put h_9
 (Array.size h_4)
 (0 : Nat)
 (TV.agg
 [TV.int IntKind.i64
 n_13,
 TV.bytes (32 : Nat)
 b_2,
 TV.int IntKind.i64
 n_14,
 TV.bytes (32 : Nat)
 b_3,
 TV.str s_3]))
 fun (h_10 : Array Obj) ↦
 wok h_10 (Array.size h_7)
 (0 : Nat) (67 : Nat) ∧
 Vc.Bind
 (TV.put h_10
 (Array.size h_7)
 (0 : Nat)
 (TV.agg
 [TV.int
 IntKind.i64
 n_15,
 TV.bytes
 (32 : Nat)
 b_4,
 TV.int
 IntKind.i64
 n_16,
 TV.bytes
 (32 : Nat)
 b_5,
 TV.str s_4]))
 fun
 (h_11 : Array Obj) ↦
 J
 (some
 (Loc.mk
 (Array.size h)
 (0 : Nat)),
 some
 (Loc.mk
 (Array.size
 h_4)
 (0 : Nat)),
 some
 (Loc.mk
 (Array.size
 h_7)
 (0 : Nat)))
 h_11) ∧
 Vc.Bind
 (newTV h_6
 (TV.agg
 [TV.int IntKind.i64 (0 : Int),
 TV.bytes (32 : Nat) (Bs.zero (32 : Nat)),
 TV.int IntKind.i64 (0 : Int),
 TV.bytes (32 : Nat) (Bs.zero (32 : Nat)),
 TV.str []])
 (32 : Nat))
 fun (h_7 : Array Obj) ↦
 Ext h_6 h_7 ∧
 CallsH Try.prog (14 : Nat)
 (TVs.vals
 [TV.agg
 [TV.int IntKind.i64 n_8,
 TV.int IntKind.i64 n_9,
 TV.int IntKind.i64 n_10,
 TV.int IntKind.i64 n_11, TV.str s_2]])
 h_7 fun (v : Value) (h_8 : Array Obj) ↦
 ∃ (n_15 : Int),
 ∃ (b_4 : Bs (32 : Nat)),
 ∃ (n_16 : Int),
 ∃ (b_5 : Bs (32 : Nat)),
 ∃ (s_4 : List UInt8),
 v =
 TV.val
 (TV.agg
 [TV.int IntKind.i64 n_15,
 TV.bytes (32 : Nat) b_4,
 TV.int IntKind.i64 n_16,
 TV.bytes (32 : Nat) b_5,
 TV.str s_4]) ∧
 wok h_8 (Array.size h) (0 : Nat)
 (67 : Nat) ∧
 Vc.Bind
 (TV.put h_8 (Array.size h)
 (0 : Nat)
 (TV.agg
 [TV.int IntKind.i64 n,
 TV.bytes (32 : Nat) b,
 TV.int IntKind.i64 n_12,
 TV.bytes (32 : Nat) b_1,
 TV.str s]))
 fun (h_9 : Array Obj) ↦
 wok h_9 (Array.size h_4)
 (0 : Nat) (67 : Nat) ∧
 Vc.Bind
 (TV.put h_9
 (Array.size h_4)
 (0 : Nat)
 (TV.agg
 [TV.int IntKind.i64
 n_13,
 TV.bytes (32 : Nat)
 b_2,
 TV.int IntKind.i64
 n_14,
 TV.bytes (32 : Nat)
 b_3,
 TV.str s_3]))
 fun (h_10 : Array Obj) ↦
 wok h_10 (Array.size h_6)
 (0 : Nat) (67 : Nat) ∧
 Vc.Bind
 (TV.put h_10
 (Array.size h_6)
 (0 : Nat)
 (TV.agg
 [TV.int
 IntKind.i64
 n_15,
 TV.bytes
 (32 : Nat)
 b_4,
 TV.int
 IntKind.i64
 n_16,
 TV.bytes
 (32 : Nat)
 b_5,
 TV.str s_4]))
 fun
 (h_11 : Array Obj) ↦
 J
 (some
 (Loc.mk
 (Array.size h)
 (0 : Nat)),
 some
 (Loc.mk
 (Array.size
 h_4)
 (0 : Nat)),
 some
 (Loc.mk
 (Array.size
 h_6)
 (0 : Nat)))
 h_11) ∧
 Vc.Bind
 (newTV h
 (TV.agg
 [TV.int IntKind.i64 (0 : Int),
 TV.bytes (32 : Nat) (Bs.zero (32 : Nat)),
 TV.int IntKind.i64 (0 : Int),
 TV.bytes (32 : Nat) (Bs.zero (32 : Nat)),
 TV.str []])
 (32 : Nat))
 fun (h_6 : Array Obj) ↦
 Ext h h_6 ∧
 (CallsH Try.prog (14 : Nat)
 (TVs.vals
 [TV.agg
 [TV.int IntKind.i64 n_8,
 TV.int IntKind.i64 n_9,
 TV.int IntKind.i64 n_10,
 TV.int IntKind.i64 n_11, TV.str s_2]])
 h_6 fun (v : Value) (h_7 : Array Obj) ↦
 ∃ (n_15 : Int),
 ∃ (b_4 : Bs (32 : Nat)),
 ∃ (n_16 : Int),
 ∃ (b_5 : Bs (32 : Nat)),
 ∃ (s_4 : List UInt8),
 v =
 TV.val
 (TV.agg
 [TV.int IntKind.i64 n_15,
 TV.bytes (32 : Nat) b_4,
 TV.int IntKind.i64 n_16,
 TV.bytes (32 : Nat) b_5,
 TV.str s_4]) ∧
 Vc.Bind
 (newTV h_7
 (TV.agg
 [TV.int IntKind.i64 (0 : Int),
 TV.bytes (32 : Nat)
 (Bs.zero (32 : Nat)),
 TV.int IntKind.i64 (0 : Int),
 TV.bytes (32 : Nat)
 (Bs.zero (32 : Nat)),
 TV.str []])
 (32 : Nat))
 fun (h_8 : Array Obj) ↦
 Ext h_7 h_8 ∧
 wok h_8 (Array.size h_7) (0 : Nat)
 (67 : Nat) ∧
 Vc.Bind
 (TV.put h_8 (Array.size h_7)
 (0 : Nat)
 (TV.agg
 [TV.int IntKind.i64 n,
 TV.bytes (32 : Nat) b,
 TV.int IntKind.i64 n_12,
 TV.bytes (32 : Nat) b_1,
 TV.str s]))
 fun (h_9 : Array Obj) ↦
 wok h_9 (Array.size h_4)
 (0 : Nat) (67 : Nat) ∧
 Vc.Bind
 (TV.put h_9
 (Array.size h_4)
 (0 : Nat)
 (TV.agg
 [TV.int IntKind.i64
 n_13,
 TV.bytes (32 : Nat)
 b_2,
 TV.int IntKind.i64
 n_14,
 TV.bytes (32 : Nat)
 b_3,
 TV.str s_3]))
 fun (h_10 : Array Obj) ↦
 wok h_10 (Array.size h)
 (0 : Nat) (67 : Nat) ∧
 Vc.Bind
 (TV.put h_10
 (Array.size h)
 (0 : Nat)
 (TV.agg
 [TV.int
 IntKind.i64
 n_15,
 TV.bytes
 (32 : Nat)
 b_4,
 TV.int
 IntKind.i64
 n_16,
 TV.bytes
 (32 : Nat)
 b_5,
 TV.str s_4]))
 fun
 (h_11 : Array Obj) ↦
 J
 (some
 (Loc.mk
 (Array.size
 h_7)
 (0 : Nat)),
 some
 (Loc.mk
 (Array.size
 h_4)
 (0 : Nat)),
 some
 (Loc.mk
 (Array.size h)
 (0 : Nat)))
 h_11) ∧
 Vc.Bind
 (newTV h_6
 (TV.agg
 [TV.int IntKind.i64 (0 : Int),
 TV.bytes (32 : Nat) (Bs.zero (32 : Nat)),
 TV.int IntKind.i64 (0 : Int),
 TV.bytes (32 : Nat) (Bs.zero (32 : Nat)),
 TV.str []])
 (32 : Nat))
 fun (h_7 : Array Obj) ↦
 Ext h_6 h_7 ∧
 CallsH Try.prog (14 : Nat)
 (TVs.vals
 [TV.agg
 [TV.int IntKind.i64 n_8,
 TV.int IntKind.i64 n_9,
 TV.int IntKind.i64 n_10,
 TV.int IntKind.i64 n_11, TV.str s_2]])
 h_7 fun (v : Value) (h_8 : Array Obj) ↦
 ∃ (n_15 : Int),
 ∃ (b_4 : Bs (32 : Nat)),
 ∃ (n_16 : Int),
 ∃ (b_5 : Bs (32 : Nat)),
 ∃ (s_4 : List UInt8),
 v =
 TV.val
 (TV.agg
 [TV.int IntKind.i64 n_15,
 TV.bytes (32 : Nat) b_4,
 TV.int IntKind.i64 n_16,
 TV.bytes (32 : Nat) b_5,
 TV.str s_4]) ∧
 wok h_8 (Array.size h_6) (0 : Nat)
 (67 : Nat) ∧
 Vc.Bind
 (TV.put h_8 (Array.size h_6)
 (0 : Nat)
 (TV.agg
 [TV.int IntKind.i64 n,
 TV.bytes (32 : Nat) b,
 TV.int IntKind.i64 n_12,
 TV.bytes (32 : Nat) b_1,
 TV.str s]))
 fun (h_9 : Array Obj) ↦
 wok h_9 (Array.size h_4)
 (0 : Nat) (67 : Nat) ∧
 Vc.Bind
 (TV.put h_9
 (Array.size h_4)
 (0 : Nat)
 (TV.agg
 [TV.int IntKind.i64
 n_13,
 TV.bytes (32 : Nat)
 b_2,
 TV.int IntKind.i64
 n_14,
 TV.bytes (32 : Nat)
 b_3,
 TV.str s_3]))
 fun (h_10 : Array Obj) ↦
 wok h_10 (Array.size h)
 (0 : Nat) (67 : Nat) ∧
 Vc.Bind
 (TV.put h_10
 (Array.size h)
 (0 : Nat)
 (TV.agg
 [TV.int
 IntKind.i64
 n_15,
 TV.bytes
 (32 : Nat)
 b_4,
 TV.int
 IntKind.i64
 n_16,
 TV.bytes
 (32 : Nat)
 b_5,
 TV.str s_4]))
 fun
 (h_11 : Array Obj) ↦
 J
 (some
 (Loc.mk
 (Array.size
 h_6)
 (0 : Nat)),
 some
 (Loc.mk
 (Array.size
 h_4)
 (0 : Nat)),
 some
 (Loc.mk
 (Array.size h)
 (0 : Nat)))
 h_11) ∧
 (Vc.Bind
 (newTV h_5
 (TV.agg
 [TV.int IntKind.i64 (0 : Int),
 TV.bytes (32 : Nat) (Bs.zero (32 : Nat)),
 TV.int IntKind.i64 (0 : Int),
 TV.bytes (32 : Nat) (Bs.zero (32 : Nat)), TV.str []])
 (32 : Nat))
 fun (h : Array Obj) ↦
 Ext h_5 h ∧
 (CallsH Try.prog (14 : Nat)
 (TVs.vals
 [TV.agg
 [TV.int IntKind.i64 n_4, TV.int IntKind.i64 n_5,
 TV.int IntKind.i64 n_6, TV.int IntKind.i64 n_7,
 TV.str s_1]])
 h fun (v : Value) (h_6 : Array Obj) ↦
 ∃ (n_13 : Int),
 ∃ (b_2 : Bs (32 : Nat)),
 ∃ (n_14 : Int),
 ∃ (b_3 : Bs (32 : Nat)),
 ∃ (s_3 : List UInt8),
 v =
 TV.val
 (TV.agg
 [TV.int IntKind.i64 n_13, TV.bytes (32 : Nat) b_2,
 TV.int IntKind.i64 n_14,
 TV.bytes (32 : Nat) b_3, TV.str s_3]) ∧
 Ext h h_6 ∧
 (CallsH Try.prog (14 : Nat)
 (TVs.vals
 [TV.agg
 [TV.int IntKind.i64 n_8,
 TV.int IntKind.i64 n_9,
 TV.int IntKind.i64 n_10,
 TV.int IntKind.i64 n_11, TV.str s_2]])
 h_6 fun (v : Value) (h : Array Obj) ↦
 ∃ (n_15 : Int),
 ∃ (b_4 : Bs (32 : Nat)),
 ∃ (n_16 : Int),
 ∃ (b_5 : Bs (32 : Nat)),
 ∃ (s_4 : List UInt8),
 v =
 TV.val
 (TV.agg
 [TV.int IntKind.i64 n_15,
 TV.bytes (32 : Nat) b_4,
 TV.int IntKind.i64 n_16,
 TV.bytes (32 : Nat) b_5,
 TV.str s_4]) ∧
 Vc.Bind
 (newTV h
 (TV.agg
 [TV.int IntKind.i64 (0 : Int),
 TV.bytes (32 : Nat)
 (Bs.zero (32 : Nat)),
 TV.int IntKind.i64 (0 : Int),
 TV.bytes (32 : Nat)
 (Bs.zero (32 : Nat)),
 TV.str []])
 (32 : Nat))
 fun (h_7 : Array Obj) ↦
 Ext h h_7 ∧
 wok h_7 (Array.size h_5) (0 : Nat)
 (67 : Nat) ∧
 Vc.Bind
 (TV.put h_7 (Array.size h_5)
 (0 : Nat)
 (TV.agg
 [TV.int IntKind.i64 n,
 TV.bytes (32 : Nat) b,
 TV.int IntKind.i64 n_12,
 TV.bytes (32 : Nat) b_1,
 TV.str s]))
 fun (h_8 : Array Obj) ↦
 wok h_8 (Array.size h_4)
 (0 : Nat) (67 : Nat) ∧
 Vc.Bind
 (TV.put h_8
 (Array.size h_4)
 (0 : Nat)
 (TV.agg
 [TV.int IntKind.i64
 n_13,
 TV.bytes (32 : Nat)
 b_2,
 TV.int IntKind.i64
 n_14,
 TV.bytes (32 : Nat)
 b_3,
 TV.str s_3]))
 fun (h_9 : Array Obj) ↦
 wok h_9 (Array.size h)
 (0 : Nat) (67 : Nat) ∧
 Vc.Bind
 (TV.put h_9
 (Array.size h)
 (0 : Nat)
 (TV.agg
 [TV.int
 IntKind.i64
 n_15,
 TV.bytes
 (32 : Nat)
 b_4,
 TV.int
 IntKind.i64
 n_16,
 TV.bytes
 (32 : Nat)
 b_5,
 TV.str s_4]))
 fun
 (h_10 : Array Obj) ↦
 J
 (some
 (Loc.mk
 (Array.size
 h_5)
 (0 : Nat)),
 some
 (Loc.mk
 (Array.size
 h_4)
 (0 : Nat)),
 some
 (Loc.mk
 (Array.size h)
 (0 : Nat)))
 h_10) ∧
 Vc.Bind
 (newTV h_6
 (TV.agg
 [TV.int IntKind.i64 (0 : Int),
 TV.bytes (32 : Nat) (Bs.zero (32 : Nat)),
 TV.int IntKind.i64 (0 : Int),
 TV.bytes (32 : Nat) (Bs.zero (32 : Nat)),
 TV.str []])
 (32 : Nat))
 fun (h : Array Obj) ↦
 Ext h_6 h ∧
 CallsH Try.prog (14 : Nat)
 (TVs.vals
 [TV.agg
 [TV.int IntKind.i64 n_8,
 TV.int IntKind.i64 n_9,
 TV.int IntKind.i64 n_10,
 TV.int IntKind.i64 n_11, TV.str s_2]])
 h fun (v : Value) (h : Array Obj) ↦
 ∃ (n_15 : Int),
 ∃ (b_4 : Bs (32 : Nat)),
 ∃ (n_16 : Int),
 ∃ (b_5 : Bs (32 : Nat)),
 ∃ (s_4 : List UInt8),
 v =
 TV.val
 (TV.agg
 [TV.int IntKind.i64 n_15,
 TV.bytes (32 : Nat) b_4,
 TV.int IntKind.i64 n_16,
 TV.bytes (32 : Nat) b_5,
 TV.str s_4]) ∧
 wok h (Array.size h_5) (0 : Nat)
 (67 : Nat) ∧
 Vc.Bind
 (TV.put h (Array.size h_5)
 (0 : Nat)
 (TV.agg
 [TV.int IntKind.i64 n,
 TV.bytes (32 : Nat) b,
 TV.int IntKind.i64 n_12,
 TV.bytes (32 : Nat) b_1,
 TV.str s]))
 fun (h : Array Obj) ↦
 wok h (Array.size h_4)
 (0 : Nat) (67 : Nat) ∧
 Vc.Bind
 (TV.put h (Array.size h_4)
 (0 : Nat)
 (TV.agg
 [TV.int IntKind.i64
 n_13,
 TV.bytes (32 : Nat)
 b_2,
 TV.int IntKind.i64
 n_14,
 TV.bytes (32 : Nat)
 b_3,
 TV.str s_3]))
 fun (h : Array Obj) ↦
 wok h (Array.size h_6)
 (0 : Nat) (67 : Nat) ∧
 Vc.Bind
 (TV.put h
 (Array.size h_6)
 (0 : Nat)
 (TV.agg
 [TV.int
 IntKind.i64
 n_15,
 TV.bytes
 (32 : Nat)
 b_4,
 TV.int
 IntKind.i64
 n_16,
 TV.bytes
 (32 : Nat)
 b_5,
 TV.str s_4]))
 fun (h : Array Obj) ↦
 J
 (some
 (Loc.mk
 (Array.size
 h_5)
 (0 : Nat)),
 some
 (Loc.mk
 (Array.size
 h_4)
 (0 : Nat)),
 some
 (Loc.mk
 (Array.size
 h_6)
 (0 : Nat)))
 h) ∧
 Vc.Bind
 (newTV h
 (TV.agg
 [TV.int IntKind.i64 (0 : Int),
 TV.bytes (32 : Nat) (Bs.zero (32 : Nat)),
 TV.int IntKind.i64 (0 : Int),
 TV.bytes (32 : Nat) (Bs.zero (32 : Nat)), TV.str []])
 (32 : Nat))
 fun (h_6 : Array Obj) ↦
 Ext h h_6 ∧
 CallsH Try.prog (14 : Nat)
 (TVs.vals
 [TV.agg
 [TV.int IntKind.i64 n_4, TV.int IntKind.i64 n_5,
 TV.int IntKind.i64 n_6, TV.int IntKind.i64 n_7,
 TV.str s_1]])
 h_6 fun (v : Value) (h_7 : Array Obj) ↦
 ∃ (n_13 : Int),
 ∃ (b_2 : Bs (32 : Nat)),
 ∃ (n_14 : Int),
 ∃ (b_3 : Bs (32 : Nat)),
 ∃ (s_3 : List UInt8),
 v =
 TV.val
 (TV.agg
 [TV.int IntKind.i64 n_13,
 TV.bytes (32 : Nat) b_2,
 TV.int IntKind.i64 n_14,
 TV.bytes (32 : Nat) b_3, TV.str s_3]) ∧
 Ext h_6 h_7 ∧
 CallsH Try.prog (14 : Nat)
 (TVs.vals
 [TV.agg
 [TV.int IntKind.i64 n_8,
 TV.int IntKind.i64 n_9,
 TV.int IntKind.i64 n_10,
 TV.int IntKind.i64 n_11, TV.str s_2]])
 h_7 fun (v : Value) (h_8 : Array Obj) ↦
 ∃ (n_15 : Int),
 ∃ (b_4 : Bs (32 : Nat)),
 ∃ (n_16 : Int),
 ∃ (b_5 : Bs (32 : Nat)),
 ∃ (s_4 : List UInt8),
 v =
 TV.val
 (TV.agg
 [TV.int IntKind.i64 n_15,
 TV.bytes (32 : Nat) b_4,
 TV.int IntKind.i64 n_16,
 TV.bytes (32 : Nat) b_5,
 TV.str s_4]) ∧
 wok h_8 (Array.size h_5) (0 : Nat)
 (67 : Nat) ∧
 Vc.Bind
 (TV.put h_8 (Array.size h_5)
 (0 : Nat)
 (TV.agg
 [TV.int IntKind.i64 n,
 TV.bytes (32 : Nat) b,
 TV.int IntKind.i64 n_12,
 TV.bytes (32 : Nat) b_1,
 TV.str s]))
 fun (h_9 : Array Obj) ↦
 wok h_9 (Array.size h_4)
 (0 : Nat) (67 : Nat) ∧
 Vc.Bind
 (TV.put h_9 (Array.size h_4)
 (0 : Nat)
 (TV.agg
 [TV.int IntKind.i64
 n_13,
 TV.bytes (32 : Nat)
 b_2,
 TV.int IntKind.i64
 n_14,
 TV.bytes (32 : Nat)
 b_3,
 TV.str s_3]))
 fun (h_10 : Array Obj) ↦
 wok h_10 (Array.size h)
 (0 : Nat) (67 : Nat) ∧
 Vc.Bind
 (TV.put h_10
 (Array.size h)
 (0 : Nat)
 (TV.agg
 [TV.int IntKind.i64
 n_15,
 TV.bytes
 (32 : Nat) b_4,
 TV.int IntKind.i64
 n_16,
 TV.bytes
 (32 : Nat) b_5,
 TV.str s_4]))
 fun (h_11 : Array Obj) ↦
 J
 (some
 (Loc.mk
 (Array.size h_5)
 (0 : Nat)),
 some
 (Loc.mk
 (Array.size h_4)
 (0 : Nat)),
 some
 (Loc.mk
 (Array.size h)
 (0 : Nat)))
 h_11) ∧
 Vc.Bind
 (newTV h_5
 (TV.agg
 [TV.int IntKind.i64 (0 : Int),
 TV.bytes (32 : Nat) (Bs.zero (32 : Nat)),
 TV.int IntKind.i64 (0 : Int),
 TV.bytes (32 : Nat) (Bs.zero (32 : Nat)), TV.str []])
 (32 : Nat))
 fun (h : Array Obj) ↦
 Ext h_5 h ∧
 (CallsH Try.prog (14 : Nat)
 (TVs.vals
 [TV.agg
 [TV.int IntKind.i64 n_4, TV.int IntKind.i64 n_5,
 TV.int IntKind.i64 n_6, TV.int IntKind.i64 n_7,
 TV.str s_1]])
 h fun (v : Value) (h_6 : Array Obj) ↦
 ∃ (n_13 : Int),
 ∃ (b_2 : Bs (32 : Nat)),
 ∃ (n_14 : Int),
 ∃ (b_3 : Bs (32 : Nat)),
 ∃ (s_3 : List UInt8),
 v =
 TV.val
 (TV.agg
 [TV.int IntKind.i64 n_13, TV.bytes (32 : Nat) b_2,
 TV.int IntKind.i64 n_14,
 TV.bytes (32 : Nat) b_3, TV.str s_3]) ∧
 Ext h h_6 ∧
 (CallsH Try.prog (14 : Nat)
 (TVs.vals
 [TV.agg
 [TV.int IntKind.i64 n_8,
 TV.int IntKind.i64 n_9,
 TV.int IntKind.i64 n_10,
 TV.int IntKind.i64 n_11, TV.str s_2]])
 h_6 fun (v : Value) (h : Array Obj) ↦
 ∃ (n_15 : Int),
 ∃ (b_4 : Bs (32 : Nat)),
 ∃ (n_16 : Int),
 ∃ (b_5 : Bs (32 : Nat)),
 ∃ (s_4 : List UInt8),
 v =
 TV.val
 (TV.agg
 [TV.int IntKind.i64 n_15,
 TV.bytes (32 : Nat) b_4,
 TV.int IntKind.i64 n_16,
 TV.bytes (32 : Nat) b_5,
 TV.str s_4]) ∧
 Vc.Bind
 (newTV h
 (TV.agg
 [TV.int IntKind.i64 (0 : Int),
 TV.bytes (32 : Nat)
 (Bs.zero (32 : Nat)),
 TV.int IntKind.i64 (0 : Int),
 TV.bytes (32 : Nat)
 (Bs.zero (32 : Nat)),
 TV.str []])
 (32 : Nat))
 fun (h_7 : Array Obj) ↦
 Ext h h_7 ∧
 wok h_7 (Array.size h) (0 : Nat)
 (67 : Nat) ∧
 Vc.Bind
 (TV.put h_7 (Array.size h)
 (0 : Nat)
 (TV.agg
 [TV.int IntKind.i64 n,
 TV.bytes (32 : Nat) b,
 TV.int IntKind.i64 n_12,
 TV.bytes (32 : Nat) b_1,
 TV.str s]))
 fun (h_8 : Array Obj) ↦
 wok h_8 (Array.size h_4)
 (0 : Nat) (67 : Nat) ∧
 Vc.Bind
 (TV.put h_8
 (Array.size h_4)
 (0 : Nat)
 (TV.agg
 [TV.int IntKind.i64
 n_13,
 TV.bytes (32 : Nat)
 b_2,
 TV.int IntKind.i64
 n_14,
 TV.bytes (32 : Nat)
 b_3,
 TV.str s_3]))
 fun (h_9 : Array Obj) ↦
 wok h_9 (Array.size h_5)
 (0 : Nat) (67 : Nat) ∧
 Vc.Bind
 (TV.put h_9
 (Array.size h_5)
 (0 : Nat)
 (TV.agg
 [TV.int
 IntKind.i64
 n_15,
 TV.bytes
 (32 : Nat)
 b_4,
 TV.int
 IntKind.i64
 n_16,
 TV.bytes
 (32 : Nat)
 b_5,
 TV.str s_4]))
 fun
 (h_10 : Array Obj) ↦
 J
 (some
 (Loc.mk
 (Array.size h)
 (0 : Nat)),
 some
 (Loc.mk
 (Array.size
 h_4)
 (0 : Nat)),
 some
 (Loc.mk
 (Array.size
 h_5)
 (0 : Nat)))
 h_10) ∧
 Vc.Bind
 (newTV h_6
 (TV.agg
 [TV.int IntKind.i64 (0 : Int),
 TV.bytes (32 : Nat) (Bs.zero (32 : Nat)),
 TV.int IntKind.i64 (0 : Int),
 TV.bytes (32 : Nat) (Bs.zero (32 : Nat)),
 TV.str []])
 (32 : Nat))
 fun (h : Array Obj) ↦
 Ext h_6 h ∧
 CallsH Try.prog (14 : Nat)
 (TVs.vals
 [TV.agg
 [TV.int IntKind.i64 n_8,
 TV.int IntKind.i64 n_9,
 TV.int IntKind.i64 n_10,
 TV.int IntKind.i64 n_11, TV.str s_2]])
 h fun (v : Value) (h : Array Obj) ↦
 ∃ (n_15 : Int),
 ∃ (b_4 : Bs (32 : Nat)),
 ∃ (n_16 : Int),
 ∃ (b_5 : Bs (32 : Nat)),
 ∃ (s_4 : List UInt8),
 v =
 TV.val
 (TV.agg
 [TV.int IntKind.i64 n_15,
 TV.bytes (32 : Nat) b_4,
 TV.int IntKind.i64 n_16,
 TV.bytes (32 : Nat) b_5,
 TV.str s_4]) ∧
 wok h (Array.size h_6) (0 : Nat)
 (67 : Nat) ∧
 Vc.Bind
 (TV.put h (Array.size h_6)
 (0 : Nat)
 (TV.agg
 [TV.int IntKind.i64 n,
 TV.bytes (32 : Nat) b,
 TV.int IntKind.i64 n_12,
 TV.bytes (32 : Nat) b_1,
 TV.str s]))
 fun (h : Array Obj) ↦
 wok h (Array.size h_4)
 (0 : Nat) (67 : Nat) ∧
 Vc.Bind
 (TV.put h (Array.size h_4)
 (0 : Nat)
 (TV.agg
 [TV.int IntKind.i64
 n_13,
 TV.bytes (32 : Nat)
 b_2,
 TV.int IntKind.i64
 n_14,
 TV.bytes (32 : Nat)
 b_3,
 TV.str s_3]))
 fun (h : Array Obj) ↦
 wok h (Array.size h_5)
 (0 : Nat) (67 : Nat) ∧
 Vc.Bind
 (TV.put h
 (Array.size h_5)
 (0 : Nat)
 (TV.agg
 [TV.int
 IntKind.i64
 n_15,
 TV.bytes
 (32 : Nat)
 b_4,
 TV.int
 IntKind.i64
 n_16,
 TV.bytes
 (32 : Nat)
 b_5,
 TV.str s_4]))
 fun (h : Array Obj) ↦
 J
 (some
 (Loc.mk
 (Array.size
 h_6)
 (0 : Nat)),
 some
 (Loc.mk
 (Array.size
 h_4)
 (0 : Nat)),
 some
 (Loc.mk
 (Array.size
 h_5)
 (0 : Nat)))
 h) ∧
 Vc.Bind
 (newTV h
 (TV.agg
 [TV.int IntKind.i64 (0 : Int),
 TV.bytes (32 : Nat) (Bs.zero (32 : Nat)),
 TV.int IntKind.i64 (0 : Int),
 TV.bytes (32 : Nat) (Bs.zero (32 : Nat)), TV.str []])
 (32 : Nat))
 fun (h_6 : Array Obj) ↦
 Ext h h_6 ∧
 CallsH Try.prog (14 : Nat)
 (TVs.vals
 [TV.agg
 [TV.int IntKind.i64 n_4, TV.int IntKind.i64 n_5,
 TV.int IntKind.i64 n_6, TV.int IntKind.i64 n_7,
 TV.str s_1]])
 h_6 fun (v : Value) (h_7 : Array Obj) ↦
 ∃ (n_13 : Int),
 ∃ (b_2 : Bs (32 : Nat)),
 ∃ (n_14 : Int),
 ∃ (b_3 : Bs (32 : Nat)),
 ∃ (s_3 : List UInt8),
 v =
 TV.val
 (TV.agg
 [TV.int IntKind.i64 n_13,
 TV.bytes (32 : Nat) b_2,
 TV.int IntKind.i64 n_14,
 TV.bytes (32 : Nat) b_3, TV.str s_3]) ∧
 Ext h_6 h_7 ∧
 CallsH Try.prog (14 : Nat)
 (TVs.vals
 [TV.agg
 [TV.int IntKind.i64 n_8,
 TV.int IntKind.i64 n_9,
 TV.int IntKind.i64 n_10,
 TV.int IntKind.i64 n_11, TV.str s_2]])
 h_7 fun (v : Value) (h_8 : Array Obj) ↦
 ∃ (n_15 : Int),
 ∃ (b_4 : Bs (32 : Nat)),
 ∃ (n_16 : Int),
 ∃ (b_5 : Bs (32 : Nat)),
 ∃ (s_4 : List UInt8),
 v =
 TV.val
 (TV.agg
 [TV.int IntKind.i64 n_15,
 TV.bytes (32 : Nat) b_4,
 TV.int IntKind.i64 n_16,
 TV.bytes (32 : Nat) b_5,
 TV.str s_4]) ∧
 wok h_8 (Array.size h) (0 : Nat)
 (67 : Nat) ∧
 Vc.Bind
 (TV.put h_8 (Array.size h)
 (0 : Nat)
 (TV.agg
 [TV.int IntKind.i64 n,
 TV.bytes (32 : Nat) b,
 TV.int IntKind.i64 n_12,
 TV.bytes (32 : Nat) b_1,
 TV.str s]))
 fun (h_9 : Array Obj) ↦
 wok h_9 (Array.size h_4)
 (0 : Nat) (67 : Nat) ∧
 Vc.Bind
 (TV.put h_9 (Array.size h_4)
 (0 : Nat)
 (TV.agg
 [TV.int IntKind.i64
 n_13,
 TV.bytes (32 : Nat)
 b_2,
 TV.int IntKind.i64
 n_14,
 TV.bytes (32 : Nat)
 b_3,
 TV.str s_3]))
 fun (h_10 : Array Obj) ↦
 wok h_10 (Array.size h_5)
 (0 : Nat) (67 : Nat) ∧
 Vc.Bind
 (TV.put h_10
 (Array.size h_5)
 (0 : Nat)
 (TV.agg
 [TV.int IntKind.i64
 n_15,
 TV.bytes
 (32 : Nat) b_4,
 TV.int IntKind.i64
 n_16,
 TV.bytes
 (32 : Nat) b_5,
 TV.str s_4]))
 fun (h_11 : Array Obj) ↦
 J
 (some
 (Loc.mk
 (Array.size h)
 (0 : Nat)),
 some
 (Loc.mk
 (Array.size h_4)
 (0 : Nat)),
 some
 (Loc.mk
 (Array.size h_5)
 (0 : Nat)))
 h_11) ∧
 (Vc.Bind
 (newTV h
 (TV.agg
 [TV.int IntKind.i64 (0 : Int), TV.bytes (32 : Nat) (Bs.zero (32 : Nat)),
 TV.int IntKind.i64 (0 : Int), TV.bytes (32 : Nat) (Bs.zero (32 : Nat)), TV.str []])
 (32 : Nat))
 fun (h_5 : Array Obj) ↦
 Ext h h_5 ∧
 (CallsH Try.prog (14 : Nat)
 (TVs.vals
 [TV.agg
 [TV.int IntKind.i64 n, TV.int IntKind.i64 n_1, TV.int IntKind.i64 n_2,
 TV.int IntKind.i64 n_3, TV.str s]])
 h_5 fun (v : Value) (h_6 : Array Obj) ↦
 ∃ (n : Int),
 ∃ (b : Bs (32 : Nat)),
 ∃ (n_12 : Int),
 ∃ (b_1 : Bs (32 : Nat)),
 ∃ (s : List UInt8),
 v =
 TV.val
 (TV.agg
 [TV.int IntKind.i64 n, TV.bytes (32 : Nat) b,
 TV.int IntKind.i64 n_12, TV.bytes (32 : Nat) b_1, TV.str s]) ∧
 Ext h_5 h_6 ∧
 (CallsH Try.prog (14 : Nat)
 (TVs.vals
 [TV.agg
 [TV.int IntKind.i64 n_4, TV.int IntKind.i64 n_5,
 TV.int IntKind.i64 n_6, TV.int IntKind.i64 n_7,
 TV.str s_1]])
 h_6 fun (v : Value) (h_7 : Array Obj) ↦
 ∃ (n_13 : Int),
 ∃ (b_2 : Bs (32 : Nat)),
 ∃ (n_14 : Int),
 ∃ (b_3 : Bs (32 : Nat)),
 ∃ (s_3 : List UInt8),
 v =
 TV.val
 (TV.agg
 [TV.int IntKind.i64 n_13, TV.bytes (32 : Nat) b_2,
 TV.int IntKind.i64 n_14,
 TV.bytes (32 : Nat) b_3, TV.str s_3]) ∧
 Ext h_6 h_7 ∧
 (CallsH Try.prog (14 : Nat)
 (TVs.vals
 [TV.agg
 [TV.int IntKind.i64 n_8,
 TV.int IntKind.i64 n_9,
 TV.int IntKind.i64 n_10,
 TV.int IntKind.i64 n_11, TV.str s_2]])
 h_7 fun (v : Value) (h_8 : Array Obj) ↦
 ∃ (n_15 : Int),
 ∃ (b_4 : Bs (32 : Nat)),
 ∃ (n_16 : Int),
 ∃ (b_5 : Bs (32 : Nat)),
 ∃ (s_4 : List UInt8),
 v =
 TV.val
 (TV.agg
 [TV.int IntKind.i64 n_15,
 TV.bytes (32 : Nat) b_4,
 TV.int IntKind.i64 n_16,
 TV.bytes (32 : Nat) b_5,
 TV.str s_4]) ∧
 Vc.Bind
 (newTV h_8
 (TV.agg
 [TV.int IntKind.i64 (0 : Int),
 TV.bytes (32 : Nat)
 (Bs.zero (32 : Nat)),
 TV.int IntKind.i64 (0 : Int),
 TV.bytes (32 : Nat)
 (Bs.zero (32 : Nat)),
 TV.str []])
 (32 : Nat))
 fun (h_9 : Array Obj) ↦
 Ext h_8 h_9 ∧
 wok h_9 (Array.size h) (0 : Nat)
 (67 : Nat) ∧
 Vc.Bind
 (TV.put h_9 (Array.size h)
 (0 : Nat)
 (TV.agg
 [TV.int IntKind.i64 n,
 TV.bytes (32 : Nat) b,
 TV.int IntKind.i64 n_12,
 TV.bytes (32 : Nat) b_1,
 TV.str s]))
 fun (h_10 : Array Obj) ↦
 wok h_10 (Array.size h_4)
 (0 : Nat) (67 : Nat) ∧
 Vc.Bind
 (TV.put h_10
 (Array.size h_4)
 (0 : Nat)
 (TV.agg
 [TV.int IntKind.i64
 n_13,
 TV.bytes (32 : Nat)
 b_2,
 TV.int IntKind.i64
 n_14,
 TV.bytes (32 : Nat)
 b_3,
 TV.str s_3]))
 fun (h_11 : Array Obj) ↦
 wok h_11 (Array.size h_8)
 (0 : Nat) (67 : Nat) ∧
 Vc.Bind
 (TV.put h_11
 (Array.size h_8)
 (0 : Nat)
 (TV.agg
 [TV.int
 IntKind.i64
 n_15,
 TV.bytes
 (32 : Nat)
 b_4,
 TV.int
 IntKind.i64
 n_16,
 TV.bytes
 (32 : Nat)
 b_5,
 TV.str s_4]))
 fun
 (h_12 : Array Obj) ↦
 J
 (some
 (Loc.mk
 (Array.size h)
 (0 : Nat)),
 some
 (Loc.mk
 (Array.size
 h_4)
 (0 : Nat)),
 some
 (Loc.mk
 (Array.size
 h_8)
 (0 : Nat)))
 h_12) ∧
 Vc.Bind
 (newTV h_7
 (TV.agg
 [TV.int IntKind.i64 (0 : Int),
 TV.bytes (32 : Nat) (Bs.zero (32 : Nat)),
 TV.int IntKind.i64 (0 : Int),
 TV.bytes (32 : Nat) (Bs.zero (32 : Nat)),
 TV.str []])
 (32 : Nat))
 fun (h_8 : Array Obj) ↦
 Ext h_7 h_8 ∧
 CallsH Try.prog (14 : Nat)
 (TVs.vals
 [TV.agg
 [TV.int IntKind.i64 n_8,
 TV.int IntKind.i64 n_9,
 TV.int IntKind.i64 n_10,
 TV.int IntKind.i64 n_11, TV.str s_2]])
 h_8 fun (v : Value) (h_9 : Array Obj) ↦
 ∃ (n_15 : Int),
 ∃ (b_4 : Bs (32 : Nat)),
 ∃ (n_16 : Int),
 ∃ (b_5 : Bs (32 : Nat)),
 ∃ (s_4 : List UInt8),
 v =
 TV.val
 (TV.agg
 [TV.int IntKind.i64 n_15,
 TV.bytes (32 : Nat) b_4,
 TV.int IntKind.i64 n_16,
 TV.bytes (32 : Nat) b_5,
 TV.str s_4]) ∧
 wok h_9 (Array.size h) (0 : Nat)
 (67 : Nat) ∧
 Vc.Bind
 (TV.put h_9 (Array.size h)
 (0 : Nat)
 (TV.agg
 [TV.int IntKind.i64 n,
 TV.bytes (32 : Nat) b,
 TV.int IntKind.i64 n_12,
 TV.bytes (32 : Nat) b_1,
 TV.str s]))
 fun (h_10 : Array Obj) ↦
 wok h_10 (Array.size h_4)
 (0 : Nat) (67 : Nat) ∧
 Vc.Bind
 (TV.put h_10
 (Array.size h_4)
 (0 : Nat)
 (TV.agg
 [TV.int IntKind.i64
 n_13,
 TV.bytes (32 : Nat)
 b_2,
 TV.int IntKind.i64
 n_14,
 TV.bytes (32 : Nat)
 b_3,
 TV.str s_3]))
 fun (h_11 : Array Obj) ↦
 wok h_11 (Array.size h_7)
 (0 : Nat) (67 : Nat) ∧
 Vc.Bind
 (TV.put h_11
 (Array.size h_7)
 (0 : Nat)
 (TV.agg
 [TV.int
 IntKind.i64
 n_15,
 TV.bytes
 (32 : Nat)
 b_4,
 TV.int
 IntKind.i64
 n_16,
 TV.bytes
 (32 : Nat)
 b_5,
 TV.str s_4]))
 fun
 (h_12 : Array Obj) ↦
 J
 (some
 (Loc.mk
 (Array.size h)
 (0 : Nat)),
 some
 (Loc.mk
 (Array.size
 h_4)
 (0 : Nat)),
 some
 (Loc.mk
 (Array.size
 h_7)
 (0 : Nat)))
 h_12) ∧
 Vc.Bind
 (newTV h_6
 (TV.agg
 [TV.int IntKind.i64 (0 : Int),
 TV.bytes (32 : Nat) (Bs.zero (32 : Nat)),
 TV.int IntKind.i64 (0 : Int),
 TV.bytes (32 : Nat) (Bs.zero (32 : Nat)), TV.str []])
 (32 : Nat))
 fun (h_7 : Array Obj) ↦
 Ext h_6 h_7 ∧
 CallsH Try.prog (14 : Nat)
 (TVs.vals
 [TV.agg
 [TV.int IntKind.i64 n_4, TV.int IntKind.i64 n_5,
 TV.int IntKind.i64 n_6, TV.int IntKind.i64 n_7,
 TV.str s_1]])
 h_7 fun (v : Value) (h_8 : Array Obj) ↦
 ∃ (n_13 : Int),
 ∃ (b_2 : Bs (32 : Nat)),
 ∃ (n_14 : Int),
 ∃ (b_3 : Bs (32 : Nat)),
 ∃ (s_3 : List UInt8),
 v =
 TV.val
 (TV.agg
 [TV.int IntKind.i64 n_13,
 TV.bytes (32 : Nat) b_2,
 TV.int IntKind.i64 n_14,
 TV.bytes (32 : Nat) b_3, TV.str s_3]) ∧
 Ext h_7 h_8 ∧
 CallsH Try.prog (14 : Nat)
 (TVs.vals
 [TV.agg
 [TV.int IntKind.i64 n_8,
 TV.int IntKind.i64 n_9,
 TV.int IntKind.i64 n_10,
 TV.int IntKind.i64 n_11, TV.str s_2]])
 h_8 fun (v : Value) (h_9 : Array Obj) ↦
 ∃ (n_15 : Int),
 ∃ (b_4 : Bs (32 : Nat)),
 ∃ (n_16 : Int),
 ∃ (b_5 : Bs (32 : Nat)),
 ∃ (s_4 : List UInt8),
 v =
 TV.val
 (TV.agg
 [TV.int IntKind.i64 n_15,
 TV.bytes (32 : Nat) b_4,
 TV.int IntKind.i64 n_16,
 TV.bytes (32 : Nat) b_5,
 TV.str s_4]) ∧
 wok h_9 (Array.size h) (0 : Nat)
 (67 : Nat) ∧
 Vc.Bind
 (TV.put h_9 (Array.size h)
 (0 : Nat)
 (TV.agg
 [TV.int IntKind.i64 n,
 TV.bytes (32 : Nat) b,
 TV.int IntKind.i64 n_12,
 TV.bytes (32 : Nat) b_1,
 TV.str s]))
 fun (h_10 : Array Obj) ↦
 wok h_10 (Array.size h_4)
 (0 : Nat) (67 : Nat) ∧
 Vc.Bind
 (TV.put h_10
 (Array.size h_4) (0 : Nat)
 (TV.agg
 [TV.int IntKind.i64
 n_13,
 TV.bytes (32 : Nat)
 b_2,
 TV.int IntKind.i64
 n_14,
 TV.bytes (32 : Nat)
 b_3,
 TV.str s_3]))
 fun (h_11 : Array Obj) ↦
 wok h_11 (Array.size h_6)
 (0 : Nat) (67 : Nat) ∧
 Vc.Bind
 (TV.put h_11
 (Array.size h_6)
 (0 : Nat)
 (TV.agg
 [TV.int IntKind.i64
 n_15,
 TV.bytes
 (32 : Nat) b_4,
 TV.int IntKind.i64
 n_16,
 TV.bytes
 (32 : Nat) b_5,
 TV.str s_4]))
 fun (h_12 : Array Obj) ↦
 J
 (some
 (Loc.mk
 (Array.size h)
 (0 : Nat)),
 some
 (Loc.mk
 (Array.size h_4)
 (0 : Nat)),
 some
 (Loc.mk
 (Array.size h_6)
 (0 : Nat)))
 h_12) ∧
 Vc.Bind
 (newTV h_5
 (TV.agg
 [TV.int IntKind.i64 (0 : Int), TV.bytes (32 : Nat) (Bs.zero (32 : Nat)),
 TV.int IntKind.i64 (0 : Int), TV.bytes (32 : Nat) (Bs.zero (32 : Nat)),
 TV.str []])
 (32 : Nat))
 fun (h_6 : Array Obj) ↦
 Ext h_5 h_6 ∧
 CallsH Try.prog (14 : Nat)
 (TVs.vals
 [TV.agg
 [TV.int IntKind.i64 n, TV.int IntKind.i64 n_1, TV.int IntKind.i64 n_2,
 TV.int IntKind.i64 n_3, TV.str s]])
 h_6 fun (v : Value) (h_7 : Array Obj) ↦
 ∃ (n : Int),
 ∃ (b : Bs (32 : Nat)),
 ∃ (n_12 : Int),
 ∃ (b_1 : Bs (32 : Nat)),
 ∃ (s : List UInt8),
 v =
 TV.val
 (TV.agg
 [TV.int IntKind.i64 n, TV.bytes (32 : Nat) b,
 TV.int IntKind.i64 n_12, TV.bytes (32 : Nat) b_1, TV.str s]) ∧
 Ext h_6 h_7 ∧
 CallsH Try.prog (14 : Nat)
 (TVs.vals
 [TV.agg
 [TV.int IntKind.i64 n_4, TV.int IntKind.i64 n_5,
 TV.int IntKind.i64 n_6, TV.int IntKind.i64 n_7,
 TV.str s_1]])
 h_7 fun (v : Value) (h_8 : Array Obj) ↦
 ∃ (n_13 : Int),
 ∃ (b_2 : Bs (32 : Nat)),
 ∃ (n_14 : Int),
 ∃ (b_3 : Bs (32 : Nat)),
 ∃ (s_3 : List UInt8),
 v =
 TV.val
 (TV.agg
 [TV.int IntKind.i64 n_13,
 TV.bytes (32 : Nat) b_2,
 TV.int IntKind.i64 n_14,
 TV.bytes (32 : Nat) b_3, TV.str s_3]) ∧
 Ext h_7 h_8 ∧
 CallsH Try.prog (14 : Nat)
 (TVs.vals
 [TV.agg
 [TV.int IntKind.i64 n_8,
 TV.int IntKind.i64 n_9,
 TV.int IntKind.i64 n_10,
 TV.int IntKind.i64 n_11, TV.str s_2]])
 h_8 fun (v : Value) (h_9 : Array Obj) ↦
 ∃ (n_15 : Int),
 ∃ (b_4 : Bs (32 : Nat)),
 ∃ (n_16 : Int),
 ∃ (b_5 : Bs (32 : Nat)),
 ∃ (s_4 : List UInt8),
 v =
 TV.val
 (TV.agg
 [TV.int IntKind.i64 n_15,
 TV.bytes (32 : Nat) b_4,
 TV.int IntKind.i64 n_16,
 TV.bytes (32 : Nat) b_5,
 TV.str s_4]) ∧
 wok h_9 (Array.size h) (0 : Nat)
 (67 : Nat) ∧
 Vc.Bind
 (TV.put h_9 (Array.size h)
 (0 : Nat)
 (TV.agg
 [TV.int IntKind.i64 n,
 TV.bytes (32 : Nat) b,
 TV.int IntKind.i64 n_12,
 TV.bytes (32 : Nat) b_1,
 TV.str s]))
 fun (h_10 : Array Obj) ↦
 wok h_10 (Array.size h_4)
 (0 : Nat) (67 : Nat) ∧
 Vc.Bind
 (TV.put h_10 (Array.size h_4)
 (0 : Nat)
 (TV.agg
 [TV.int IntKind.i64 n_13,
 TV.bytes (32 : Nat) b_2,
 TV.int IntKind.i64 n_14,
 TV.bytes (32 : Nat) b_3,
 TV.str s_3]))
 fun (h_11 : Array Obj) ↦
 wok h_11 (Array.size h_5)
 (0 : Nat) (67 : Nat) ∧
 Vc.Bind
 (TV.put h_11
 (Array.size h_5)
 (0 : Nat)
 (TV.agg
 [TV.int IntKind.i64
 n_15,
 TV.bytes (32 : Nat)
 b_4,
 TV.int IntKind.i64
 n_16,
 TV.bytes (32 : Nat)
 b_5,
 TV.str s_4]))
 fun (h_12 : Array Obj) ↦
 J
 (some
 (Loc.mk
 (Array.size h)
 (0 : Nat)),
 some
 (Loc.mk
 (Array.size h_4)
 (0 : Nat)),
 some
 (Loc.mk
 (Array.size h_5)
 (0 : Nat)))
 h_12) ∧
 Vc.Bind
 (newTV h
 (TV.agg
 [TV.int IntKind.i64 (0 : Int), TV.bytes (32 : Nat) (Bs.zero (32 : Nat)),
 TV.int IntKind.i64 (0 : Int), TV.bytes (32 : Nat) (Bs.zero (32 : Nat)), TV.str []])
 (32 : Nat))
 fun (h_5 : Array Obj) ↦
 Ext h h_5 ∧
 (CallsH Try.prog (14 : Nat)
 (TVs.vals
 [TV.agg
 [TV.int IntKind.i64 n, TV.int IntKind.i64 n_1, TV.int IntKind.i64 n_2,
 TV.int IntKind.i64 n_3, TV.str s]])
 h_5 fun (v : Value) (h_6 : Array Obj) ↦
 ∃ (n : Int),
 ∃ (b : Bs (32 : Nat)),
 ∃ (n_12 : Int),
 ∃ (b_1 : Bs (32 : Nat)),
 ∃ (s : List UInt8),
 v =
 TV.val
 (TV.agg
 [TV.int IntKind.i64 n, TV.bytes (32 : Nat) b,
 TV.int IntKind.i64 n_12, TV.bytes (32 : Nat) b_1, TV.str s]) ∧
 Ext h_5 h_6 ∧
 (CallsH Try.prog (14 : Nat)
 (TVs.vals
 [TV.agg
 [TV.int IntKind.i64 n_4, TV.int IntKind.i64 n_5,
 TV.int IntKind.i64 n_6, TV.int IntKind.i64 n_7,
 TV.str s_1]])
 h_6 fun (v : Value) (h_7 : Array Obj) ↦
 ∃ (n_13 : Int),
 ∃ (b_2 : Bs (32 : Nat)),
 ∃ (n_14 : Int),
 ∃ (b_3 : Bs (32 : Nat)),
 ∃ (s_3 : List UInt8),
 v =
 TV.val
 (TV.agg
 [TV.int IntKind.i64 n_13, TV.bytes (32 : Nat) b_2,
 TV.int IntKind.i64 n_14,
 TV.bytes (32 : Nat) b_3, TV.str s_3]) ∧
 Ext h_6 h_7 ∧
 (CallsH Try.prog (14 : Nat)
 (TVs.vals
 [TV.agg
 [TV.int IntKind.i64 n_8,
 TV.int IntKind.i64 n_9,
 TV.int IntKind.i64 n_10,
 TV.int IntKind.i64 n_11, TV.str s_2]])
 h_7 fun (v : Value) (h_8 : Array Obj) ↦
 ∃ (n_15 : Int),
 ∃ (b_4 : Bs (32 : Nat)),
 ∃ (n_16 : Int),
 ∃ (b_5 : Bs (32 : Nat)),
 ∃ (s_4 : List UInt8),
 v =
 TV.val
 (TV.agg
 [TV.int IntKind.i64 n_15,
 TV.bytes (32 : Nat) b_4,
 TV.int IntKind.i64 n_16,
 TV.bytes (32 : Nat) b_5,
 TV.str s_4]) ∧
 Vc.Bind
 (newTV h_8
 (TV.agg
 [TV.int IntKind.i64 (0 : Int),
 TV.bytes (32 : Nat)
 (Bs.zero (32 : Nat)),
 TV.int IntKind.i64 (0 : Int),
 TV.bytes (32 : Nat)
 (Bs.zero (32 : Nat)),
 TV.str []])
 (32 : Nat))
 fun (h_9 : Array Obj) ↦
 Ext h_8 h_9 ∧
 wok h_9 (Array.size h_8) (0 : Nat)
 (67 : Nat) ∧
 Vc.Bind
 (TV.put h_9 (Array.size h_8)
 (0 : Nat)
 (TV.agg
 [TV.int IntKind.i64 n,
 TV.bytes (32 : Nat) b,
 TV.int IntKind.i64 n_12,
 TV.bytes (32 : Nat) b_1,
 TV.str s]))
 fun (h_10 : Array Obj) ↦
 wok h_10 (Array.size h_4)
 (0 : Nat) (67 : Nat) ∧
 Vc.Bind
 (TV.put h_10
 (Array.size h_4)
 (0 : Nat)
 (TV.agg
 [TV.int IntKind.i64
 n_13,
 TV.bytes (32 : Nat)
 b_2,
 TV.int IntKind.i64
 n_14,
 TV.bytes (32 : Nat)
 b_3,
 TV.str s_3]))
 fun (h_11 : Array Obj) ↦
 wok h_11 (Array.size h)
 (0 : Nat) (67 : Nat) ∧
 Vc.Bind
 (TV.put h_11
 (Array.size h)
 (0 : Nat)
 (TV.agg
 [TV.int
 IntKind.i64
 n_15,
 TV.bytes
 (32 : Nat)
 b_4,
 TV.int
 IntKind.i64
 n_16,
 TV.bytes
 (32 : Nat)
 b_5,
 TV.str s_4]))
 fun
 (h_12 : Array Obj) ↦
 J
 (some
 (Loc.mk
 (Array.size
 h_8)
 (0 : Nat)),
 some
 (Loc.mk
 (Array.size
 h_4)
 (0 : Nat)),
 some
 (Loc.mk
 (Array.size h)
 (0 : Nat)))
 h_12) ∧
 Vc.Bind
 (newTV h_7
 (TV.agg
 [TV.int IntKind.i64 (0 : Int),
 TV.bytes (32 : Nat) (Bs.zero (32 : Nat)),
 TV.int IntKind.i64 (0 : Int),
 TV.bytes (32 : Nat) (Bs.zero (32 : Nat)),
 TV.str []])
 (32 : Nat))
 fun (h_8 : Array Obj) ↦
 Ext h_7 h_8 ∧
 CallsH Try.prog (14 : Nat)
 (TVs.vals
 [TV.agg
 [TV.int IntKind.i64 n_8,
 TV.int IntKind.i64 n_9,
 TV.int IntKind.i64 n_10,
 TV.int IntKind.i64 n_11, TV.str s_2]])
 h_8 fun (v : Value) (h_9 : Array Obj) ↦
 ∃ (n_15 : Int),
 ∃ (b_4 : Bs (32 : Nat)),
 ∃ (n_16 : Int),
 ∃ (b_5 : Bs (32 : Nat)),
 ∃ (s_4 : List UInt8),
 v =
 TV.val
 (TV.agg
 [TV.int IntKind.i64 n_15,
 TV.bytes (32 : Nat) b_4,
 TV.int IntKind.i64 n_16,
 TV.bytes (32 : Nat) b_5,
 TV.str s_4]) ∧
 wok h_9 (Array.size h_7) (0 : Nat)
 (67 : Nat) ∧
 Vc.Bind
 (TV.put h_9 (Array.size h_7)
 (0 : Nat)
 (TV.agg
 [TV.int IntKind.i64 n,
 TV.bytes (32 : Nat) b,
 TV.int IntKind.i64 n_12,
 TV.bytes (32 : Nat) b_1,
 TV.str s]))
 fun (h_10 : Array Obj) ↦
 wok h_10 (Array.size h_4)
 (0 : Nat) (67 : Nat) ∧
 Vc.Bind
 (TV.put h_10
 (Array.size h_4)
 (0 : Nat)
 (TV.agg
 [TV.int IntKind.i64
 n_13,
 TV.bytes (32 : Nat)
 b_2,
 TV.int IntKind.i64
 n_14,
 TV.bytes (32 : Nat)
 b_3,
 TV.str s_3]))
 fun (h_11 : Array Obj) ↦
 wok h_11 (Array.size h)
 (0 : Nat) (67 : Nat) ∧
 Vc.Bind
 (TV.put h_11
 (Array.size h)
 (0 : Nat)
 (TV.agg
 [TV.int
 IntKind.i64
 n_15,
 TV.bytes
 (32 : Nat)
 b_4,
 TV.int
 IntKind.i64
 n_16,
 TV.bytes
 (32 : Nat)
 b_5,
 TV.str s_4]))
 fun
 (h_12 : Array Obj) ↦
 J
 (some
 (Loc.mk
 (Array.size
 h_7)
 (0 : Nat)),
 some
 (Loc.mk
 (Array.size
 h_4)
 (0 : Nat)),
 some
 (Loc.mk
 (Array.size h)
 (0 : Nat)))
 h_12) ∧
 Vc.Bind
 (newTV h_6
 (TV.agg
 [TV.int IntKind.i64 (0 : Int),
 TV.bytes (32 : Nat) (Bs.zero (32 : Nat)),
 TV.int IntKind.i64 (0 : Int),
 TV.bytes (32 : Nat) (Bs.zero (32 : Nat)), TV.str []])
 (32 : Nat))
 fun (h_7 : Array Obj) ↦
 Ext h_6 h_7 ∧
 CallsH Try.prog (14 : Nat)
 (TVs.vals
 [TV.agg
 [TV.int IntKind.i64 n_4, TV.int IntKind.i64 n_5,
 TV.int IntKind.i64 n_6, TV.int IntKind.i64 n_7,
 TV.str s_1]])
 h_7 fun (v : Value) (h_8 : Array Obj) ↦
 ∃ (n_13 : Int),
 ∃ (b_2 : Bs (32 : Nat)),
 ∃ (n_14 : Int),
 ∃ (b_3 : Bs (32 : Nat)),
 ∃ (s_3 : List UInt8),
 v =
 TV.val
 (TV.agg
 [TV.int IntKind.i64 n_13,
 TV.bytes (32 : Nat) b_2,
 TV.int IntKind.i64 n_14,
 TV.bytes (32 : Nat) b_3, TV.str s_3]) ∧
 Ext h_7 h_8 ∧
 CallsH Try.prog (14 : Nat)
 (TVs.vals
 [TV.agg
 [TV.int IntKind.i64 n_8,
 TV.int IntKind.i64 n_9,
 TV.int IntKind.i64 n_10,
 TV.int IntKind.i64 n_11, TV.str s_2]])
 h_8 fun (v : Value) (h_9 : Array Obj) ↦
 ∃ (n_15 : Int),
 ∃ (b_4 : Bs (32 : Nat)),
 ∃ (n_16 : Int),
 ∃ (b_5 : Bs (32 : Nat)),
 ∃ (s_4 : List UInt8),
 v =
 TV.val
 (TV.agg
 [TV.int IntKind.i64 n_15,
 TV.bytes (32 : Nat) b_4,
 TV.int IntKind.i64 n_16,
 TV.bytes (32 : Nat) b_5,
 TV.str s_4]) ∧
 wok h_9 (Array.size h_6) (0 : Nat)
 (67 : Nat) ∧
 Vc.Bind
 (TV.put h_9 (Array.size h_6)
 (0 : Nat)
 (TV.agg
 [TV.int IntKind.i64 n,
 TV.bytes (32 : Nat) b,
 TV.int IntKind.i64 n_12,
 TV.bytes (32 : Nat) b_1,
 TV.str s]))
 fun (h_10 : Array Obj) ↦
 wok h_10 (Array.size h_4)
 (0 : Nat) (67 : Nat) ∧
 Vc.Bind
 (TV.put h_10
 (Array.size h_4) (0 : Nat)
 (TV.agg
 [TV.int IntKind.i64
 n_13,
 TV.bytes (32 : Nat)
 b_2,
 TV.int IntKind.i64
 n_14,
 TV.bytes (32 : Nat)
 b_3,
 TV.str s_3]))
 fun (h_11 : Array Obj) ↦
 wok h_11 (Array.size h)
 (0 : Nat) (67 : Nat) ∧
 Vc.Bind
 (TV.put h_11
 (Array.size h)
 (0 : Nat)
 (TV.agg
 [TV.int IntKind.i64
 n_15,
 TV.bytes
 (32 : Nat) b_4,
 TV.int IntKind.i64
 n_16,
 TV.bytes
 (32 : Nat) b_5,
 TV.str s_4]))
 fun (h_12 : Array Obj) ↦
 J
 (some
 (Loc.mk
 (Array.size h_6)
 (0 : Nat)),
 some
 (Loc.mk
 (Array.size h_4)
 (0 : Nat)),
 some
 (Loc.mk
 (Array.size h)
 (0 : Nat)))
 h_12) ∧
 Vc.Bind
 (newTV h_5
 (TV.agg
 [TV.int IntKind.i64 (0 : Int), TV.bytes (32 : Nat) (Bs.zero (32 : Nat)),
 TV.int IntKind.i64 (0 : Int), TV.bytes (32 : Nat) (Bs.zero (32 : Nat)),
 TV.str []])
 (32 : Nat))
 fun (h_6 : Array Obj) ↦
 Ext h_5 h_6 ∧
 CallsH Try.prog (14 : Nat)
 (TVs.vals
 [TV.agg
 [TV.int IntKind.i64 n, TV.int IntKind.i64 n_1, TV.int IntKind.i64 n_2,
 TV.int IntKind.i64 n_3, TV.str s]])
 h_6 fun (v : Value) (h_7 : Array Obj) ↦
 ∃ (n : Int),
 ∃ (b : Bs (32 : Nat)),
 ∃ (n_12 : Int),
 ∃ (b_1 : Bs (32 : Nat)),
 ∃ (s : List UInt8),
 v =
 TV.val
 (TV.agg
 [TV.int IntKind.i64 n, TV.bytes (32 : Nat) b,
 TV.int IntKind.i64 n_12, TV.bytes (32 : Nat) b_1, TV.str s]) ∧
 Ext h_6 h_7 ∧
 CallsH Try.prog (14 : Nat)
 (TVs.vals
 [TV.agg
 [TV.int IntKind.i64 n_4, TV.int IntKind.i64 n_5,
 TV.int IntKind.i64 n_6, TV.int IntKind.i64 n_7,
 TV.str s_1]])
 h_7 fun (v : Value) (h_8 : Array Obj) ↦
 ∃ (n_13 : Int),
 ∃ (b_2 : Bs (32 : Nat)),
 ∃ (n_14 : Int),
 ∃ (b_3 : Bs (32 : Nat)),
 ∃ (s_3 : List UInt8),
 v =
 TV.val
 (TV.agg
 [TV.int IntKind.i64 n_13,
 TV.bytes (32 : Nat) b_2,
 TV.int IntKind.i64 n_14,
 TV.bytes (32 : Nat) b_3, TV.str s_3]) ∧
 Ext h_7 h_8 ∧
 CallsH Try.prog (14 : Nat)
 (TVs.vals
 [TV.agg
 [TV.int IntKind.i64 n_8,
 TV.int IntKind.i64 n_9,
 TV.int IntKind.i64 n_10,
 TV.int IntKind.i64 n_11, TV.str s_2]])
 h_8 fun (v : Value) (h_9 : Array Obj) ↦
 ∃ (n_15 : Int),
 ∃ (b_4 : Bs (32 : Nat)),
 ∃ (n_16 : Int),
 ∃ (b_5 : Bs (32 : Nat)),
 ∃ (s_4 : List UInt8),
 v =
 TV.val
 (TV.agg
 [TV.int IntKind.i64 n_15,
 TV.bytes (32 : Nat) b_4,
 TV.int IntKind.i64 n_16,
 TV.bytes (32 : Nat) b_5,
 TV.str s_4]) ∧
 wok h_9 (Array.size h_5) (0 : Nat)
 (67 : Nat) ∧
 Vc.Bind
 (TV.put h_9 (Array.size h_5)
 (0 : Nat)
 (TV.agg
 [TV.int IntKind.i64 n,
 TV.bytes (32 : Nat) b,
 TV.int IntKind.i64 n_12,
 TV.bytes (32 : Nat) b_1,
 TV.str s]))
 fun (h_10 : Array Obj) ↦
 wok h_10 (Array.size h_4)
 (0 : Nat) (67 : Nat) ∧
 Vc.Bind
 (TV.put h_10 (Array.size h_4)
 (0 : Nat)
 (TV.agg
 [TV.int IntKind.i64 n_13,
 TV.bytes (32 : Nat) b_2,
 TV.int IntKind.i64 n_14,
 TV.bytes (32 : Nat) b_3,
 TV.str s_3]))
 fun (h_11 : Array Obj) ↦
 wok h_11 (Array.size h)
 (0 : Nat) (67 : Nat) ∧
 Vc.Bind
 (TV.put h_11
 (Array.size h) (0 : Nat)
 (TV.agg
 [TV.int IntKind.i64
 n_15,
 TV.bytes (32 : Nat)
 b_4,
 TV.int IntKind.i64
 n_16,
 TV.bytes (32 : Nat)
 b_5,
 TV.str s_4]))
 fun (h_12 : Array Obj) ↦
 J
 (some
 (Loc.mk
 (Array.size h_5)
 (0 : Nat)),
 some
 (Loc.mk
 (Array.size h_4)
 (0 : Nat)),
 some
 (Loc.mk
 (Array.size h)
 (0 : Nat)))
 h_12) ∧
 Vc.Bind
 (newTV h_4
 (TV.agg
 [TV.int IntKind.i64 (0 : Int), TV.bytes (32 : Nat) (Bs.zero (32 : Nat)),
 TV.int IntKind.i64 (0 : Int), TV.bytes (32 : Nat) (Bs.zero (32 : Nat)), TV.str []])
 (32 : Nat))
 fun (h : Array Obj) ↦
 Ext h_4 h ∧
 (CallsH Try.prog (14 : Nat)
 (TVs.vals
 [TV.agg
 [TV.int IntKind.i64 n, TV.int IntKind.i64 n_1, TV.int IntKind.i64 n_2,
 TV.int IntKind.i64 n_3, TV.str s]])
 h fun (v : Value) (h_5 : Array Obj) ↦
 ∃ (n : Int),
 ∃ (b : Bs (32 : Nat)),
 ∃ (n_12 : Int),
 ∃ (b_1 : Bs (32 : Nat)),
 ∃ (s : List UInt8),
 v =
 TV.val
 (TV.agg
 [TV.int IntKind.i64 n, TV.bytes (32 : Nat) b, TV.int IntKind.i64 n_12,
 TV.bytes (32 : Nat) b_1, TV.str s]) ∧
 Ext h h_5 ∧
 (CallsH Try.prog (14 : Nat)
 (TVs.vals
 [TV.agg
 [TV.int IntKind.i64 n_4, TV.int IntKind.i64 n_5,
 TV.int IntKind.i64 n_6, TV.int IntKind.i64 n_7, TV.str s_1]])
 h_5 fun (v : Value) (h : Array Obj) ↦
 ∃ (n_13 : Int),
 ∃ (b_2 : Bs (32 : Nat)),
 ∃ (n_14 : Int),
 ∃ (b_3 : Bs (32 : Nat)),
 ∃ (s_3 : List UInt8),
 v =
 TV.val
 (TV.agg
 [TV.int IntKind.i64 n_13, TV.bytes (32 : Nat) b_2,
 TV.int IntKind.i64 n_14, TV.bytes (32 : Nat) b_3,
 TV.str s_3]) ∧
 Ext h_5 h ∧
 (CallsH Try.prog (14 : Nat)
 (TVs.vals
 [TV.agg
 [TV.int IntKind.i64 n_8, TV.int IntKind.i64 n_9,
 TV.int IntKind.i64 n_10, TV.int IntKind.i64 n_11,
 TV.str s_2]])
 h fun (v : Value) (h : Array Obj) ↦
 ∃ (n_15 : Int),
 ∃ (b_4 : Bs (32 : Nat)),
 ∃ (n_16 : Int),
 ∃ (b_5 : Bs (32 : Nat)),
 ∃ (s_4 : List UInt8),
 v =
 TV.val
 (TV.agg
 [TV.int IntKind.i64 n_15,
 TV.bytes (32 : Nat) b_4,
 TV.int IntKind.i64 n_16,
 TV.bytes (32 : Nat) b_5,
 TV.str s_4]) ∧
 (Vc.Bind
 (newTV h
 (TV.agg
 [TV.int IntKind.i64 (0 : Int),
 TV.bytes (32 : Nat)
 (Bs.zero (32 : Nat)),
 TV.int IntKind.i64 (0 : Int),
 TV.bytes (32 : Nat)
 (Bs.zero (32 : Nat)),
 TV.str []])
 (32 : Nat))
 fun (h_6 : Array Obj) ↦
 Ext h h_6 ∧
 Vc.Bind
 (newTV h_6
 (TV.agg
 [TV.int IntKind.i64 (0 : Int),
 TV.bytes (32 : Nat)
 (Bs.zero (32 : Nat)),
 TV.int IntKind.i64 (0 : Int),
 TV.bytes (32 : Nat)
 (Bs.zero (32 : Nat)),
 TV.str []])
 (32 : Nat))
 fun (h_7 : Array Obj) ↦
 Ext h_6 h_7 ∧
 wok h_7 (Array.size h) (0 : Nat)
 (67 : Nat) ∧
 Vc.Bind
 (TV.put h_7 (Array.size h)
 (0 : Nat)
 (TV.agg
 [TV.int IntKind.i64 n,
 TV.bytes (32 : Nat) b,
 TV.int IntKind.i64 n_12,
 TV.bytes (32 : Nat) b_1,
 TV.str s]))
 fun (h_8 : Array Obj) ↦
 wok h_8 (Array.size h_6)
 (0 : Nat) (67 : Nat) ∧
 Vc.Bind
 (TV.put h_8 (Array.size h_6)
 (0 : Nat)
 (TV.agg
 [TV.int IntKind.i64
 n_13,
 TV.bytes (32 : Nat)
 b_2,
 TV.int IntKind.i64
 n_14,
 TV.bytes (32 : Nat)
 b_3,
 TV.str s_3]))
 fun (h_9 : Array Obj) ↦
 wok h_9 (Array.size h_4)
 (0 : Nat) (67 : Nat) ∧
 Vc.Bind
 (TV.put h_9
 (Array.size h_4)
 (0 : Nat)
 (TV.agg
 [TV.int IntKind.i64
 n_15,
 TV.bytes
 (32 : Nat) b_4,
 TV.int IntKind.i64
 n_16,
 TV.bytes
 (32 : Nat) b_5,
 TV.str s_4]))
 fun (h_10 : Array Obj) ↦
 J
 (some
 (Loc.mk
 (Array.size h)
 (0 : Nat)),
 some
 (Loc.mk
 (Array.size h_6)
 (0 : Nat)),
 some
 (Loc.mk
 (Array.size h_4)
 (0 : Nat)))
 h_10) ∧
 Vc.Bind
 (newTV h
 (TV.agg
 [TV.int IntKind.i64 (0 : Int),
 TV.bytes (32 : Nat)
 (Bs.zero (32 : Nat)),
 TV.int IntKind.i64 (0 : Int),
 TV.bytes (32 : Nat)
 (Bs.zero (32 : Nat)),
 TV.str []])
 (32 : Nat))
 fun (h_6 : Array Obj) ↦
 Ext h h_6 ∧
 Vc.Bind
 (newTV h_6
 (TV.agg
 [TV.int IntKind.i64 (0 : Int),
 TV.bytes (32 : Nat)
 (Bs.zero (32 : Nat)),
 TV.int IntKind.i64 (0 : Int),
 TV.bytes (32 : Nat)
 (Bs.zero (32 : Nat)),
 TV.str []])
 (32 : Nat))
 fun (h_7 : Array Obj) ↦
 Ext h_6 h_7 ∧
 wok h_7 (Array.size h_6) (0 : Nat)
 (67 : Nat) ∧
 Vc.Bind
 (TV.put h_7 (Array.size h_6)
 (0 : Nat)
 (TV.agg
 [TV.int IntKind.i64 n,
 TV.bytes (32 : Nat) b,
 TV.int IntKind.i64 n_12,
 TV.bytes (32 : Nat) b_1,
 TV.str s]))
 fun (h_8 : Array Obj) ↦
 wok h_8 (Array.size h) (0 : Nat)
 (67 : Nat) ∧
 Vc.Bind
 (TV.put h_8 (Array.size h)
 (0 : Nat)
 (TV.agg
 [TV.int IntKind.i64
 n_13,
 TV.bytes (32 : Nat)
 b_2,
 TV.int IntKind.i64
 n_14,
 TV.bytes (32 : Nat)
 b_3,
 TV.str s_3]))
 fun (h_9 : Array Obj) ↦
 wok h_9 (Array.size h_4)
 (0 : Nat) (67 : Nat) ∧
 Vc.Bind
 (TV.put h_9
 (Array.size h_4)
 (0 : Nat)
 (TV.agg
 [TV.int IntKind.i64
 n_15,
 TV.bytes
 (32 : Nat) b_4,
 TV.int IntKind.i64
 n_16,
 TV.bytes
 (32 : Nat) b_5,
 TV.str s_4]))
 fun (h_10 : Array Obj) ↦
 J
 (some
 (Loc.mk
 (Array.size h_6)
 (0 : Nat)),
 some
 (Loc.mk
 (Array.size h)
 (0 : Nat)),
 some
 (Loc.mk
 (Array.size h_4)
 (0 : Nat)))
 h_10) ∧
 (Vc.Bind
 (newTV h
 (TV.agg
 [TV.int IntKind.i64 (0 : Int),
 TV.bytes (32 : Nat) (Bs.zero (32 : Nat)),
 TV.int IntKind.i64 (0 : Int),
 TV.bytes (32 : Nat) (Bs.zero (32 : Nat)),
 TV.str []])
 (32 : Nat))
 fun (h_6 : Array Obj) ↦
 Ext h h_6 ∧
 (CallsH Try.prog (14 : Nat)
 (TVs.vals
 [TV.agg
 [TV.int IntKind.i64 n_8,
 TV.int IntKind.i64 n_9,
 TV.int IntKind.i64 n_10,
 TV.int IntKind.i64 n_11, TV.str s_2]])
 h_6 fun (v : Value) (h_7 : Array Obj) ↦
 ∃ (n_15 : Int),
 ∃ (b_4 : Bs (32 : Nat)),
 ∃ (n_16 : Int),
 ∃ (b_5 : Bs (32 : Nat)),
 ∃ (s_4 : List UInt8),
 v =
 TV.val
 (TV.agg
 [TV.int IntKind.i64 n_15,
 TV.bytes (32 : Nat) b_4,
 TV.int IntKind.i64 n_16,
 TV.bytes (32 : Nat) b_5,
 TV.str s_4]) ∧
 Vc.Bind
 (newTV h_7
 (TV.agg
 [TV.int IntKind.i64 (0 : Int),
 TV.bytes (32 : Nat)
 (Bs.zero (32 : Nat)),
 TV.int IntKind.i64 (0 : Int),
 TV.bytes (32 : Nat)
 (Bs.zero (32 : Nat)),
 TV.str []])
 (32 : Nat))
 fun (h_8 : Array Obj) ↦
 Ext h_7 h_8 ∧
 wok h_8 (Array.size h) (0 : Nat)
 (67 : Nat) ∧
 Vc.Bind
 (TV.put h_8 (Array.size h)
 (0 : Nat)
 (TV.agg
 [TV.int IntKind.i64 n,
 TV.bytes (32 : Nat) b,
 TV.int IntKind.i64 n_12,
 TV.bytes (32 : Nat) b_1,
 TV.str s]))
 fun (h_9 : Array Obj) ↦
 wok h_9 (Array.size h_7)
 (0 : Nat) (67 : Nat) ∧
 Vc.Bind
 (TV.put h_9
 (Array.size h_7)
 (0 : Nat)
 (TV.agg
 [TV.int IntKind.i64
 n_13,
 TV.bytes (32 : Nat)
 b_2,
 TV.int IntKind.i64
 n_14,
 TV.bytes (32 : Nat)
 b_3,
 TV.str s_3]))
 fun (h_10 : Array Obj) ↦
 wok h_10 (Array.size h_4)
 (0 : Nat) (67 : Nat) ∧
 Vc.Bind
 (TV.put h_10
 (Array.size h_4)
 (0 : Nat)
 (TV.agg
 [TV.int
 IntKind.i64
 n_15,
 TV.bytes
 (32 : Nat)
 b_4,
 TV.int
 IntKind.i64
 n_16,
 TV.bytes
 (32 : Nat)
 b_5,
 TV.str s_4]))
 fun
 (h_11 : Array Obj) ↦
 J
 (some
 (Loc.mk
 (Array.size h)
 (0 : Nat)),
 some
 (Loc.mk
 (Array.size
 h_7)
 (0 : Nat)),
 some
 (Loc.mk
 (Array.size
 h_4)
 (0 : Nat)))
 h_11) ∧
 Vc.Bind
 (newTV h_6
 (TV.agg
 [TV.int IntKind.i64 (0 : Int),
 TV.bytes (32 : Nat) (Bs.zero (32 : Nat)),
 TV.int IntKind.i64 (0 : Int),
 TV.bytes (32 : Nat) (Bs.zero (32 : Nat)),
 TV.str []])
 (32 : Nat))
 fun (h_7 : Array Obj) ↦
 Ext h_6 h_7 ∧
 CallsH Try.prog (14 : Nat)
 (TVs.vals
 [TV.agg
 [TV.int IntKind.i64 n_8,
 TV.int IntKind.i64 n_9,
 TV.int IntKind.i64 n_10,
 TV.int IntKind.i64 n_11, TV.str s_2]])
 h_7 fun (v : Value) (h_8 : Array Obj) ↦
 ∃ (n_15 : Int),
 ∃ (b_4 : Bs (32 : Nat)),
 ∃ (n_16 : Int),
 ∃ (b_5 : Bs (32 : Nat)),
 ∃ (s_4 : List UInt8),
 v =
 TV.val
 (TV.agg
 [TV.int IntKind.i64 n_15,
 TV.bytes (32 : Nat) b_4,
 TV.int IntKind.i64 n_16,
 TV.bytes (32 : Nat) b_5,
 TV.str s_4]) ∧
 wok h_8 (Array.size h) (0 : Nat)
 (67 : Nat) ∧
 Vc.Bind
 (TV.put h_8 (Array.size h)
 (0 : Nat)
 (TV.agg
 [TV.int IntKind.i64 n,
 TV.bytes (32 : Nat) b,
 TV.int IntKind.i64 n_12,
 TV.bytes (32 : Nat) b_1,
 TV.str s]))
 fun (h_9 : Array Obj) ↦
 wok h_9 (Array.size h_6)
 (0 : Nat) (67 : Nat) ∧
 Vc.Bind
 (TV.put h_9
 (Array.size h_6)
 (0 : Nat)
 (TV.agg
 [TV.int IntKind.i64
 n_13,
 TV.bytes (32 : Nat)
 b_2,
 TV.int IntKind.i64
 n_14,
 TV.bytes (32 : Nat)
 b_3,
 TV.str s_3]))
 fun (h_10 : Array Obj) ↦
 wok h_10 (Array.size h_4)
 (0 : Nat) (67 : Nat) ∧
 Vc.Bind
 (TV.put h_10
 (Array.size h_4)
 (0 : Nat)
 (TV.agg
 [TV.int
 IntKind.i64
 n_15,
 TV.bytes
 (32 : Nat)
 b_4,
 TV.int
 IntKind.i64
 n_16,
 TV.bytes
 (32 : Nat)
 b_5,
 TV.str s_4]))
 fun
 (h_11 : Array Obj) ↦
 J
 (some
 (Loc.mk
 (Array.size h)
 (0 : Nat)),
 some
 (Loc.mk
 (Array.size
 h_6)
 (0 : Nat)),
 some
 (Loc.mk
 (Array.size
 h_4)
 (0 : Nat)))
 h_11) ∧
 Vc.Bind
 (newTV h
 (TV.agg
 [TV.int IntKind.i64 (0 : Int),
 TV.bytes (32 : Nat) (Bs.zero (32 : Nat)),
 TV.int IntKind.i64 (0 : Int),
 TV.bytes (32 : Nat) (Bs.zero (32 : Nat)),
 TV.str []])
 (32 : Nat))
 fun (h_6 : Array Obj) ↦
 Ext h h_6 ∧
 (CallsH Try.prog (14 : Nat)
 (TVs.vals
 [TV.agg
 [TV.int IntKind.i64 n_8,
 TV.int IntKind.i64 n_9,
 TV.int IntKind.i64 n_10,
 TV.int IntKind.i64 n_11, TV.str s_2]])
 h_6 fun (v : Value) (h_7 : Array Obj) ↦
 ∃ (n_15 : Int),
 ∃ (b_4 : Bs (32 : Nat)),
 ∃ (n_16 : Int),
 ∃ (b_5 : Bs (32 : Nat)),
 ∃ (s_4 : List UInt8),
 v =
 TV.val
 (TV.agg
 [TV.int IntKind.i64 n_15,
 TV.bytes (32 : Nat) b_4,
 TV.int IntKind.i64 n_16,
 TV.bytes (32 : Nat) b_5,
 TV.str s_4]) ∧
 Vc.Bind
 (newTV h_7
 (TV.agg
 [TV.int IntKind.i64 (0 : Int),
 TV.bytes (32 : Nat)
 (Bs.zero (32 : Nat)),
 TV.int IntKind.i64 (0 : Int),
 TV.bytes (32 : Nat)
 (Bs.zero (32 : Nat)),
 TV.str []])
 (32 : Nat))
 fun (h_8 : Array Obj) ↦
 Ext h_7 h_8 ∧
 wok h_8 (Array.size h_7) (0 : Nat)
 (67 : Nat) ∧
 Vc.Bind
 (TV.put h_8 (Array.size h_7)
 (0 : Nat)
 (TV.agg
 [TV.int IntKind.i64 n,
 TV.bytes (32 : Nat) b,
 TV.int IntKind.i64 n_12,
 TV.bytes (32 : Nat) b_1,
 TV.str s]))
 fun (h_9 : Array Obj) ↦
 wok h_9 (Array.size h)
 (0 : Nat) (67 : Nat) ∧
 Vc.Bind
 (TV.put h_9 (Array.size h)
 (0 : Nat)
 (TV.agg
 [TV.int IntKind.i64
 n_13,
 TV.bytes (32 : Nat)
 b_2,
 TV.int IntKind.i64
 n_14,
 TV.bytes (32 : Nat)
 b_3,
 TV.str s_3]))
 fun (h_10 : Array Obj) ↦
 wok h_10 (Array.size h_4)
 (0 : Nat) (67 : Nat) ∧
 Vc.Bind
 (TV.put h_10
 (Array.size h_4)
 (0 : Nat)
 (TV.agg
 [TV.int
 IntKind.i64
 n_15,
 TV.bytes
 (32 : Nat)
 b_4,
 TV.int
 IntKind.i64
 n_16,
 TV.bytes
 (32 : Nat)
 b_5,
 TV.str s_4]))
 fun
 (h_11 : Array Obj) ↦
 J
 (some
 (Loc.mk
 (Array.size
 h_7)
 (0 : Nat)),
 some
 (Loc.mk
 (Array.size h)
 (0 : Nat)),
 some
 (Loc.mk
 (Array.size
 h_4)
 (0 : Nat)))
 h_11) ∧
 Vc.Bind
 (newTV h_6
 (TV.agg
 [TV.int IntKind.i64 (0 : Int),
 TV.bytes (32 : Nat) (Bs.zero (32 : Nat)),
 TV.int IntKind.i64 (0 : Int),
 TV.bytes (32 : Nat) (Bs.zero (32 : Nat)),
 TV.str []])
 (32 : Nat))
 fun (h_7 : Array Obj) ↦
 Ext h_6 h_7 ∧
 CallsH Try.prog (14 : Nat)
 (TVs.vals
 [TV.agg
 [TV.int IntKind.i64 n_8,
 TV.int IntKind.i64 n_9,
 TV.int IntKind.i64 n_10,
 TV.int IntKind.i64 n_11, TV.str s_2]])
 h_7 fun (v : Value) (h_8 : Array Obj) ↦
 ∃ (n_15 : Int),
 ∃ (b_4 : Bs (32 : Nat)),
 ∃ (n_16 : Int),
 ∃ (b_5 : Bs (32 : Nat)),
 ∃ (s_4 : List UInt8),
 v =
 TV.val
 (TV.agg
 [TV.int IntKind.i64 n_15,
 TV.bytes (32 : Nat) b_4,
 TV.int IntKind.i64 n_16,
 TV.bytes (32 : Nat) b_5,
 TV.str s_4]) ∧
 wok h_8 (Array.size h_6) (0 : Nat)
 (67 : Nat) ∧
 Vc.Bind
 (TV.put h_8 (Array.size h_6)
 (0 : Nat)
 (TV.agg
 [TV.int IntKind.i64 n,
 TV.bytes (32 : Nat) b,
 TV.int IntKind.i64 n_12,
 TV.bytes (32 : Nat) b_1,
 TV.str s]))
 fun (h_9 : Array Obj) ↦
 wok h_9 (Array.size h)
 (0 : Nat) (67 : Nat) ∧
 Vc.Bind
 (TV.put h_9 (Array.size h)
 (0 : Nat)
 (TV.agg
 [TV.int IntKind.i64
 n_13,
 TV.bytes (32 : Nat)
 b_2,
 TV.int IntKind.i64
 n_14,
 TV.bytes (32 : Nat)
 b_3,
 TV.str s_3]))
 fun (h_10 : Array Obj) ↦
 wok h_10 (Array.size h_4)
 (0 : Nat) (67 : Nat) ∧
 Vc.Bind
 (TV.put h_10
 (Array.size h_4)
 (0 : Nat)
 (TV.agg
 [TV.int
 IntKind.i64
 n_15,
 TV.bytes
 (32 : Nat)
 b_4,
 TV.int
 IntKind.i64
 n_16,
 TV.bytes
 (32 : Nat)
 b_5,
 TV.str s_4]))
 fun
 (h_11 : Array Obj) ↦
 J
 (some
 (Loc.mk
 (Array.size
 h_6)
 (0 : Nat)),
 some
 (Loc.mk
 (Array.size h)
 (0 : Nat)),
 some
 (Loc.mk
 (Array.size
 h_4)
 (0 : Nat)))
 h_11) ∧
 (Vc.Bind
 (newTV h_5
 (TV.agg
 [TV.int IntKind.i64 (0 : Int),
 TV.bytes (32 : Nat) (Bs.zero (32 : Nat)),
 TV.int IntKind.i64 (0 : Int),
 TV.bytes (32 : Nat) (Bs.zero (32 : Nat)), TV.str []])
 (32 : Nat))
 fun (h : Array Obj) ↦
 Ext h_5 h ∧
 (CallsH Try.prog (14 : Nat)
 (TVs.vals
 [TV.agg
 [TV.int IntKind.i64 n_4, TV.int IntKind.i64 n_5,
 TV.int IntKind.i64 n_6, TV.int IntKind.i64 n_7,
 TV.str s_1]])
 h fun (v : Value) (h_6 : Array Obj) ↦
 ∃ (n_13 : Int),
 ∃ (b_2 : Bs (32 : Nat)),
 ∃ (n_14 : Int),
 ∃ (b_3 : Bs (32 : Nat)),
 ∃ (s_3 : List UInt8),
 v =
 TV.val
 (TV.agg
 [TV.int IntKind.i64 n_13, TV.bytes (32 : Nat) b_2,
 TV.int IntKind.i64 n_14,
 TV.bytes (32 : Nat) b_3, TV.str s_3]) ∧
 Ext h h_6 ∧
 (CallsH Try.prog (14 : Nat)
 (TVs.vals
 [TV.agg
 [TV.int IntKind.i64 n_8,
 TV.int IntKind.i64 n_9,
 TV.int IntKind.i64 n_10,
 TV.int IntKind.i64 n_11, TV.str s_2]])
 h_6 fun (v : Value) (h : Array Obj) ↦
 ∃ (n_15 : Int),
 ∃ (b_4 : Bs (32 : Nat)),
 ∃ (n_16 : Int),
 ∃ (b_5 : Bs (32 : Nat)),
 ∃ (s_4 : List UInt8),
 v =
 TV.val
 (TV.agg
 [TV.int IntKind.i64 n_15,
 TV.bytes (32 : Nat) b_4,
 TV.int IntKind.i64 n_16,
 TV.bytes (32 : Nat) b_5,
 TV.str s_4]) ∧
 Vc.Bind
 (newTV h
 (TV.agg
 [TV.int IntKind.i64 (0 : Int),
 TV.bytes (32 : Nat)
 (Bs.zero (32 : Nat)),
 TV.int IntKind.i64 (0 : Int),
 TV.bytes (32 : Nat)
 (Bs.zero (32 : Nat)),
 TV.str []])
 (32 : Nat))
 fun (h_7 : Array Obj) ↦
 Ext h h_7 ∧
 wok h_7 (Array.size h_5) (0 : Nat)
 (67 : Nat) ∧
 Vc.Bind
 (TV.put h_7 (Array.size h_5)
 (0 : Nat)
 (TV.agg
 [TV.int IntKind.i64 n,
 TV.bytes (32 : Nat) b,
 TV.int IntKind.i64 n_12,
 TV.bytes (32 : Nat) b_1,
 TV.str s]))
 fun (h_8 : Array Obj) ↦
 wok h_8 (Array.size h)
 (0 : Nat) (67 : Nat) ∧
 Vc.Bind
 (TV.put h_8 (Array.size h)
 (0 : Nat)
 (TV.agg
 [TV.int IntKind.i64
 n_13,
 TV.bytes (32 : Nat)
 b_2,
 TV.int IntKind.i64
 n_14,
 TV.bytes (32 : Nat)
 b_3,
 TV.str s_3]))
 fun (h_9 : Array Obj) ↦
 wok h_9 (Array.size h_4)
 (0 : Nat) (67 : Nat) ∧
 Vc.Bind
 (TV.put h_9
 (Array.size h_4)
 (0 : Nat)
 (TV.agg
 [TV.int
 IntKind.i64
 n_15,
 TV.bytes
 (32 : Nat)
 b_4,
 TV.int
 IntKind.i64
 n_16,
 TV.bytes
 (32 : Nat)
 b_5,
 TV.str s_4]))
 fun
 (h_10 : Array Obj) ↦
 J
 (some
 (Loc.mk
 (Array.size
 h_5)
 (0 : Nat)),
 some
 (Loc.mk
 (Array.size h)
 (0 : Nat)),
 some
 (Loc.mk
 (Array.size
 h_4)
 (0 : Nat)))
 h_10) ∧
 Vc.Bind
 (newTV h_6
 (TV.agg
 [TV.int IntKind.i64 (0 : Int),
 TV.bytes (32 : Nat) (Bs.zero (32 : Nat)),
 TV.int IntKind.i64 (0 : Int),
 TV.bytes (32 : Nat) (Bs.zero (32 : Nat)),
 TV.str []])
 (32 : Nat))
 fun (h : Array Obj) ↦
 Ext h_6 h ∧
 CallsH Try.prog (14 : Nat)
 (TVs.vals
 [TV.agg
 [TV.int IntKind.i64 n_8,
 TV.int IntKind.i64 n_9,
 TV.int IntKind.i64 n_10,
 TV.int IntKind.i64 n_11, TV.str s_2]])
 h fun (v : Value) (h : Array Obj) ↦
 ∃ (n_15 : Int),
 ∃ (b_4 : Bs (32 : Nat)),
 ∃ (n_16 : Int),
 ∃ (b_5 : Bs (32 : Nat)),
 ∃ (s_4 : List UInt8),
 v =
 TV.val
 (TV.agg
 [TV.int IntKind.i64 n_15,
 TV.bytes (32 : Nat) b_4,
 TV.int IntKind.i64 n_16,
 TV.bytes (32 : Nat) b_5,
 TV.str s_4]) ∧
 wok h (Array.size h_5) (0 : Nat)
 (67 : Nat) ∧
 Vc.Bind
 (TV.put h (Array.size h_5)
 (0 : Nat)
 (TV.agg
 [TV.int IntKind.i64 n,
 TV.bytes (32 : Nat) b,
 TV.int IntKind.i64 n_12,
 TV.bytes (32 : Nat) b_1,
 TV.str s]))
 fun (h : Array Obj) ↦
 wok h (Array.size h_6)
 (0 : Nat) (67 : Nat) ∧
 Vc.Bind
 (TV.put h (Array.size h_6)
 (0 : Nat)
 (TV.agg
 [TV.int IntKind.i64
 n_13,
 TV.bytes (32 : Nat)
 b_2,
 TV.int IntKind.i64
 n_14,
 TV.bytes (32 : Nat)
 b_3,
 TV.str s_3]))
 fun (h : Array Obj) ↦
 wok h (Array.size h_4)
 (0 : Nat) (67 : Nat) ∧
 Vc.Bind
 (TV.put h
 (Array.size h_4)
 (0 : Nat)
 (TV.agg
 [TV.int
 IntKind.i64
 n_15,
 TV.bytes
 (32 : Nat)
 b_4,
 TV.int
 IntKind.i64
 n_16,
 TV.bytes
 (32 : Nat)
 b_5,
 TV.str s_4]))
 fun (h : Array Obj) ↦
 J
 (some
 (Loc.mk
 (Array.size
 h_5)
 (0 : Nat)),
 some
 (Loc.mk
 (Array.size
 h_6)
 (0 : Nat)),
 some
 (Loc.mk
 (Array.size
 h_4)
 (0 : Nat)))
 h) ∧
 Vc.Bind
 (newTV h
 (TV.agg
 [TV.int IntKind.i64 (0 : Int),
 TV.bytes (32 : Nat) (Bs.zero (32 : Nat)),
 TV.int IntKind.i64 (0 : Int),
 TV.bytes (32 : Nat) (Bs.zero (32 : Nat)), TV.str []])
 (32 : Nat))
 fun (h_6 : Array Obj) ↦
 Ext h h_6 ∧
 CallsH Try.prog (14 : Nat)
 (TVs.vals
 [TV.agg
 [TV.int IntKind.i64 n_4, TV.int IntKind.i64 n_5,
 TV.int IntKind.i64 n_6, TV.int IntKind.i64 n_7,
 TV.str s_1]])
 h_6 fun (v : Value) (h_7 : Array Obj) ↦
 ∃ (n_13 : Int),
 ∃ (b_2 : Bs (32 : Nat)),
 ∃ (n_14 : Int),
 ∃ (b_3 : Bs (32 : Nat)),
 ∃ (s_3 : List UInt8),
 v =
 TV.val
 (TV.agg
 [TV.int IntKind.i64 n_13,
 TV.bytes (32 : Nat) b_2,
 TV.int IntKind.i64 n_14,
 TV.bytes (32 : Nat) b_3, TV.str s_3]) ∧
 Ext h_6 h_7 ∧
 CallsH Try.prog (14 : Nat)
 (TVs.vals
 [TV.agg
 [TV.int IntKind.i64 n_8,
 TV.int IntKind.i64 n_9,
 TV.int IntKind.i64 n_10,
 TV.int IntKind.i64 n_11, TV.str s_2]])
 h_7 fun (v : Value) (h_8 : Array Obj) ↦
 ∃ (n_15 : Int),
 ∃ (b_4 : Bs (32 : Nat)),
 ∃ (n_16 : Int),
 ∃ (b_5 : Bs (32 : Nat)),
 ∃ (s_4 : List UInt8),
 v =
 TV.val
 (TV.agg
 [TV.int IntKind.i64 n_15,
 TV.bytes (32 : Nat) b_4,
 TV.int IntKind.i64 n_16,
 TV.bytes (32 : Nat) b_5,
 TV.str s_4]) ∧
 wok h_8 (Array.size h_5) (0 : Nat)
 (67 : Nat) ∧
 Vc.Bind
 (TV.put h_8 (Array.size h_5)
 (0 : Nat)
 (TV.agg
 [TV.int IntKind.i64 n,
 TV.bytes (32 : Nat) b,
 TV.int IntKind.i64 n_12,
 TV.bytes (32 : Nat) b_1,
 TV.str s]))
 fun (h_9 : Array Obj) ↦
 wok h_9 (Array.size h) (0 : Nat)
 (67 : Nat) ∧
 Vc.Bind
 (TV.put h_9 (Array.size h)
 (0 : Nat)
 (TV.agg
 [TV.int IntKind.i64
 n_13,
 TV.bytes (32 : Nat)
 b_2,
 TV.int IntKind.i64
 n_14,
 TV.bytes (32 : Nat)
 b_3,
 TV.str s_3]))
 fun (h_10 : Array Obj) ↦
 wok h_10 (Array.size h_4)
 (0 : Nat) (67 : Nat) ∧
 Vc.Bind
 (TV.put h_10
 (Array.size h_4)
 (0 : Nat)
 (TV.agg
 [TV.int IntKind.i64
 n_15,
 TV.bytes
 (32 : Nat) b_4,
 TV.int IntKind.i64
 n_16,
 TV.bytes
 (32 : Nat) b_5,
 TV.str s_4]))
 fun (h_11 : Array Obj) ↦
 J
 (some
 (Loc.mk
 (Array.size h_5)
 (0 : Nat)),
 some
 (Loc.mk
 (Array.size h)
 (0 : Nat)),
 some
 (Loc.mk
 (Array.size h_4)
 (0 : Nat)))
 h_11) ∧
 Vc.Bind
 (newTV h_5
 (TV.agg
 [TV.int IntKind.i64 (0 : Int),
 TV.bytes (32 : Nat) (Bs.zero (32 : Nat)),
 TV.int IntKind.i64 (0 : Int),
 TV.bytes (32 : Nat) (Bs.zero (32 : Nat)), TV.str []])
 (32 : Nat))
 fun (h : Array Obj) ↦
 Ext h_5 h ∧
 (CallsH Try.prog (14 : Nat)
 (TVs.vals
 [TV.agg
 [TV.int IntKind.i64 n_4, TV.int IntKind.i64 n_5,
 TV.int IntKind.i64 n_6, TV.int IntKind.i64 n_7,
 TV.str s_1]])
 h fun (v : Value) (h_6 : Array Obj) ↦
 ∃ (n_13 : Int),
 ∃ (b_2 : Bs (32 : Nat)),
 ∃ (n_14 : Int),
 ∃ (b_3 : Bs (32 : Nat)),
 ∃ (s_3 : List UInt8),
 v =
 TV.val
 (TV.agg
 [TV.int IntKind.i64 n_13, TV.bytes (32 : Nat) b_2,
 TV.int IntKind.i64 n_14,
 TV.bytes (32 : Nat) b_3, TV.str s_3]) ∧
 Ext h h_6 ∧
 (CallsH Try.prog (14 : Nat)
 (TVs.vals
 [TV.agg
 [TV.int IntKind.i64 n_8,
 TV.int IntKind.i64 n_9,
 TV.int IntKind.i64 n_10,
 TV.int IntKind.i64 n_11, TV.str s_2]])
 h_6 fun (v : Value) (h : Array Obj) ↦
 ∃ (n_15 : Int),
 ∃ (b_4 : Bs (32 : Nat)),
 ∃ (n_16 : Int),
 ∃ (b_5 : Bs (32 : Nat)),
 ∃ (s_4 : List UInt8),
 v =
 TV.val
 (TV.agg
 [TV.int IntKind.i64 n_15,
 TV.bytes (32 : Nat) b_4,
 TV.int IntKind.i64 n_16,
 TV.bytes (32 : Nat) b_5,
 TV.str s_4]) ∧
 Vc.Bind
 (newTV h
 (TV.agg
 [TV.int IntKind.i64 (0 : Int),
 TV.bytes (32 : Nat)
 (Bs.zero (32 : Nat)),
 TV.int IntKind.i64 (0 : Int),
 TV.bytes (32 : Nat)
 (Bs.zero (32 : Nat)),
 TV.str []])
 (32 : Nat))
 fun (h_7 : Array Obj) ↦
 Ext h h_7 ∧
 wok h_7 (Array.size h) (0 : Nat)
 (67 : Nat) ∧
 Vc.Bind
 (TV.put h_7 (Array.size h)
 (0 : Nat)
 (TV.agg
 [TV.int IntKind.i64 n,
 TV.bytes (32 : Nat) b,
 TV.int IntKind.i64 n_12,
 TV.bytes (32 : Nat) b_1,
 TV.str s]))
 fun (h_8 : Array Obj) ↦
 wok h_8 (Array.size h_5)
 (0 : Nat) (67 : Nat) ∧
 Vc.Bind
 (TV.put h_8
 (Array.size h_5)
 (0 : Nat)
 (TV.agg
 [TV.int IntKind.i64
 n_13,
 TV.bytes (32 : Nat)
 b_2,
 TV.int IntKind.i64
 n_14,
 TV.bytes (32 : Nat)
 b_3,
 TV.str s_3]))
 fun (h_9 : Array Obj) ↦
 wok h_9 (Array.size h_4)
 (0 : Nat) (67 : Nat) ∧
 Vc.Bind
 (TV.put h_9
 (Array.size h_4)
 (0 : Nat)
 (TV.agg
 [TV.int
 IntKind.i64
 n_15,
 TV.bytes
 (32 : Nat)
 b_4,
 TV.int
 IntKind.i64
 n_16,
 TV.bytes
 (32 : Nat)
 b_5,
 TV.str s_4]))
 fun
 (h_10 : Array Obj) ↦
 J
 (some
 (Loc.mk
 (Array.size h)
 (0 : Nat)),
 some
 (Loc.mk
 (Array.size
 h_5)
 (0 : Nat)),
 some
 (Loc.mk
 (Array.size
 h_4)
 (0 : Nat)))
 h_10) ∧
 Vc.Bind
 (newTV h_6
 (TV.agg
 [TV.int IntKind.i64 (0 : Int),
 TV.bytes (32 : Nat) (Bs.zero (32 : Nat)),
 TV.int IntKind.i64 (0 : Int),
 TV.bytes (32 : Nat) (Bs.zero (32 : Nat)),
 TV.str []])
 (32 : Nat))
 fun (h : Array Obj) ↦
 Ext h_6 h ∧
 CallsH Try.prog (14 : Nat)
 (TVs.vals
 [TV.agg
 [TV.int IntKind.i64 n_8,
 TV.int IntKind.i64 n_9,
 TV.int IntKind.i64 n_10,
 TV.int IntKind.i64 n_11, TV.str s_2]])
 h fun (v : Value) (h : Array Obj) ↦
 ∃ (n_15 : Int),
 ∃ (b_4 : Bs (32 : Nat)),
 ∃ (n_16 : Int),
 ∃ (b_5 : Bs (32 : Nat)),
 ∃ (s_4 : List UInt8),
 v =
 TV.val
 (TV.agg
 [TV.int IntKind.i64 n_15,
 TV.bytes (32 : Nat) b_4,
 TV.int IntKind.i64 n_16,
 TV.bytes (32 : Nat) b_5,
 TV.str s_4]) ∧
 wok h (Array.size h_6) (0 : Nat)
 (67 : Nat) ∧
 Vc.Bind
 (TV.put h (Array.size h_6)
 (0 : Nat)
 (TV.agg
 [TV.int IntKind.i64 n,
 TV.bytes (32 : Nat) b,
 TV.int IntKind.i64 n_12,
 TV.bytes (32 : Nat) b_1,
 TV.str s]))
 fun (h : Array Obj) ↦
 wok h (Array.size h_5)
 (0 : Nat) (67 : Nat) ∧
 Vc.Bind
 (TV.put h (Array.size h_5)
 (0 : Nat)
 (TV.agg
 [TV.int IntKind.i64
 n_13,
 TV.bytes (32 : Nat)
 b_2,
 TV.int IntKind.i64
 n_14,
 TV.bytes (32 : Nat)
 b_3,
 TV.str s_3]))
 fun (h : Array Obj) ↦
 wok h (Array.size h_4)
 (0 : Nat) (67 : Nat) ∧
 Vc.Bind
 (TV.put h
 (Array.size h_4)
 (0 : Nat)
 (TV.agg
 [TV.int
 IntKind.i64
 n_15,
 TV.bytes
 (32 : Nat)
 b_4,
 TV.int
 IntKind.i64
 n_16,
 TV.bytes
 (32 : Nat)
 b_5,
 TV.str s_4]))
 fun (h : Array Obj) ↦
 J
 (some
 (Loc.mk
 (Array.size
 h_6)
 (0 : Nat)),
 some
 (Loc.mk
 (Array.size
 h_5)
 (0 : Nat)),
 some
 (Loc.mk
 (Array.size
 h_4)
 (0 : Nat)))
 h) ∧
 Vc.Bind
 (newTV h
 (TV.agg
 [TV.int IntKind.i64 (0 : Int),
 TV.bytes (32 : Nat) (Bs.zero (32 : Nat)),
 TV.int IntKind.i64 (0 : Int),
 TV.bytes (32 : Nat) (Bs.zero (32 : Nat)), TV.str []])
 (32 : Nat))
 fun (h_6 : Array Obj) ↦
 Ext h h_6 ∧
 CallsH Try.prog (14 : Nat)
 (TVs.vals
 [TV.agg
 [TV.int IntKind.i64 n_4, TV.int IntKind.i64 n_5,
 TV.int IntKind.i64 n_6, TV.int IntKind.i64 n_7,
 TV.str s_1]])
 h_6 fun (v : Value) (h_7 : Array Obj) ↦
 ∃ (n_13 : Int),
 ∃ (b_2 : Bs (32 : Nat)),
 ∃ (n_14 : Int),
 ∃ (b_3 : Bs (32 : Nat)),
 ∃ (s_3 : List UInt8),
 v =
 TV.val
 (TV.agg
 [TV.int IntKind.i64 n_13,
 TV.bytes (32 : Nat) b_2,
 TV.int IntKind.i64 n_14,
 TV.bytes (32 : Nat) b_3, TV.str s_3]) ∧
 Ext h_6 h_7 ∧
 CallsH Try.prog (14 : Nat)
 (TVs.vals
 [TV.agg
 [TV.int IntKind.i64 n_8,
 TV.int IntKind.i64 n_9,
 TV.int IntKind.i64 n_10,
 TV.int IntKind.i64 n_11, TV.str s_2]])
 h_7 fun (v : Value) (h_8 : Array Obj) ↦
 ∃ (n_15 : Int),
 ∃ (b_4 : Bs (32 : Nat)),
 ∃ (n_16 : Int),
 ∃ (b_5 : Bs (32 : Nat)),
 ∃ (s_4 : List UInt8),
 v =
 TV.val
 (TV.agg
 [TV.int IntKind.i64 n_15,
 TV.bytes (32 : Nat) b_4,
 TV.int IntKind.i64 n_16,
 TV.bytes (32 : Nat) b_5,
 TV.str s_4]) ∧
 wok h_8 (Array.size h) (0 : Nat)
 (67 : Nat) ∧
 Vc.Bind
 (TV.put h_8 (Array.size h)
 (0 : Nat)
 (TV.agg
 [TV.int IntKind.i64 n,
 TV.bytes (32 : Nat) b,
 TV.int IntKind.i64 n_12,
 TV.bytes (32 : Nat) b_1,
 TV.str s]))
 fun (h_9 : Array Obj) ↦
 wok h_9 (Array.size h_5)
 (0 : Nat) (67 : Nat) ∧
 Vc.Bind
 (TV.put h_9 (Array.size h_5)
 (0 : Nat)
 (TV.agg
 [TV.int IntKind.i64
 n_13,
 TV.bytes (32 : Nat)
 b_2,
 TV.int IntKind.i64
 n_14,
 TV.bytes (32 : Nat)
 b_3,
 TV.str s_3]))
 fun (h_10 : Array Obj) ↦
 wok h_10 (Array.size h_4)
 (0 : Nat) (67 : Nat) ∧
 Vc.Bind
 (TV.put h_10
 (Array.size h_4)
 (0 : Nat)
 (TV.agg
 [TV.int IntKind.i64
 n_15,
 TV.bytes
 (32 : Nat) b_4,
 TV.int IntKind.i64
 n_16,
 TV.bytes
 (32 : Nat) b_5,
 TV.str s_4]))
 fun (h_11 : Array Obj) ↦
 J
 (some
 (Loc.mk
 (Array.size h)
 (0 : Nat)),
 some
 (Loc.mk
 (Array.size h_5)
 (0 : Nat)),
 some
 (Loc.mk
 (Array.size h_4)
 (0 : Nat)))
 h_11) ∧
 (Vc.Bind
 (newTV h
 (TV.agg
 [TV.int IntKind.i64 (0 : Int), TV.bytes (32 : Nat) (Bs.zero (32 : Nat)),
 TV.int IntKind.i64 (0 : Int), TV.bytes (32 : Nat) (Bs.zero (32 : Nat)), TV.str []])
 (32 : Nat))
 fun (h_5 : Array Obj) ↦
 Ext h h_5 ∧
 (CallsH Try.prog (14 : Nat)
 (TVs.vals
 [TV.agg
 [TV.int IntKind.i64 n, TV.int IntKind.i64 n_1, TV.int IntKind.i64 n_2,
 TV.int IntKind.i64 n_3, TV.str s]])
 h_5 fun (v : Value) (h_6 : Array Obj) ↦
 ∃ (n : Int),
 ∃ (b : Bs (32 : Nat)),
 ∃ (n_12 : Int),
 ∃ (b_1 : Bs (32 : Nat)),
 ∃ (s : List UInt8),
 v =
 TV.val
 (TV.agg
 [TV.int IntKind.i64 n, TV.bytes (32 : Nat) b,
 TV.int IntKind.i64 n_12, TV.bytes (32 : Nat) b_1, TV.str s]) ∧
 Ext h_5 h_6 ∧
 (CallsH Try.prog (14 : Nat)
 (TVs.vals
 [TV.agg
 [TV.int IntKind.i64 n_4, TV.int IntKind.i64 n_5,
 TV.int IntKind.i64 n_6, TV.int IntKind.i64 n_7,
 TV.str s_1]])
 h_6 fun (v : Value) (h_7 : Array Obj) ↦
 ∃ (n_13 : Int),
 ∃ (b_2 : Bs (32 : Nat)),
 ∃ (n_14 : Int),
 ∃ (b_3 : Bs (32 : Nat)),
 ∃ (s_3 : List UInt8),
 v =
 TV.val
 (TV.agg
 [TV.int IntKind.i64 n_13, TV.bytes (32 : Nat) b_2,
 TV.int IntKind.i64 n_14,
 TV.bytes (32 : Nat) b_3, TV.str s_3]) ∧
 Ext h_6 h_7 ∧
 (CallsH Try.prog (14 : Nat)
 (TVs.vals
 [TV.agg
 [TV.int IntKind.i64 n_8,
 TV.int IntKind.i64 n_9,
 TV.int IntKind.i64 n_10,
 TV.int IntKind.i64 n_11, TV.str s_2]])
 h_7 fun (v : Value) (h_8 : Array Obj) ↦
 ∃ (n_15 : Int),
 ∃ (b_4 : Bs (32 : Nat)),
 ∃ (n_16 : Int),
 ∃ (b_5 : Bs (32 : Nat)),
 ∃ (s_4 : List UInt8),
 v =
 TV.val
 (TV.agg
 [TV.int IntKind.i64 n_15,
 TV.bytes (32 : Nat) b_4,
 TV.int IntKind.i64 n_16,
 TV.bytes (32 : Nat) b_5,
 TV.str s_4]) ∧
 Vc.Bind
 (newTV h_8
 (TV.agg
 [TV.int IntKind.i64 (0 : Int),
 TV.bytes (32 : Nat)
 (Bs.zero (32 : Nat)),
 TV.int IntKind.i64 (0 : Int),
 TV.bytes (32 : Nat)
 (Bs.zero (32 : Nat)),
 TV.str []])
 (32 : Nat))
 fun (h_9 : Array Obj) ↦
 Ext h_8 h_9 ∧
 wok h_9 (Array.size h) (0 : Nat)
 (67 : Nat) ∧
 Vc.Bind
 (TV.put h_9 (Array.size h)
 (0 : Nat)
 (TV.agg
 [TV.int IntKind.i64 n,
 TV.bytes (32 : Nat) b,
 TV.int IntKind.i64 n_12,
 TV.bytes (32 : Nat) b_1,
 TV.str s]))
 fun (h_10 : Array Obj) ↦
 wok h_10 (Array.size h_8)
 (0 : Nat) (67 : Nat) ∧
 Vc.Bind
 (TV.put h_10
 (Array.size h_8)
 (0 : Nat)
 (TV.agg
 [TV.int IntKind.i64
 n_13,
 TV.bytes (32 : Nat)
 b_2,
 TV.int IntKind.i64
 n_14,
 TV.bytes (32 : Nat)
 b_3,
 TV.str s_3]))
 fun (h_11 : Array Obj) ↦
 wok h_11 (Array.size h_4)
 (0 : Nat) (67 : Nat) ∧
 Vc.Bind
 (TV.put h_11
 (Array.size h_4)
 (0 : Nat)
 (TV.agg
 [TV.int
 IntKind.i64
 n_15,
 TV.bytes
 (32 : Nat)
 b_4,
 TV.int
 IntKind.i64
 n_16,
 TV.bytes
 (32 : Nat)
 b_5,
 TV.str s_4]))
 fun
 (h_12 : Array Obj) ↦
 J
 (some
 (Loc.mk
 (Array.size h)
 (0 : Nat)),
 some
 (Loc.mk
 (Array.size
 h_8)
 (0 : Nat)),
 some
 (Loc.mk
 (Array.size
 h_4)
 (0 : Nat)))
 h_12) ∧
 Vc.Bind
 (newTV h_7
 (TV.agg
 [TV.int IntKind.i64 (0 : Int),
 TV.bytes (32 : Nat) (Bs.zero (32 : Nat)),
 TV.int IntKind.i64 (0 : Int),
 TV.bytes (32 : Nat) (Bs.zero (32 : Nat)),
 TV.str []])
 (32 : Nat))
 fun (h_8 : Array Obj) ↦
 Ext h_7 h_8 ∧
 CallsH Try.prog (14 : Nat)
 (TVs.vals
 [TV.agg
 [TV.int IntKind.i64 n_8,
 TV.int IntKind.i64 n_9,
 TV.int IntKind.i64 n_10,
 TV.int IntKind.i64 n_11, TV.str s_2]])
 h_8 fun (v : Value) (h_9 : Array Obj) ↦
 ∃ (n_15 : Int),
 ∃ (b_4 : Bs (32 : Nat)),
 ∃ (n_16 : Int),
 ∃ (b_5 : Bs (32 : Nat)),
 ∃ (s_4 : List UInt8),
 v =
 TV.val
 (TV.agg
 [TV.int IntKind.i64 n_15,
 TV.bytes (32 : Nat) b_4,
 TV.int IntKind.i64 n_16,
 TV.bytes (32 : Nat) b_5,
 TV.str s_4]) ∧
 wok h_9 (Array.size h) (0 : Nat)
 (67 : Nat) ∧
 Vc.Bind
 (TV.put h_9 (Array.size h)
 (0 : Nat)
 (TV.agg
 [TV.int IntKind.i64 n,
 TV.bytes (32 : Nat) b,
 TV.int IntKind.i64 n_12,
 TV.bytes (32 : Nat) b_1,
 TV.str s]))
 fun (h_10 : Array Obj) ↦
 wok h_10 (Array.size h_7)
 (0 : Nat) (67 : Nat) ∧
 Vc.Bind
 (TV.put h_10
 (Array.size h_7)
 (0 : Nat)
 (TV.agg
 [TV.int IntKind.i64
 n_13,
 TV.bytes (32 : Nat)
 b_2,
 TV.int IntKind.i64
 n_14,
 TV.bytes (32 : Nat)
 b_3,
 TV.str s_3]))
 fun (h_11 : Array Obj) ↦
 wok h_11 (Array.size h_4)
 (0 : Nat) (67 : Nat) ∧
 Vc.Bind
 (TV.put h_11
 (Array.size h_4)
 (0 : Nat)
 (TV.agg
 [TV.int
 IntKind.i64
 n_15,
 TV.bytes
 (32 : Nat)
 b_4,
 TV.int
 IntKind.i64
 n_16,
 TV.bytes
 (32 : Nat)
 b_5,
 TV.str s_4]))
 fun
 (h_12 : Array Obj) ↦
 J
 (some
 (Loc.mk
 (Array.size h)
 (0 : Nat)),
 some
 (Loc.mk
 (Array.size
 h_7)
 (0 : Nat)),
 some
 (Loc.mk
 (Array.size
 h_4)
 (0 : Nat)))
 h_12) ∧
 Vc.Bind
 (newTV h_6
 (TV.agg
 [TV.int IntKind.i64 (0 : Int),
 TV.bytes (32 : Nat) (Bs.zero (32 : Nat)),
 TV.int IntKind.i64 (0 : Int),
 TV.bytes (32 : Nat) (Bs.zero (32 : Nat)), TV.str []])
 (32 : Nat))
 fun (h_7 : Array Obj) ↦
 Ext h_6 h_7 ∧
 CallsH Try.prog (14 : Nat)
 (TVs.vals
 [TV.agg
 [TV.int IntKind.i64 n_4, TV.int IntKind.i64 n_5,
 TV.int IntKind.i64 n_6, TV.int IntKind.i64 n_7,
 TV.str s_1]])
 h_7 fun (v : Value) (h_8 : Array Obj) ↦
 ∃ (n_13 : Int),
 ∃ (b_2 : Bs (32 : Nat)),
 ∃ (n_14 : Int),
 ∃ (b_3 : Bs (32 : Nat)),
 ∃ (s_3 : List UInt8),
 v =
 TV.val
 (TV.agg
 [TV.int IntKind.i64 n_13,
 TV.bytes (32 : Nat) b_2,
 TV.int IntKind.i64 n_14,
 TV.bytes (32 : Nat) b_3, TV.str s_3]) ∧
 Ext h_7 h_8 ∧
 CallsH Try.prog (14 : Nat)
 (TVs.vals
 [TV.agg
 [TV.int IntKind.i64 n_8,
 TV.int IntKind.i64 n_9,
 TV.int IntKind.i64 n_10,
 TV.int IntKind.i64 n_11, TV.str s_2]])
 h_8 fun (v : Value) (h_9 : Array Obj) ↦
 ∃ (n_15 : Int),
 ∃ (b_4 : Bs (32 : Nat)),
 ∃ (n_16 : Int),
 ∃ (b_5 : Bs (32 : Nat)),
 ∃ (s_4 : List UInt8),
 v =
 TV.val
 (TV.agg
 [TV.int IntKind.i64 n_15,
 TV.bytes (32 : Nat) b_4,
 TV.int IntKind.i64 n_16,
 TV.bytes (32 : Nat) b_5,
 TV.str s_4]) ∧
 wok h_9 (Array.size h) (0 : Nat)
 (67 : Nat) ∧
 Vc.Bind
 (TV.put h_9 (Array.size h)
 (0 : Nat)
 (TV.agg
 [TV.int IntKind.i64 n,
 TV.bytes (32 : Nat) b,
 TV.int IntKind.i64 n_12,
 TV.bytes (32 : Nat) b_1,
 TV.str s]))
 fun (h_10 : Array Obj) ↦
 wok h_10 (Array.size h_6)
 (0 : Nat) (67 : Nat) ∧
 Vc.Bind
 (TV.put h_10
 (Array.size h_6) (0 : Nat)
 (TV.agg
 [TV.int IntKind.i64
 n_13,
 TV.bytes (32 : Nat)
 b_2,
 TV.int IntKind.i64
 n_14,
 TV.bytes (32 : Nat)
 b_3,
 TV.str s_3]))
 fun (h_11 : Array Obj) ↦
 wok h_11 (Array.size h_4)
 (0 : Nat) (67 : Nat) ∧
 Vc.Bind
 (TV.put h_11
 (Array.size h_4)
 (0 : Nat)
 (TV.agg
 [TV.int IntKind.i64
 n_15,
 TV.bytes
 (32 : Nat) b_4,
 TV.int IntKind.i64
 n_16,
 TV.bytes
 (32 : Nat) b_5,
 TV.str s_4]))
 fun (h_12 : Array Obj) ↦
 J
 (some
 (Loc.mk
 (Array.size h)
 (0 : Nat)),
 some
 (Loc.mk
 (Array.size h_6)
 (0 : Nat)),
 some
 (Loc.mk
 (Array.size h_4)
 (0 : Nat)))
 h_12) ∧
 Vc.Bind
 (newTV h_5
 (TV.agg
 [TV.int IntKind.i64 (0 : Int), TV.bytes (32 : Nat) (Bs.zero (32 : Nat)),
 TV.int IntKind.i64 (0 : Int), TV.bytes (32 : Nat) (Bs.zero (32 : Nat)),
 TV.str []])
 (32 : Nat))
 fun (h_6 : Array Obj) ↦
 Ext h_5 h_6 ∧
 CallsH Try.prog (14 : Nat)
 (TVs.vals
 [TV.agg
 [TV.int IntKind.i64 n, TV.int IntKind.i64 n_1, TV.int IntKind.i64 n_2,
 TV.int IntKind.i64 n_3, TV.str s]])
 h_6 fun (v : Value) (h_7 : Array Obj) ↦
 ∃ (n : Int),
 ∃ (b : Bs (32 : Nat)),
 ∃ (n_12 : Int),
 ∃ (b_1 : Bs (32 : Nat)),
 ∃ (s : List UInt8),
 v =
 TV.val
 (TV.agg
 [TV.int IntKind.i64 n, TV.bytes (32 : Nat) b,
 TV.int IntKind.i64 n_12, TV.bytes (32 : Nat) b_1, TV.str s]) ∧
 Ext h_6 h_7 ∧
 CallsH Try.prog (14 : Nat)
 (TVs.vals
 [TV.agg
 [TV.int IntKind.i64 n_4, TV.int IntKind.i64 n_5,
 TV.int IntKind.i64 n_6, TV.int IntKind.i64 n_7,
 TV.str s_1]])
 h_7 fun (v : Value) (h_8 : Array Obj) ↦
 ∃ (n_13 : Int),
 ∃ (b_2 : Bs (32 : Nat)),
 ∃ (n_14 : Int),
 ∃ (b_3 : Bs (32 : Nat)),
 ∃ (s_3 : List UInt8),
 v =
 TV.val
 (TV.agg
 [TV.int IntKind.i64 n_13,
 TV.bytes (32 : Nat) b_2,
 TV.int IntKind.i64 n_14,
 TV.bytes (32 : Nat) b_3, TV.str s_3]) ∧
 Ext h_7 h_8 ∧
 CallsH Try.prog (14 : Nat)
 (TVs.vals
 [TV.agg
 [TV.int IntKind.i64 n_8,
 TV.int IntKind.i64 n_9,
 TV.int IntKind.i64 n_10,
 TV.int IntKind.i64 n_11, TV.str s_2]])
 h_8 fun (v : Value) (h_9 : Array Obj) ↦
 ∃ (n_15 : Int),
 ∃ (b_4 : Bs (32 : Nat)),
 ∃ (n_16 : Int),
 ∃ (b_5 : Bs (32 : Nat)),
 ∃ (s_4 : List UInt8),
 v =
 TV.val
 (TV.agg
 [TV.int IntKind.i64 n_15,
 TV.bytes (32 : Nat) b_4,
 TV.int IntKind.i64 n_16,
 TV.bytes (32 : Nat) b_5,
 TV.str s_4]) ∧
 wok h_9 (Array.size h) (0 : Nat)
 (67 : Nat) ∧
 Vc.Bind
 (TV.put h_9 (Array.size h)
 (0 : Nat)
 (TV.agg
 [TV.int IntKind.i64 n,
 TV.bytes (32 : Nat) b,
 TV.int IntKind.i64 n_12,
 TV.bytes (32 : Nat) b_1,
 TV.str s]))
 fun (h_10 : Array Obj) ↦
 wok h_10 (Array.size h_5)
 (0 : Nat) (67 : Nat) ∧
 Vc.Bind
 (TV.put h_10 (Array.size h_5)
 (0 : Nat)
 (TV.agg
 [TV.int IntKind.i64 n_13,
 TV.bytes (32 : Nat) b_2,
 TV.int IntKind.i64 n_14,
 TV.bytes (32 : Nat) b_3,
 TV.str s_3]))
 fun (h_11 : Array Obj) ↦
 wok h_11 (Array.size h_4)
 (0 : Nat) (67 : Nat) ∧
 Vc.Bind
 (TV.put h_11
 (Array.size h_4)
 (0 : Nat)
 (TV.agg
 [TV.int IntKind.i64
 n_15,
 TV.bytes (32 : Nat)
 b_4,
 TV.int IntKind.i64
 n_16,
 TV.bytes (32 : Nat)
 b_5,
 TV.str s_4]))
 fun (h_12 : Array Obj) ↦
 J
 (some
 (Loc.mk
 (Array.size h)
 (0 : Nat)),
 some
 (Loc.mk
 (Array.size h_5)
 (0 : Nat)),
 some
 (Loc.mk
 (Array.size h_4)
 (0 : Nat)))
 h_12) ∧
 Vc.Bind
 (newTV h
 (TV.agg
 [TV.int IntKind.i64 (0 : Int), TV.bytes (32 : Nat) (Bs.zero (32 : Nat)),
 TV.int IntKind.i64 (0 : Int), TV.bytes (32 : Nat) (Bs.zero (32 : Nat)), TV.str []])
 (32 : Nat))
 fun (h_5 : Array Obj) ↦
 Ext h h_5 ∧
 (CallsH Try.prog (14 : Nat)
 (TVs.vals
 [TV.agg
 [TV.int IntKind.i64 n, TV.int IntKind.i64 n_1, TV.int IntKind.i64 n_2,
 TV.int IntKind.i64 n_3, TV.str s]])
 h_5 fun (v : Value) (h_6 : Array Obj) ↦
 ∃ (n : Int),
 ∃ (b : Bs (32 : Nat)),
 ∃ (n_12 : Int),
 ∃ (b_1 : Bs (32 : Nat)),
 ∃ (s : List UInt8),
 v =
 TV.val
 (TV.agg
 [TV.int IntKind.i64 n, TV.bytes (32 : Nat) b,
 TV.int IntKind.i64 n_12, TV.bytes (32 : Nat) b_1, TV.str s]) ∧
 Ext h_5 h_6 ∧
 (CallsH Try.prog (14 : Nat)
 (TVs.vals
 [TV.agg
 [TV.int IntKind.i64 n_4, TV.int IntKind.i64 n_5,
 TV.int IntKind.i64 n_6, TV.int IntKind.i64 n_7,
 TV.str s_1]])
 h_6 fun (v : Value) (h_7 : Array Obj) ↦
 ∃ (n_13 : Int),
 ∃ (b_2 : Bs (32 : Nat)),
 ∃ (n_14 : Int),
 ∃ (b_3 : Bs (32 : Nat)),
 ∃ (s_3 : List UInt8),
 v =
 TV.val
 (TV.agg
 [TV.int IntKind.i64 n_13, TV.bytes (32 : Nat) b_2,
 TV.int IntKind.i64 n_14,
 TV.bytes (32 : Nat) b_3, TV.str s_3]) ∧
 Ext h_6 h_7 ∧
 (CallsH Try.prog (14 : Nat)
 (TVs.vals
 [TV.agg
 [TV.int IntKind.i64 n_8,
 TV.int IntKind.i64 n_9,
 TV.int IntKind.i64 n_10,
 TV.int IntKind.i64 n_11, TV.str s_2]])
 h_7 fun (v : Value) (h_8 : Array Obj) ↦
 ∃ (n_15 : Int),
 ∃ (b_4 : Bs (32 : Nat)),
 ∃ (n_16 : Int),
 ∃ (b_5 : Bs (32 : Nat)),
 ∃ (s_4 : List UInt8),
 v =
 TV.val
 (TV.agg
 [TV.int IntKind.i64 n_15,
 TV.bytes (32 : Nat) b_4,
 TV.int IntKind.i64 n_16,
 TV.bytes (32 : Nat) b_5,
 TV.str s_4]) ∧
 Vc.Bind
 (newTV h_8
 (TV.agg
 [TV.int IntKind.i64 (0 : Int),
 TV.bytes (32 : Nat)
 (Bs.zero (32 : Nat)),
 TV.int IntKind.i64 (0 : Int),
 TV.bytes (32 : Nat)
 (Bs.zero (32 : Nat)),
 TV.str []])
 (32 : Nat))
 fun (h_9 : Array Obj) ↦
 Ext h_8 h_9 ∧
 wok h_9 (Array.size h_8) (0 : Nat)
 (67 : Nat) ∧
 Vc.Bind
 (TV.put h_9 (Array.size h_8)
 (0 : Nat)
 (TV.agg
 [TV.int IntKind.i64 n,
 TV.bytes (32 : Nat) b,
 TV.int IntKind.i64 n_12,
 TV.bytes (32 : Nat) b_1,
 TV.str s]))
 fun (h_10 : Array Obj) ↦
 wok h_10 (Array.size h)
 (0 : Nat) (67 : Nat) ∧
 Vc.Bind
 (TV.put h_10
 (Array.size h) (0 : Nat)
 (TV.agg
 [TV.int IntKind.i64
 n_13,
 TV.bytes (32 : Nat)
 b_2,
 TV.int IntKind.i64
 n_14,
 TV.bytes (32 : Nat)
 b_3,
 TV.str s_3]))
 fun (h_11 : Array Obj) ↦
 wok h_11 (Array.size h_4)
 (0 : Nat) (67 : Nat) ∧
 Vc.Bind
 (TV.put h_11
 (Array.size h_4)
 (0 : Nat)
 (TV.agg
 [TV.int
 IntKind.i64
 n_15,
 TV.bytes
 (32 : Nat)
 b_4,
 TV.int
 IntKind.i64
 n_16,
 TV.bytes
 (32 : Nat)
 b_5,
 TV.str s_4]))
 fun
 (h_12 : Array Obj) ↦
 J
 (some
 (Loc.mk
 (Array.size
 h_8)
 (0 : Nat)),
 some
 (Loc.mk
 (Array.size h)
 (0 : Nat)),
 some
 (Loc.mk
 (Array.size
 h_4)
 (0 : Nat)))
 h_12) ∧
 Vc.Bind
 (newTV h_7
 (TV.agg
 [TV.int IntKind.i64 (0 : Int),
 TV.bytes (32 : Nat) (Bs.zero (32 : Nat)),
 TV.int IntKind.i64 (0 : Int),
 TV.bytes (32 : Nat) (Bs.zero (32 : Nat)),
 TV.str []])
 (32 : Nat))
 fun (h_8 : Array Obj) ↦
 Ext h_7 h_8 ∧
 CallsH Try.prog (14 : Nat)
 (TVs.vals
 [TV.agg
 [TV.int IntKind.i64 n_8,
 TV.int IntKind.i64 n_9,
 TV.int IntKind.i64 n_10,
 TV.int IntKind.i64 n_11, TV.str s_2]])
 h_8 fun (v : Value) (h_9 : Array Obj) ↦
 ∃ (n_15 : Int),
 ∃ (b_4 : Bs (32 : Nat)),
 ∃ (n_16 : Int),
 ∃ (b_5 : Bs (32 : Nat)),
 ∃ (s_4 : List UInt8),
 v =
 TV.val
 (TV.agg
 [TV.int IntKind.i64 n_15,
 TV.bytes (32 : Nat) b_4,
 TV.int IntKind.i64 n_16,
 TV.bytes (32 : Nat) b_5,
 TV.str s_4]) ∧
 wok h_9 (Array.size h_7) (0 : Nat)
 (67 : Nat) ∧
 Vc.Bind
 (TV.put h_9 (Array.size h_7)
 (0 : Nat)
 (TV.agg
 [TV.int IntKind.i64 n,
 TV.bytes (32 : Nat) b,
 TV.int IntKind.i64 n_12,
 TV.bytes (32 : Nat) b_1,
 TV.str s]))
 fun (h_10 : Array Obj) ↦
 wok h_10 (Array.size h)
 (0 : Nat) (67 : Nat) ∧
 Vc.Bind
 (TV.put h_10
 (Array.size h) (0 : Nat)
 (TV.agg
 [TV.int IntKind.i64
 n_13,
 TV.bytes (32 : Nat)
 b_2,
 TV.int IntKind.i64
 n_14,
 TV.bytes (32 : Nat)
 b_3,
 TV.str s_3]))
 fun (h_11 : Array Obj) ↦
 wok h_11 (Array.size h_4)
 (0 : Nat) (67 : Nat) ∧
 Vc.Bind
 (TV.put h_11
 (Array.size h_4)
 (0 : Nat)
 (TV.agg
 [TV.int
 IntKind.i64
 n_15,
 TV.bytes
 (32 : Nat)
 b_4,
 TV.int
 IntKind.i64
 n_16,
 TV.bytes
 (32 : Nat)
 b_5,
 TV.str s_4]))
 fun
 (h_12 : Array Obj) ↦
 J
 (some
 (Loc.mk
 (Array.size
 h_7)
 (0 : Nat)),
 some
 (Loc.mk
 (Array.size h)
 (0 : Nat)),
 some
 (Loc.mk
 (Array.size
 h_4)
 (0 : Nat)))
 h_12) ∧
 Vc.Bind
 (newTV h_6
 (TV.agg
 [TV.int IntKind.i64 (0 : Int),
 TV.bytes (32 : Nat) (Bs.zero (32 : Nat)),
 TV.int IntKind.i64 (0 : Int),
 TV.bytes (32 : Nat) (Bs.zero (32 : Nat)), TV.str []])
 (32 : Nat))
 fun (h_7 : Array Obj) ↦
 Ext h_6 h_7 ∧
 CallsH Try.prog (14 : Nat)
 (TVs.vals
 [TV.agg
 [TV.int IntKind.i64 n_4, TV.int IntKind.i64 n_5,
 TV.int IntKind.i64 n_6, TV.int IntKind.i64 n_7,
 TV.str s_1]])
 h_7 fun (v : Value) (h_8 : Array Obj) ↦
 ∃ (n_13 : Int),
 ∃ (b_2 : Bs (32 : Nat)),
 ∃ (n_14 : Int),
 ∃ (b_3 : Bs (32 : Nat)),
 ∃ (s_3 : List UInt8),
 v =
 TV.val
 (TV.agg
 [TV.int IntKind.i64 n_13,
 TV.bytes (32 : Nat) b_2,
 TV.int IntKind.i64 n_14,
 TV.bytes (32 : Nat) b_3, TV.str s_3]) ∧
 Ext h_7 h_8 ∧
 CallsH Try.prog (14 : Nat)
 (TVs.vals
 [TV.agg
 [TV.int IntKind.i64 n_8,
 TV.int IntKind.i64 n_9,
 TV.int IntKind.i64 n_10,
 TV.int IntKind.i64 n_11, TV.str s_2]])
 h_8 fun (v : Value) (h_9 : Array Obj) ↦
 ∃ (n_15 : Int),
 ∃ (b_4 : Bs (32 : Nat)),
 ∃ (n_16 : Int),
 ∃ (b_5 : Bs (32 : Nat)),
 ∃ (s_4 : List UInt8),
 v =
 TV.val
 (TV.agg
 [TV.int IntKind.i64 n_15,
 TV.bytes (32 : Nat) b_4,
 TV.int IntKind.i64 n_16,
 TV.bytes (32 : Nat) b_5,
 TV.str s_4]) ∧
 wok h_9 (Array.size h_6) (0 : Nat)
 (67 : Nat) ∧
 Vc.Bind
 (TV.put h_9 (Array.size h_6)
 (0 : Nat)
 (TV.agg
 [TV.int IntKind.i64 n,
 TV.bytes (32 : Nat) b,
 TV.int IntKind.i64 n_12,
 TV.bytes (32 : Nat) b_1,
 TV.str s]))
 fun (h_10 : Array Obj) ↦
 wok h_10 (Array.size h)
 (0 : Nat) (67 : Nat) ∧
 Vc.Bind
 (TV.put h_10 (Array.size h)
 (0 : Nat)
 (TV.agg
 [TV.int IntKind.i64
 n_13,
 TV.bytes (32 : Nat)
 b_2,
 TV.int IntKind.i64
 n_14,
 TV.bytes (32 : Nat)
 b_3,
 TV.str s_3]))
 fun (h_11 : Array Obj) ↦
 wok h_11 (Array.size h_4)
 (0 : Nat) (67 : Nat) ∧
 Vc.Bind
 (TV.put h_11
 (Array.size h_4)
 (0 : Nat)
 (TV.agg
 [TV.int IntKind.i64
 n_15,
 TV.bytes
 (32 : Nat) b_4,
 TV.int IntKind.i64
 n_16,
 TV.bytes
 (32 : Nat) b_5,
 TV.str s_4]))
 fun (h_12 : Array Obj) ↦
 J
 (some
 (Loc.mk
 (Array.size h_6)
 (0 : Nat)),
 some
 (Loc.mk
 (Array.size h)
 (0 : Nat)),
 some
 (Loc.mk
 (Array.size h_4)
 (0 : Nat)))
 h_12) ∧
 Vc.Bind
 (newTV h_5
 (TV.agg
 [TV.int IntKind.i64 (0 : Int), TV.bytes (32 : Nat) (Bs.zero (32 : Nat)),
 TV.int IntKind.i64 (0 : Int), TV.bytes (32 : Nat) (Bs.zero (32 : Nat)),
 TV.str []])
 (32 : Nat))
 fun (h_6 : Array Obj) ↦
 Ext h_5 h_6 ∧
 CallsH Try.prog (14 : Nat)
 (TVs.vals
 [TV.agg
 [TV.int IntKind.i64 n, TV.int IntKind.i64 n_1, TV.int IntKind.i64 n_2,
 TV.int IntKind.i64 n_3, TV.str s]])
 h_6 fun (v : Value) (h_7 : Array Obj) ↦
 ∃ (n : Int),
 ∃ (b : Bs (32 : Nat)),
 ∃ (n_12 : Int),
 ∃ (b_1 : Bs (32 : Nat)),
 ∃ (s : List UInt8),
 v =
 TV.val
 (TV.agg
 [TV.int IntKind.i64 n, TV.bytes (32 : Nat) b,
 TV.int IntKind.i64 n_12, TV.bytes (32 : Nat) b_1, TV.str s]) ∧
 Ext h_6 h_7 ∧
 CallsH Try.prog (14 : Nat)
 (TVs.vals
 [TV.agg
 [TV.int IntKind.i64 n_4, TV.int IntKind.i64 n_5,
 TV.int IntKind.i64 n_6, TV.int IntKind.i64 n_7,
 TV.str s_1]])
 h_7 fun (v : Value) (h_8 : Array Obj) ↦
 ∃ (n_13 : Int),
 ∃ (b_2 : Bs (32 : Nat)),
 ∃ (n_14 : Int),
 ∃ (b_3 : Bs (32 : Nat)),
 ∃ (s_3 : List UInt8),
 v =
 TV.val
 (TV.agg
 [TV.int IntKind.i64 n_13,
 TV.bytes (32 : Nat) b_2,
 TV.int IntKind.i64 n_14,
 TV.bytes (32 : Nat) b_3, TV.str s_3]) ∧
 Ext h_7 h_8 ∧
 CallsH Try.prog (14 : Nat)
 (TVs.vals
 [TV.agg
 [TV.int IntKind.i64 n_8,
 TV.int IntKind.i64 n_9,
 TV.int IntKind.i64 n_10,
 TV.int IntKind.i64 n_11, TV.str s_2]])
 h_8 fun (v : Value) (h_9 : Array Obj) ↦
 ∃ (n_15 : Int),
 ∃ (b_4 : Bs (32 : Nat)),
 ∃ (n_16 : Int),
 ∃ (b_5 : Bs (32 : Nat)),
 ∃ (s_4 : List UInt8),
 v =
 TV.val
 (TV.agg
 [TV.int IntKind.i64 n_15,
 TV.bytes (32 : Nat) b_4,
 TV.int IntKind.i64 n_16,
 TV.bytes (32 : Nat) b_5,
 TV.str s_4]) ∧
 wok h_9 (Array.size h_5) (0 : Nat)
 (67 : Nat) ∧
 Vc.Bind
 (TV.put h_9 (Array.size h_5)
 (0 : Nat)
 (TV.agg
 [TV.int IntKind.i64 n,
 TV.bytes (32 : Nat) b,
 TV.int IntKind.i64 n_12,
 TV.bytes (32 : Nat) b_1,
 TV.str s]))
 fun (h_10 : Array Obj) ↦
 wok h_10 (Array.size h) (0 : Nat)
 (67 : Nat) ∧
 Vc.Bind
 (TV.put h_10 (Array.size h)
 (0 : Nat)
 (TV.agg
 [TV.int IntKind.i64 n_13,
 TV.bytes (32 : Nat) b_2,
 TV.int IntKind.i64 n_14,
 TV.bytes (32 : Nat) b_3,
 TV.str s_3]))
 fun (h_11 : Array Obj) ↦
 wok h_11 (Array.size h_4)
 (0 : Nat) (67 : Nat) ∧
 Vc.Bind
 (TV.put h_11
 (Array.size h_4)
 (0 : Nat)
 (TV.agg
 [TV.int IntKind.i64
 n_15,
 TV.bytes (32 : Nat)
 b_4,
 TV.int IntKind.i64
 n_16,
 TV.bytes (32 : Nat)
 b_5,
 TV.str s_4]))
 fun (h_12 : Array Obj) ↦
 J
 (some
 (Loc.mk
 (Array.size h_5)
 (0 : Nat)),
 some
 (Loc.mk
 (Array.size h)
 (0 : Nat)),
 some
 (Loc.mk
 (Array.size h_4)
 (0 : Nat)))
 h_12)

theorem tollerlaw15_PoolBefore_calls (a_Kind : Int) (a_Slot : Int) (a_N : Int) (a_Peer : Int) (a_Text : List UInt8) (b_Kind : Int) (b_Slot : Int) (b_N : Int) (b_Peer : Int) (b_Text : List UInt8) (c_Kind : Int) (c_Slot : Int) (c_N : Int) (c_Peer : Int) (c_Text : List UInt8) (h : Heap) (R : Value → Heap → Prop) (H : tollerlaw15_PoolBefore_vc a_Kind a_Slot a_N a_Peer a_Text b_Kind b_Slot b_N b_Peer b_Text c_Kind c_Slot c_N c_Peer c_Text h R) : CallsH Try.prog 6 (TVs.vals [TV.agg [TV.int IntKind.i64 a_Kind, TV.int IntKind.i64 a_Slot, TV.int IntKind.i64 a_N, TV.int IntKind.i64 a_Peer, TV.str a_Text], TV.agg [TV.int IntKind.i64 b_Kind, TV.int IntKind.i64 b_Slot, TV.int IntKind.i64 b_N, TV.int IntKind.i64 b_Peer, TV.str b_Text], TV.agg [TV.int IntKind.i64 c_Kind, TV.int IntKind.i64 c_Slot, TV.int IntKind.i64 c_N, TV.int IntKind.i64 c_Peer, TV.str c_Text]]) h R :=
 vcFn_sound (C := ctx) ctx_ok (fn := Try.f6) Try.func6 ((by kernel_rfl : tollerlaw15_PoolBefore_vc a_Kind a_Slot a_N a_Peer a_Text b_Kind b_Slot b_N b_Peer b_Text c_Kind c_Slot c_N c_Peer c_Text h R = vcFn ctx Try.f6 [TV.agg [TV.int IntKind.i64 a_Kind, TV.int IntKind.i64 a_Slot, TV.int IntKind.i64 a_N, TV.int IntKind.i64 a_Peer, TV.str a_Text], TV.agg [TV.int IntKind.i64 b_Kind, TV.int IntKind.i64 b_Slot, TV.int IntKind.i64 b_N, TV.int IntKind.i64 b_Peer, TV.str b_Text], TV.agg [TV.int IntKind.i64 c_Kind, TV.int IntKind.i64 c_Slot, TV.int IntKind.i64 c_N, TV.int IntKind.i64 c_Peer, TV.str c_Text]] h R) ▸ H)


end Go.Proofs.Ytjadpjbiiidioaa
