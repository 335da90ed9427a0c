/- The conditions of functions, as the generator reckons them out, each with the proof that it is that. -/
import Derived.Test.YtgdhddignbkloaaCtx
namespace Go.Proofs.Ytgdhddignbkloaa
open Go Go.Vc
set_option maxRecDepth 100000
set_option linter.unusedVariables false

def tollerlaw08_alive_vc (h : Heap) (R : Value → Heap → Prop) : Prop :=
 Vc.Bind
 (newTV (Array.push h (row (TVs.cells [TV.agg [TV.int IntKind.i64 (5 : Int), TV.str (ByteArray.mk #[(107 : UInt8)]).data.toList]]) (59 : Nat)))
 (TV.agg
 [TV.slice Sl.nil, TV.int IntKind.i64 (0 : Int), TV.int IntKind.i64 (0 : Int), TV.int IntKind.i64 (0 : Int), TV.int IntKind.i64 (0 : Int),
 TV.int IntKind.i64 (0 : Int), TV.int IntKind.i64 (0 : Int), TV.int IntKind.i64 (0 : Int), TV.int IntKind.i64 (0 : Int), TV.int IntKind.i64 (0 : Int),
 TV.int IntKind.i64 (0 : Int), TV.int IntKind.i64 (0 : Int)])
 (24 : Nat))
 fun (h_1 : Array Obj) ↦
 wok h_1 (Array.size (Array.push h (row (TVs.cells [TV.agg [TV.int IntKind.i64 (5 : Int), TV.str (ByteArray.mk #[(107 : UInt8)]).data.toList]]) (59 : Nat))))
 (0 : Nat) (12 : Nat) ∧
 Vc.Bind
 (TV.put h_1
 (Array.size (Array.push h (row (TVs.cells [TV.agg [TV.int IntKind.i64 (5 : Int), TV.str (ByteArray.mk #[(107 : UInt8)]).data.toList]]) (59 : Nat))))
 (0 : Nat)
 (TV.agg
 [TV.slice (Sl.mk (some (Loc.mk (Array.size h) (0 : Nat))) (1 : Nat) (1 : Nat)), TV.int IntKind.i64 (4 : Int), TV.int IntKind.i64 (1 : Int),
 TV.int IntKind.i64 (1 : Int), TV.int IntKind.i64 (1 : Int), TV.int IntKind.i64 (1 : Int), TV.int IntKind.i64 (1 : Int),
 TV.int IntKind.i64 (1 : Int), TV.int IntKind.i64 (1 : Int), TV.int IntKind.i64 (1 : Int), TV.int IntKind.i64 (1 : Int),
 TV.int IntKind.i64 (1 : Int)]))
 fun (h_2 : Array Obj) ↦
 ∃ (s : Sl),
 ∃ (n : Int),
 ∃ (n_1 : Int),
 ∃ (n_2 : Int),
 ∃ (n_3 : Int),
 ∃ (n_4 : Int),
 ∃ (n_5 : Int),
 ∃ (n_6 : Int),
 ∃ (n_7 : Int),
 ∃ (n_8 : Int),
 ∃ (n_9 : Int),
 ∃ (n_10 : Int),
 (at1 h_2
 (Array.size
 (Array.push h
 (row (TVs.cells [TV.agg [TV.int IntKind.i64 (5 : Int), TV.str (ByteArray.mk #[(107 : UInt8)]).data.toList]])
 (59 : Nat))))
 (0 : Nat) (slVal s) ∧
 at1 h_2
 (Array.size
 (Array.push h
 (row (TVs.cells [TV.agg [TV.int IntKind.i64 (5 : Int), TV.str (ByteArray.mk #[(107 : UInt8)]).data.toList]])
 (59 : Nat))))
 (1 : Nat) (Value.int IntKind.i64 n) ∧
 at1 h_2
 (Array.size
 (Array.push h
 (row (TVs.cells [TV.agg [TV.int IntKind.i64 (5 : Int), TV.str (ByteArray.mk #[(107 : UInt8)]).data.toList]])
 (59 : Nat))))
 (2 : Nat) (Value.int IntKind.i64 n_1) ∧
 at1 h_2
 (Array.size
 (Array.push h
 (row (TVs.cells [TV.agg [TV.int IntKind.i64 (5 : Int), TV.str (ByteArray.mk #[(107 : UInt8)]).data.toList]])
 (59 : Nat))))
 (3 : Nat) (Value.int IntKind.i64 n_2) ∧
 at1 h_2
 (Array.size
 (Array.push h
 (row (TVs.cells [TV.agg [TV.int IntKind.i64 (5 : Int), TV.str (ByteArray.mk #[(107 : UInt8)]).data.toList]])
 (59 : Nat))))
 (4 : Nat) (Value.int IntKind.i64 n_3) ∧
 at1 h_2
 (Array.size
 (Array.push h
 (row (TVs.cells [TV.agg [TV.int IntKind.i64 (5 : Int), TV.str (ByteArray.mk #[(107 : UInt8)]).data.toList]])
 (59 : Nat))))
 (5 : Nat) (Value.int IntKind.i64 n_4) ∧
 at1 h_2
 (Array.size
 (Array.push h
 (row (TVs.cells [TV.agg [TV.int IntKind.i64 (5 : Int), TV.str (ByteArray.mk #[(107 : UInt8)]).data.toList]])
 (59 : Nat))))
 (6 : Nat) (Value.int IntKind.i64 n_5) ∧
 at1 h_2
 (Array.size
 (Array.push h
 (row
 (TVs.cells [TV.agg [TV.int IntKind.i64 (5 : Int), TV.str (ByteArray.mk #[(107 : UInt8)]).data.toList]])
 (59 : Nat))))
 (7 : Nat) (Value.int IntKind.i64 n_6) ∧
 at1 h_2
 (Array.size
 (Array.push h
 (row
 (TVs.cells
 [TV.agg [TV.int IntKind.i64 (5 : Int), TV.str (ByteArray.mk #[(107 : UInt8)]).data.toList]])
 (59 : Nat))))
 (8 : Nat) (Value.int IntKind.i64 n_7) ∧
 at1 h_2
 (Array.size
 (Array.push h
 (row
 (TVs.cells
 [TV.agg [TV.int IntKind.i64 (5 : Int), TV.str (ByteArray.mk #[(107 : UInt8)]).data.toList]])
 (59 : Nat))))
 (9 : Nat) (Value.int IntKind.i64 n_8) ∧
 at1 h_2
 (Array.size
 (Array.push h
 (row
 (TVs.cells
 [TV.agg [TV.int IntKind.i64 (5 : Int), TV.str (ByteArray.mk #[(107 : UInt8)]).data.toList]])
 (59 : Nat))))
 (10 : Nat) (Value.int IntKind.i64 n_9) ∧
 at1 h_2
 (Array.size
 (Array.push h
 (row
 (TVs.cells
 [TV.agg [TV.int IntKind.i64 (5 : Int), TV.str (ByteArray.mk #[(107 : UInt8)]).data.toList]])
 (59 : Nat))))
 (11 : Nat) (Value.int IntKind.i64 n_10)) ∧
 CallsH Try.prog (22 : Nat)
 (TVs.vals
 [TV.agg
 [TV.slice s, TV.int IntKind.i64 n, TV.int IntKind.i64 n_1, TV.int IntKind.i64 n_2, TV.int IntKind.i64 n_3,
 TV.int IntKind.i64 n_4, TV.int IntKind.i64 n_5, TV.int IntKind.i64 n_6, TV.int IntKind.i64 n_7,
 TV.int IntKind.i64 n_8, TV.int IntKind.i64 n_9, TV.int IntKind.i64 n_10],
 TV.agg
 [TV.int IntKind.i64 (1 : Int), TV.int IntKind.i64 (3 : Int), TV.bytes (32 : Nat) (Bs.zero (32 : Nat)),
 TV.int IntKind.i64 (0 : Int), TV.int IntKind.u64 (0 : Int), TV.slice Sl.nil,
 TV.bytes (16 : Nat) (Bs.zero (16 : Nat))]])
 h_2 fun (v : Value) (h_3 : Array Obj) ↦
 ∃ (n : Int),
 ∃ (n_11 : Int),
 ∃ (b : Bs (32 : Nat)),
 ∃ (n_12 : Int),
 ∃ (n_13 : Int),
 ∃ (s : Sl),
 ∃ (b_1 : Bs (16 : Nat)),
 ∃ (b_2 : Bool),
 v =
 TV.val
 (TV.tup
 [TV.agg
 [TV.int IntKind.i64 n, TV.int IntKind.i64 n_11, TV.bytes (32 : Nat) b, TV.int IntKind.i64 n_12,
 TV.int IntKind.u64 n_13, TV.slice s, TV.bytes (16 : Nat) b_1],
 TV.bool b_2]) ∧
 Vc.Bind
 (newTV h_3
 (TV.agg
 [TV.int IntKind.i64 (0 : Int), TV.int IntKind.i64 (0 : Int), TV.bytes (32 : Nat) (Bs.zero (32 : Nat)),
 TV.int IntKind.i64 (0 : Int), TV.int IntKind.u64 (0 : Int), TV.slice Sl.nil,
 TV.bytes (16 : Nat) (Bs.zero (16 : Nat))])
 (32 : Nat))
 fun (h_4 : Array Obj) ↦
 wok h_4 (Array.size h_3) (0 : Nat) (53 : Nat) ∧
 Vc.Bind
 (TV.put h_4 (Array.size h_3) (0 : Nat)
 (TV.agg
 [TV.int IntKind.i64 n, TV.int IntKind.i64 n_11, TV.bytes (32 : Nat) b, TV.int IntKind.i64 n_12,
 TV.int IntKind.u64 n_13, TV.slice s, TV.bytes (16 : Nat) b_1]))
 fun (h_5 : Array Obj) ↦
 ∃ (s : Sl),
 ∃ (n : Int),
 ∃ (n_14 : Int),
 ∃ (n_15 : Int),
 ∃ (n_16 : Int),
 ∃ (n_17 : Int),
 ∃ (n_18 : Int),
 ∃ (n_19 : Int),
 ∃ (n_20 : Int),
 ∃ (n_21 : Int),
 ∃ (n_22 : Int),
 ∃ (n_23 : Int),
 (at1 h_5
 (Array.size
 (Array.push h
 (row
 (TVs.cells
 [TV.agg
 [TV.int IntKind.i64 (5 : Int),
 TV.str (ByteArray.mk #[(107 : UInt8)]).data.toList]])
 (59 : Nat))))
 (0 : Nat) (slVal s) ∧
 at1 h_5
 (Array.size
 (Array.push h
 (row
 (TVs.cells
 [TV.agg
 [TV.int IntKind.i64 (5 : Int),
 TV.str (ByteArray.mk #[(107 : UInt8)]).data.toList]])
 (59 : Nat))))
 (1 : Nat) (Value.int IntKind.i64 n) ∧
 at1 h_5
 (Array.size
 (Array.push h
 (row
 (TVs.cells
 [TV.agg
 [TV.int IntKind.i64 (5 : Int),
 TV.str (ByteArray.mk #[(107 : UInt8)]).data.toList]])
 (59 : Nat))))
 (2 : Nat) (Value.int IntKind.i64 n_14) ∧
 at1 h_5
 (Array.size
 (Array.push h
 (row
 (TVs.cells
 [TV.agg
 [TV.int IntKind.i64 (5 : Int),
 TV.str
 (ByteArray.mk #[(107 : UInt8)]).data.toList]])
 (59 : Nat))))
 (3 : Nat) (Value.int IntKind.i64 n_15) ∧
 at1 h_5
 (Array.size
 (Array.push h
 (row
 (TVs.cells
 [TV.agg
 [TV.int IntKind.i64 (5 : Int),
 TV.str
 (ByteArray.mk #[(107 : UInt8)]).data.toList]])
 (59 : Nat))))
 (4 : Nat) (Value.int IntKind.i64 n_16) ∧
 at1 h_5
 (Array.size
 (Array.push h
 (row
 (TVs.cells
 [TV.agg
 [TV.int IntKind.i64 (5 : Int),
 TV.str
 (ByteArray.mk #[(107 : UInt8)]).data.toList]])
 (59 : Nat))))
 (5 : Nat) (Value.int IntKind.i64 n_17) ∧
 at1 h_5
 (Array.size
 (Array.push h
 (row
 (TVs.cells
 [TV.agg
 [TV.int IntKind.i64 (5 : Int),
 TV.str
 (ByteArray.mk
 #[(107 : UInt8)]).data.toList]])
 (59 : Nat))))
 (6 : Nat) (Value.int IntKind.i64 n_18) ∧
 at1 h_5
 (Array.size
 (Array.push h
 (row
 (TVs.cells
 [TV.agg
 [TV.int IntKind.i64 (5 : Int),
 TV.str
 (ByteArray.mk
 #[(107 : UInt8)]).data.toList]])
 (59 : Nat))))
 (7 : Nat) (Value.int IntKind.i64 n_19) ∧
 at1 h_5
 (Array.size
 (Array.push h
 (row
 (TVs.cells
 [TV.agg
 [TV.int IntKind.i64 (5 : Int),
 TV.str
 (ByteArray.mk
 #[(107 : UInt8)]).data.toList]])
 (59 : Nat))))
 (8 : Nat) (Value.int IntKind.i64 n_20) ∧
 at1 h_5
 (Array.size
 (Array.push h
 (row
 (TVs.cells
 [TV.agg
 [TV.int IntKind.i64 (5 : Int),
 TV.str
 (ByteArray.mk
 #[(107 : UInt8)]).data.toList]])
 (59 : Nat))))
 (9 : Nat) (Value.int IntKind.i64 n_21) ∧
 at1 h_5
 (Array.size
 (Array.push h
 (row
 (TVs.cells
 [TV.agg
 [TV.int IntKind.i64 (5 : Int),
 TV.str
 (ByteArray.mk
 #[(107 :
 UInt8)]).data.toList]])
 (59 : Nat))))
 (10 : Nat) (Value.int IntKind.i64 n_22) ∧
 at1 h_5
 (Array.size
 (Array.push h
 (row
 (TVs.cells
 [TV.agg
 [TV.int IntKind.i64 (5 : Int),
 TV.str
 (ByteArray.mk
 #[(107 :
 UInt8)]).data.toList]])
 (59 : Nat))))
 (11 : Nat) (Value.int IntKind.i64 n_23)) ∧
 CallsH Try.prog (12 : Nat)
 (TVs.vals
 [TV.agg
 [TV.slice s, TV.int IntKind.i64 n, TV.int IntKind.i64 n_14,
 TV.int IntKind.i64 n_15, TV.int IntKind.i64 n_16,
 TV.int IntKind.i64 n_17, TV.int IntKind.i64 n_18,
 TV.int IntKind.i64 n_19, TV.int IntKind.i64 n_20,
 TV.int IntKind.i64 n_21, TV.int IntKind.i64 n_22,
 TV.int IntKind.i64 n_23],
 TV.agg
 [TV.int IntKind.i64 (3 : Int), TV.int IntKind.i64 (3 : Int),
 TV.bytes (32 : Nat) (Bs.zero (32 : Nat)),
 TV.int IntKind.i64 (0 : Int), TV.int IntKind.u64 (0 : Int),
 TV.slice
 (Sl.mk (some (Loc.mk (Array.size h_5) (0 : Nat))) (1 : Nat)
 (1 : Nat)),
 TV.bytes (16 : Nat) (Bs.zero (16 : Nat))]])
 (Array.push h_5 (row (TVs.cells [TV.bool true]) (4 : Nat)))
 fun (v : Value) (h_6 : Array Obj) ↦
 ∃ (s : Sl),
 v = TV.val (TV.slice s) ∧
 If b_2
 (∃ (s_1 : Sl),
 ∃ (n : Int),
 ∃ (n_24 : Int),
 ∃ (n_25 : Int),
 ∃ (n_26 : Int),
 ∃ (n_27 : Int),
 ∃ (n_28 : Int),
 ∃ (n_29 : Int),
 ∃ (n_30 : Int),
 ∃ (n_31 : Int),
 ∃ (n_32 : Int),
 ∃ (n_33 : Int),
 (at1 h_6
 (Array.size
 (Array.push h
 (row
 (TVs.cells
 [TV.agg
 [TV.int IntKind.i64
 (5 : Int),
 TV.str
 (ByteArray.mk
 #[(107 :
 UInt8)]).data.toList]])
 (59 : Nat))))
 (0 : Nat) (slVal s_1) ∧
 at1 h_6
 (Array.size
 (Array.push h
 (row
 (TVs.cells
 [TV.agg
 [TV.int IntKind.i64
 (5 : Int),
 TV.str
 (ByteArray.mk
 #[(107 :
 UInt8)]).data.toList]])
 (59 : Nat))))
 (1 : Nat)
 (Value.int IntKind.i64 n) ∧
 at1 h_6
 (Array.size
 (Array.push h
 (row
 (TVs.cells
 [TV.agg
 [TV.int IntKind.i64
 (5 : Int),
 TV.str
 (ByteArray.mk
 #[(107 :
 UInt8)]).data.toList]])
 (59 : Nat))))
 (2 : Nat)
 (Value.int IntKind.i64 n_24) ∧
 at1 h_6
 (Array.size
 (Array.push h
 (row
 (TVs.cells
 [TV.agg
 [TV.int IntKind.i64
 (5 : Int),
 TV.str
 (ByteArray.mk
 #[(107 :
 UInt8)]).data.toList]])
 (59 : Nat))))
 (3 : Nat)
 (Value.int IntKind.i64 n_25) ∧
 at1 h_6
 (Array.size
 (Array.push h
 (row
 (TVs.cells
 [TV.agg
 [TV.int
 IntKind.i64
 (5 : Int),
 TV.str
 (ByteArray.mk
 #[(107 :
 UInt8)]).data.toList]])
 (59 : Nat))))
 (4 : Nat)
 (Value.int IntKind.i64 n_26) ∧
 at1 h_6
 (Array.size
 (Array.push h
 (row
 (TVs.cells
 [TV.agg
 [TV.int
 IntKind.i64
 (5 : Int),
 TV.str
 (ByteArray.mk
 #[(107 :
 UInt8)]).data.toList]])
 (59 : Nat))))
 (5 : Nat)
 (Value.int IntKind.i64
 n_27) ∧
 at1 h_6
 (Array.size
 (Array.push h
 (row
 (TVs.cells
 [TV.agg
 [TV.int
 IntKind.i64
 (5 : Int),
 TV.str
 (ByteArray.mk
 #[(107 :
 UInt8)]).data.toList]])
 (59 : Nat))))
 (6 : Nat)
 (Value.int IntKind.i64
 n_28) ∧
 at1 h_6
 (Array.size
 (Array.push h
 (row
 (TVs.cells
 [TV.agg
 [TV.int
 IntKind.i64
 (5 :
 Int),
 TV.str
 (ByteArray.mk
 #[(107 :
 UInt8)]).data.toList]])
 (59 : Nat))))
 (7 : Nat)
 (Value.int IntKind.i64
 n_29) ∧
 at1 h_6
 (Array.size
 (Array.push h
 (row
 (TVs.cells
 [TV.agg
 [TV.int
 IntKind.i64
 (5 :
 Int),
 TV.str
 (ByteArray.mk
 #[(107 :
 UInt8)]).data.toList]])
 (59 : Nat))))
 (8 : Nat)
 (Value.int IntKind.i64
 n_30) ∧
 at1 h_6
 (Array.size
 (Array.push h
 (row
 (TVs.cells
 [TV.agg
 [TV.int
 IntKind.i64
 (5 :
 Int),
 TV.str
 (ByteArray.mk
 #[(107 :
 UInt8)]).data.toList]])
 (59 : Nat))))
 (9 : Nat)
 (Value.int
 IntKind.i64
 n_31) ∧
 at1 h_6
 (Array.size
 (Array.push h
 (row
 (TVs.cells
 [TV.agg
 [TV.int
 IntKind.i64
 (5 :
 Int),
 TV.str
 (ByteArray.mk
 #[(107 :
 UInt8)]).data.toList]])
 (59 :
 Nat))))
 (10 : Nat)
 (Value.int
 IntKind.i64
 n_32) ∧
 at1 h_6
 (Array.size
 (Array.push h
 (row
 (TVs.cells
 [TV.agg
 [TV.int
 IntKind.i64
 (5 :
 Int),
 TV.str
 (ByteArray.mk
 #[(107 :
 UInt8)]).data.toList]])
 (59 :
 Nat))))
 (11 : Nat)
 (Value.int
 IntKind.i64
 n_33)) ∧
 ∃ (n_34 : Int),
 ∃ (n_35 : Int),
 ∃ (b : Bs (32 : Nat)),
 ∃ (n_36 : Int),
 ∃ (n_37 : Int),
 ∃ (s_2 : Sl),
 ∃ (b_3 : Bs (16 : Nat)),
 (at1 h_6 (Array.size h_3)
 (0 : Nat)
 (Value.int IntKind.i64
 n_34) ∧
 at1 h_6 (Array.size h_3)
 (1 : Nat)
 (Value.int
 IntKind.i64
 n_35) ∧
 atBytes h_6
 (Array.size h_3)
 (2 : Nat)
 (32 : Nat) b ∧
 at1 h_6
 (Array.size h_3)
 (34 : Nat)
 (Value.int
 IntKind.i64
 n_36) ∧
 at1 h_6
 (Array.size
 h_3)
 (35 : Nat)
 (Value.int
 IntKind.u64
 n_37) ∧
 at1 h_6
 (Array.size
 h_3)
 (36 : Nat)
 (slVal
 s_2) ∧
 atBytes h_6
 (Array.size
 h_3)
 (37 : Nat)
 (16 : Nat)
 b_3) ∧
 CallsH Try.prog (17 : Nat)
 (TVs.vals
 [TV.agg
 [TV.slice s_1,
 TV.int
 IntKind.i64 n,
 TV.int
 IntKind.i64
 n_24,
 TV.int
 IntKind.i64
 n_25,
 TV.int
 IntKind.i64
 n_26,
 TV.int
 IntKind.i64
 n_27,
 TV.int
 IntKind.i64
 n_28,
 TV.int
 IntKind.i64
 n_29,
 TV.int
 IntKind.i64
 n_30,
 TV.int
 IntKind.i64
 n_31,
 TV.int
 IntKind.i64
 n_32,
 TV.int
 IntKind.i64
 n_33],
 TV.agg
 [TV.int
 IntKind.i64
 n_34,
 TV.int
 IntKind.i64
 n_35,
 TV.bytes
 (32 : Nat) b,
 TV.int
 IntKind.i64
 n_36,
 TV.int
 IntKind.u64
 n_37,
 TV.slice s_2,
 TV.bytes
 (16 : Nat)
 b_3]])
 h_6
 fun (v : Value)
 (h : Array Obj) ↦
 ∃ (b : Bool),
 v =
 TV.val
 (TV.bool b) ∧
 If b
 (∃ (b :
 Bs (16 : Nat)),
 atBytes h
 (Array.size
 h_3)
 (37 : Nat)
 (16 : Nat)
 b ∧
 If
 (!decide
 (b.l =
 (Bs.zero
 (16 :
 Nat)).l))
 (If
 (decide
 ((↑s.len :
 Int) =
 (1 :
 Int)))
 ((0 :
 Int) ≤
 (0 :
 Int) ∧
 (0 :
 Int) <
 (↑s.len :
 Int) ∧
 Nn s.a
 fun
 (l :
 Go.Vc.Loc) ↦
 ∃ (n
 :
 Int),
 at1
 h
 l.b
 (l.o +
 Int.toNat
 (0 :
 Int) *
 (34 :
 Nat) +
 (1 :
 Nat))
 (Value.int
 IntKind.i64
 n) ∧
 R
 (TV.val
 (TV.bool
 (decide
 (n =
 (3 :
 Int)))))
 h)
 (R
 (TV.val
 (TV.bool
 false))
 h))
 (R
 (TV.val
 (TV.bool
 false))
 h))
 (R
 (TV.val
 (TV.bool
 false))
 h))
 (R (TV.val (TV.bool false)) h_6)

theorem tollerlaw08_alive_calls (h : Heap) (R : Value → Heap → Prop) (H : tollerlaw08_alive_vc h R) : CallsH Try.prog 9 (TVs.vals []) h R :=
 vcFn_sound (C := ctx) ctx_ok (fn := Try.f9) Try.func9 ((by kernel_rfl : tollerlaw08_alive_vc h R = vcFn ctx Try.f9 [] h R) ▸ H)


def tollerlaw08_great_vc (c_Validators : Sl) (c_Epoch : Int) (c_Committee : Int) (c_Nodes : Int) (c_Orphans : Int) (c_Early : Int) (c_Quota : Int) (c_Peers : Int) (c_Bytes : Int) (c_Window : Int) (c_Ban : Int) (c_Decay : Int) (m_Kind : Int) (m_Slot : Int) (m_Target : Bs (32 : Nat)) (m_Member : Int) (m_Body : Int) (m_Bits : Sl) (m_Tag : Bs (16 : Nat)) (h : Heap) (R : Value → Heap → Prop) : Prop :=
 Vc.Bind
 (newTV h
 (TV.agg
 [TV.slice c_Validators, TV.int IntKind.i64 c_Epoch, TV.int IntKind.i64 c_Committee, TV.int IntKind.i64 c_Nodes, TV.int IntKind.i64 c_Orphans,
 TV.int IntKind.i64 c_Early, TV.int IntKind.i64 c_Quota, TV.int IntKind.i64 c_Peers, TV.int IntKind.i64 c_Bytes, TV.int IntKind.i64 c_Window,
 TV.int IntKind.i64 c_Ban, TV.int IntKind.i64 c_Decay])
 (24 : Nat))
 fun (h_1 : Array Obj) ↦
 Vc.Bind
 (newTV h_1
 (TV.agg
 [TV.int IntKind.i64 m_Kind, TV.int IntKind.i64 m_Slot, TV.bytes (32 : Nat) m_Target, TV.int IntKind.i64 m_Member, TV.int IntKind.u64 m_Body,
 TV.slice m_Bits, TV.bytes (16 : Nat) m_Tag])
 (32 : Nat))
 fun (h_2 : Array Obj) ↦
 ∃ (s : Sl),
 ∃ (n : Int),
 ∃ (n_1 : Int),
 ∃ (n_2 : Int),
 ∃ (n_3 : Int),
 ∃ (n_4 : Int),
 ∃ (n_5 : Int),
 ∃ (n_6 : Int),
 ∃ (n_7 : Int),
 ∃ (n_8 : Int),
 ∃ (n_9 : Int),
 ∃ (n_10 : Int),
 (at1 h_2 (Array.size h) (0 : Nat) (slVal s) ∧
 at1 h_2 (Array.size h) (1 : Nat) (Value.int IntKind.i64 n) ∧
 at1 h_2 (Array.size h) (2 : Nat) (Value.int IntKind.i64 n_1) ∧
 at1 h_2 (Array.size h) (3 : Nat) (Value.int IntKind.i64 n_2) ∧
 at1 h_2 (Array.size h) (4 : Nat) (Value.int IntKind.i64 n_3) ∧
 at1 h_2 (Array.size h) (5 : Nat) (Value.int IntKind.i64 n_4) ∧
 at1 h_2 (Array.size h) (6 : Nat) (Value.int IntKind.i64 n_5) ∧
 at1 h_2 (Array.size h) (7 : Nat) (Value.int IntKind.i64 n_6) ∧
 at1 h_2 (Array.size h) (8 : Nat) (Value.int IntKind.i64 n_7) ∧
 at1 h_2 (Array.size h) (9 : Nat) (Value.int IntKind.i64 n_8) ∧
 at1 h_2 (Array.size h) (10 : Nat) (Value.int IntKind.i64 n_9) ∧
 at1 h_2 (Array.size h) (11 : Nat) (Value.int IntKind.i64 n_10)) ∧
 CallsH Try.prog (24 : Nat)
 (TVs.vals
 [TV.agg
 [TV.slice s, TV.int IntKind.i64 n, TV.int IntKind.i64 n_1, TV.int IntKind.i64 n_2, TV.int IntKind.i64 n_3,
 TV.int IntKind.i64 n_4, TV.int IntKind.i64 n_5, TV.int IntKind.i64 n_6, TV.int IntKind.i64 n_7, TV.int IntKind.i64 n_8,
 TV.int IntKind.i64 n_9, TV.int IntKind.i64 n_10]])
 h_2 fun (v : Value) (h_3 : Array Obj) ↦
 ∃ (b : Bool),
 v = TV.val (TV.bool b) ∧
 If b (R (TV.val (TV.bool true)) h_3)
 (∃ (s : Sl),
 ∃ (n : Int),
 ∃ (n_11 : Int),
 ∃ (n_12 : Int),
 ∃ (n_13 : Int),
 ∃ (n_14 : Int),
 ∃ (n_15 : Int),
 ∃ (n_16 : Int),
 ∃ (n_17 : Int),
 ∃ (n_18 : Int),
 ∃ (n_19 : Int),
 ∃ (n_20 : Int),
 (at1 h_3 (Array.size h) (0 : Nat) (slVal s) ∧
 at1 h_3 (Array.size h) (1 : Nat) (Value.int IntKind.i64 n) ∧
 at1 h_3 (Array.size h) (2 : Nat) (Value.int IntKind.i64 n_11) ∧
 at1 h_3 (Array.size h) (3 : Nat) (Value.int IntKind.i64 n_12) ∧
 at1 h_3 (Array.size h) (4 : Nat) (Value.int IntKind.i64 n_13) ∧
 at1 h_3 (Array.size h) (5 : Nat) (Value.int IntKind.i64 n_14) ∧
 at1 h_3 (Array.size h) (6 : Nat) (Value.int IntKind.i64 n_15) ∧
 at1 h_3 (Array.size h) (7 : Nat) (Value.int IntKind.i64 n_16) ∧
 at1 h_3 (Array.size h) (8 : Nat) (Value.int IntKind.i64 n_17) ∧
 at1 h_3 (Array.size h) (9 : Nat) (Value.int IntKind.i64 n_18) ∧
 at1 h_3 (Array.size h) (10 : Nat) (Value.int IntKind.i64 n_19) ∧
 at1 h_3 (Array.size h) (11 : Nat) (Value.int IntKind.i64 n_20)) ∧
 CallsH Try.prog (25 : Nat)
 (TVs.vals
 [TV.agg
 [TV.slice s, TV.int IntKind.i64 n, TV.int IntKind.i64 n_11, TV.int IntKind.i64 n_12,
 TV.int IntKind.i64 n_13, TV.int IntKind.i64 n_14, TV.int IntKind.i64 n_15,
 TV.int IntKind.i64 n_16, TV.int IntKind.i64 n_17, TV.int IntKind.i64 n_18,
 TV.int IntKind.i64 n_19, TV.int IntKind.i64 n_20]])
 h_3 fun (v : Value) (h : Array Obj) ↦
 ∃ (b : Bool),
 v = TV.val (TV.bool b) ∧
 If (!b) (R (TV.val (TV.bool true)) h)
 (∃ (s : Sl),
 at1 h (Array.size h_1) (36 : Nat) (slVal s) ∧
 R (TV.val (TV.bool (decide ((200 : Int) < (↑s.len : Int))))) h))

theorem tollerlaw08_great_calls (c_Validators : Sl) (c_Epoch : Int) (c_Committee : Int) (c_Nodes : Int) (c_Orphans : Int) (c_Early : Int) (c_Quota : Int) (c_Peers : Int) (c_Bytes : Int) (c_Window : Int) (c_Ban : Int) (c_Decay : Int) (m_Kind : Int) (m_Slot : Int) (m_Target : Bs (32 : Nat)) (m_Member : Int) (m_Body : Int) (m_Bits : Sl) (m_Tag : Bs (16 : Nat)) (h : Heap) (R : Value → Heap → Prop) (H : tollerlaw08_great_vc c_Validators c_Epoch c_Committee c_Nodes c_Orphans c_Early c_Quota c_Peers c_Bytes c_Window c_Ban c_Decay m_Kind m_Slot m_Target m_Member m_Body m_Bits m_Tag h R) : CallsH Try.prog 10 (TVs.vals [TV.agg [TV.slice c_Validators, TV.int IntKind.i64 c_Epoch, TV.int IntKind.i64 c_Committee, TV.int IntKind.i64 c_Nodes, TV.int IntKind.i64 c_Orphans, TV.int IntKind.i64 c_Early, TV.int IntKind.i64 c_Quota, TV.int IntKind.i64 c_Peers, TV.int IntKind.i64 c_Bytes, TV.int IntKind.i64 c_Window, TV.int IntKind.i64 c_Ban, TV.int IntKind.i64 c_Decay], TV.agg [TV.int IntKind.i64 m_Kind, TV.int IntKind.i64 m_Slot, TV.bytes (32 : Nat) m_Target, TV.int IntKind.i64 m_Member, TV.int IntKind.u64 m_Body, TV.slice m_Bits, TV.bytes (16 : Nat) m_Tag]]) h R :=
 vcFn_sound (C := ctx) ctx_ok (fn := Try.f10) Try.func10 ((by kernel_rfl : tollerlaw08_great_vc c_Validators c_Epoch c_Committee c_Nodes c_Orphans c_Early c_Quota c_Peers c_Bytes c_Window c_Ban c_Decay m_Kind m_Slot m_Target m_Member m_Body m_Bits m_Tag h R = vcFn ctx Try.f10 [TV.agg [TV.slice c_Validators, TV.int IntKind.i64 c_Epoch, TV.int IntKind.i64 c_Committee, TV.int IntKind.i64 c_Nodes, TV.int IntKind.i64 c_Orphans, TV.int IntKind.i64 c_Early, TV.int IntKind.i64 c_Quota, TV.int IntKind.i64 c_Peers, TV.int IntKind.i64 c_Bytes, TV.int IntKind.i64 c_Window, TV.int IntKind.i64 c_Ban, TV.int IntKind.i64 c_Decay], TV.agg [TV.int IntKind.i64 m_Kind, TV.int IntKind.i64 m_Slot, TV.bytes (32 : Nat) m_Target, TV.int IntKind.i64 m_Member, TV.int IntKind.u64 m_Body, TV.slice m_Bits, TV.bytes (16 : Nat) m_Tag]] h R) ▸ H)


def tollerref08_Same_vc (a : Sl) (b : Sl) (h : Heap) (R : Value → Heap → Prop) : Prop :=
 If (!decide ((↑a.len : Int) = (↑b.len : Int))) (R (TV.val (TV.bool false)) h)
 (Go.Vc.Loop (false, (0 : Int)) h fun (s : Bool × Int) (h : Array Obj) (K : Bool × Int → Array Obj → Prop) ↦
 If (decide (s.snd < (↑a.len : Int)))
 ((0 : Int) ≤ s.snd ∧
 s.snd < (↑a.len : Int) ∧
 Nn a.a fun (l : Go.Vc.Loc) ↦
 ∃ (n : Int),
 ∃ (n_1 : Int),
 ∃ (b_1 : Bs (32 : Nat)),
 (at1 h l.b (l.o + Int.toNat s.snd * (34 : Nat)) (Value.int IntKind.i64 n) ∧
 at1 h l.b (l.o + Int.toNat s.snd * (34 : Nat) + (1 : Nat)) (Value.int IntKind.i64 n_1) ∧
 atBytes h l.b (l.o + Int.toNat s.snd * (34 : Nat) + (1 : Nat) + (1 : Nat)) (32 : Nat) b_1) ∧
 (0 : Int) ≤ s.snd ∧
 s.snd < (↑b.len : Int) ∧
 Nn b.a fun (l : Go.Vc.Loc) ↦
 ∃ (n_2 : Int),
 ∃ (n_3 : Int),
 ∃ (b : Bs (32 : Nat)),
 (at1 h l.b (l.o + Int.toNat s.snd * (34 : Nat)) (Value.int IntKind.i64 n_2) ∧
 at1 h l.b (l.o + Int.toNat s.snd * (34 : Nat) + (1 : Nat)) (Value.int IntKind.i64 n_3) ∧
 atBytes h l.b (l.o + Int.toNat s.snd * (34 : Nat) + (1 : Nat) + (1 : Nat)) (32 : Nat) b) ∧
 If (!(decide (n = n_2) && (decide (n_1 = n_3) && (decide (b_1.l = b.l) && true)))) (R (TV.val (TV.bool false)) h)
 (K (s.fst, IntKind.wrap IntKind.i64 (s.snd + (1 : Int))) h))
 (R (TV.val (TV.bool true)) h))

theorem tollerref08_Same_calls (a : Sl) (b : Sl) (h : Heap) (R : Value → Heap → Prop) (H : tollerref08_Same_vc a b h R) : CallsH Try.prog 16 (TVs.vals [TV.slice a, TV.slice b]) h R :=
 vcFn_sound (C := ctx) ctx_ok (fn := Try.f16) Try.func16 ((by kernel_rfl : tollerref08_Same_vc a b h R = vcFn ctx Try.f16 [TV.slice a, TV.slice b] h R) ▸ H)


end Go.Proofs.Ytgdhddignbkloaa
