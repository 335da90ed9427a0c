/- The conditions of functions, as the generator reckons them out, each with the proof that it is that. -/
import Derived.Test.YtgdhddignbkloaaCtx
namespace Go.Proofs.Ytgdhddignbkloaa
open Go Go.Vc
set_option maxRecDepth 100000
set_option linter.unusedVariables false

def tollerlaw08_SealSums_vc (c_Validators : Sl) (c_Epoch : Int) (c_Committee : Int) (c_Nodes : Int) (c_Orphans : Int) (c_Early : Int) (c_Quota : Int) (c_Peers : Int) (c_Bytes : Int) (c_Window : Int) (c_Ban : Int) (c_Decay : Int) (m_Kind : Int) (m_Slot : Int) (m_Target : Bs (32 : Nat)) (m_Member : Int) (m_Body : Int) (m_Bits : Sl) (m_Tag : Bs (16 : Nat)) (turn : Int) (h : Heap) (R : Value → Heap → Prop) : Prop :=
 Vc.Bind
 (newTV h
 (TV.agg
 [TV.slice c_Validators, TV.int IntKind.i64 c_Epoch, TV.int IntKind.i64 c_Committee, TV.int IntKind.i64 c_Nodes, TV.int IntKind.i64 c_Orphans,
 TV.int IntKind.i64 c_Early, TV.int IntKind.i64 c_Quota, TV.int IntKind.i64 c_Peers, TV.int IntKind.i64 c_Bytes, TV.int IntKind.i64 c_Window,
 TV.int IntKind.i64 c_Ban, TV.int IntKind.i64 c_Decay])
 (24 : Nat))
 fun (h_1 : Array Obj) ↦
 Vc.Bind
 (newTV h_1
 (TV.agg
 [TV.int IntKind.i64 m_Kind, TV.int IntKind.i64 m_Slot, TV.bytes (32 : Nat) m_Target, TV.int IntKind.i64 m_Member, TV.int IntKind.u64 m_Body,
 TV.slice m_Bits, TV.bytes (16 : Nat) m_Tag])
 (32 : Nat))
 fun (h_2 : Array Obj) ↦
 CallsH Try.prog (9 : Nat) (TVs.vals []) h_2 fun (v : Value) (h_3 : Array Obj) ↦
 ∃ (b : Bool),
 v = TV.val (TV.bool b) ∧
 If (!b) (R (TV.val (TV.bool false)) h_3)
 (Join
 (fun (s : Bool) (h_4 : Array Obj) ↦
 ∃ (s_1 : Sl),
 ∃ (n : Int),
 ∃ (n_1 : Int),
 ∃ (n_2 : Int),
 ∃ (n_3 : Int),
 ∃ (n_4 : Int),
 ∃ (n_5 : Int),
 ∃ (n_6 : Int),
 ∃ (n_7 : Int),
 ∃ (n_8 : Int),
 ∃ (n_9 : Int),
 ∃ (n_10 : Int),
 (at1 h_4 (Array.size h) (0 : Nat) (slVal s_1) ∧
 at1 h_4 (Array.size h) (1 : Nat) (Value.int IntKind.i64 n) ∧
 at1 h_4 (Array.size h) (2 : Nat) (Value.int IntKind.i64 n_1) ∧
 at1 h_4 (Array.size h) (3 : Nat) (Value.int IntKind.i64 n_2) ∧
 at1 h_4 (Array.size h) (4 : Nat) (Value.int IntKind.i64 n_3) ∧
 at1 h_4 (Array.size h) (5 : Nat) (Value.int IntKind.i64 n_4) ∧
 at1 h_4 (Array.size h) (6 : Nat) (Value.int IntKind.i64 n_5) ∧
 at1 h_4 (Array.size h) (7 : Nat) (Value.int IntKind.i64 n_6) ∧
 at1 h_4 (Array.size h) (8 : Nat) (Value.int IntKind.i64 n_7) ∧
 at1 h_4 (Array.size h) (9 : Nat) (Value.int IntKind.i64 n_8) ∧
 at1 h_4 (Array.size h) (10 : Nat) (Value.int IntKind.i64 n_9) ∧
 at1 h_4 (Array.size h) (11 : Nat) (Value.int IntKind.i64 n_10)) ∧
 ∃ (n_11 : Int),
 ∃ (n_12 : Int),
 ∃ (b_1 : Bs (32 : Nat)),
 ∃ (n_13 : Int),
 ∃ (n_14 : Int),
 ∃ (s_2 : Sl),
 ∃ (b_2 : Bs (16 : Nat)),
 (at1 h_4 (Array.size h_1) (0 : Nat) (Value.int IntKind.i64 n_11) ∧
 at1 h_4 (Array.size h_1) (1 : Nat) (Value.int IntKind.i64 n_12) ∧
 atBytes h_4 (Array.size h_1) (2 : Nat) (32 : Nat) b_1 ∧
 at1 h_4 (Array.size h_1) (34 : Nat) (Value.int IntKind.i64 n_13) ∧
 at1 h_4 (Array.size h_1) (35 : Nat) (Value.int IntKind.u64 n_14) ∧
 at1 h_4 (Array.size h_1) (36 : Nat) (slVal s_2) ∧
 atBytes h_4 (Array.size h_1) (37 : Nat) (16 : Nat) b_2) ∧
 CallsH Try.prog (11 : Nat)
 (TVs.vals
 [TV.agg
 [TV.slice s_1, TV.int IntKind.i64 n, TV.int IntKind.i64 n_1, TV.int IntKind.i64 n_2,
 TV.int IntKind.i64 n_3, TV.int IntKind.i64 n_4, TV.int IntKind.i64 n_5,
 TV.int IntKind.i64 n_6, TV.int IntKind.i64 n_7, TV.int IntKind.i64 n_8,
 TV.int IntKind.i64 n_9, TV.int IntKind.i64 n_10],
 TV.agg
 [TV.int IntKind.i64 n_11, TV.int IntKind.i64 n_12, TV.bytes (32 : Nat) b_1,
 TV.int IntKind.i64 n_13, TV.int IntKind.u64 n_14, TV.slice s_2, TV.bytes (16 : Nat) b_2]])
 h_4 fun (v : Value) (h_5 : Array Obj) ↦
 ∃ (b_3 : Bs (16 : Nat)),
 ∃ (b_4 : Bool),
 v = TV.val (TV.tup [TV.bytes (16 : Nat) b_3, TV.bool b_4]) ∧
 Vc.Bind (newTV h_5 (TV.bytes (16 : Nat) (Bs.zero (16 : Nat))) (30 : Nat))
 fun (h_6 : Array Obj) ↦
 wok h_6 (Array.size h_5) (0 : Nat) (16 : Nat) ∧
 Vc.Bind (TV.put h_6 (Array.size h_5) (0 : Nat) (TV.bytes (16 : Nat) b_3))
 fun (h_7 : Array Obj) ↦
 ∃ (s_3 : Sl),
 ∃ (n_15 : Int),
 ∃ (n_16 : Int),
 ∃ (n_17 : Int),
 ∃ (n_18 : Int),
 ∃ (n_19 : Int),
 ∃ (n_20 : Int),
 ∃ (n_21 : Int),
 ∃ (n_22 : Int),
 ∃ (n_23 : Int),
 ∃ (n_24 : Int),
 ∃ (n_25 : Int),
 (at1 h_7 (Array.size h) (0 : Nat) (slVal s_3) ∧
 at1 h_7 (Array.size h) (1 : Nat)
 (Value.int IntKind.i64 n_15) ∧
 at1 h_7 (Array.size h) (2 : Nat)
 (Value.int IntKind.i64 n_16) ∧
 at1 h_7 (Array.size h) (3 : Nat)
 (Value.int IntKind.i64 n_17) ∧
 at1 h_7 (Array.size h) (4 : Nat)
 (Value.int IntKind.i64 n_18) ∧
 at1 h_7 (Array.size h) (5 : Nat)
 (Value.int IntKind.i64 n_19) ∧
 at1 h_7 (Array.size h) (6 : Nat)
 (Value.int IntKind.i64 n_20) ∧
 at1 h_7 (Array.size h) (7 : Nat)
 (Value.int IntKind.i64 n_21) ∧
 at1 h_7 (Array.size h) (8 : Nat)
 (Value.int IntKind.i64 n_22) ∧
 at1 h_7 (Array.size h) (9 : Nat)
 (Value.int IntKind.i64 n_23) ∧
 at1 h_7 (Array.size h) (10 : Nat)
 (Value.int IntKind.i64 n_24) ∧
 at1 h_7 (Array.size h) (11 : Nat)
 (Value.int IntKind.i64 n_25)) ∧
 ∃ (n_26 : Int),
 ∃ (n_27 : Int),
 ∃ (b_5 : Bs (32 : Nat)),
 ∃ (n_28 : Int),
 ∃ (n_29 : Int),
 ∃ (s_4 : Sl),
 ∃ (b_6 : Bs (16 : Nat)),
 (at1 h_7 (Array.size h_1) (0 : Nat)
 (Value.int IntKind.i64 n_26) ∧
 at1 h_7 (Array.size h_1) (1 : Nat)
 (Value.int IntKind.i64 n_27) ∧
 atBytes h_7 (Array.size h_1) (2 : Nat)
 (32 : Nat) b_5 ∧
 at1 h_7 (Array.size h_1) (34 : Nat)
 (Value.int IntKind.i64 n_28) ∧
 at1 h_7 (Array.size h_1) (35 : Nat)
 (Value.int IntKind.u64 n_29) ∧
 at1 h_7 (Array.size h_1) (36 : Nat)
 (slVal s_4) ∧
 atBytes h_7 (Array.size h_1)
 (37 : Nat) (16 : Nat) b_6) ∧
 CallsH Try.prog (12 : Nat)
 (TVs.vals
 [TV.agg
 [TV.slice s_3,
 TV.int IntKind.i64 n_15,
 TV.int IntKind.i64 n_16,
 TV.int IntKind.i64 n_17,
 TV.int IntKind.i64 n_18,
 TV.int IntKind.i64 n_19,
 TV.int IntKind.i64 n_20,
 TV.int IntKind.i64 n_21,
 TV.int IntKind.i64 n_22,
 TV.int IntKind.i64 n_23,
 TV.int IntKind.i64 n_24,
 TV.int IntKind.i64 n_25],
 TV.agg
 [TV.int IntKind.i64 n_26,
 TV.int IntKind.i64 n_27,
 TV.bytes (32 : Nat) b_5,
 TV.int IntKind.i64 n_28,
 TV.int IntKind.u64 n_29,
 TV.slice s_4,
 TV.bytes (16 : Nat) b_6]])
 h_7 fun (v : Value) (h_8 : Array Obj) ↦
 ∃ (s_5 : Sl),
 v = TV.val (TV.slice s_5) ∧
 If (!b_4)
 (R
 (TV.val
 (TV.bool
 (decide
 ((↑s_5.len : Int) =
 (0 : Int)))))
 h_8)
 (If
 (decide
 ((↑s_5.len : Int) = (0 : Int)))
 (R (TV.val (TV.bool false)) h_8)
 (Go.Vc.Loop
 (s,
 Sl.mk none (0 : Nat) (0 : Nat),
 (0 : Int))
 h_8
 fun (s_6 : Bool × Sl × Int)
 (h_9 : Array Obj)
 (K :
 Bool × Sl × Int →
 Array Obj → Prop) ↦
 If
 (decide
 (s_6.snd.snd <
 (↑s_5.len : Int)))
 (IntKind.wrap IntKind.u64
 (↑s_5.len : Int) ≠
 (0 : Int) ∧
 (↑s_5.len : Int) ≠ (0 : Int) ∧
 (0 : Int) ≤
 Int.tmod
 (IntKind.wrap
 IntKind.i64
 (s_6.snd.snd +
 IntKind.wrap
 IntKind.i64
 (Int.tmod
 (IntKind.wrap
 IntKind.u64
 turn)
 (IntKind.wrap
 IntKind.u64
 (↑s_5.len :
 Int)))))
 (↑s_5.len : Int) ∧
 Int.tmod
 (IntKind.wrap
 IntKind.i64
 (s_6.snd.snd +
 IntKind.wrap
 IntKind.i64
 (Int.tmod
 (IntKind.wrap
 IntKind.u64
 turn)
 (IntKind.wrap
 IntKind.u64
 (↑s_5.len :
 Int)))))
 (↑s_5.len : Int) <
 (↑s_5.len : Int) ∧
 Nn s_5.a
 fun (l : Go.Vc.Loc) ↦
 ∃ (n_30 : Int),
 ∃ (n_31 : Int),
 ∃ (b_7 :
 Bs (32 : Nat)),
 (at1 h_9 l.b
 (l.o +
 Int.toNat
 (Int.tmod
 (IntKind.wrap
 IntKind.i64
 (s_6.snd.snd +
 IntKind.wrap
 IntKind.i64
 (Int.tmod
 (IntKind.wrap
 IntKind.u64
 turn)
 (IntKind.wrap
 IntKind.u64
 (↑s_5.len :
 Int)))))
 (↑s_5.len :
 Int)) *
 (34 :
 Nat))
 (Value.int
 IntKind.i64
 n_30) ∧
 at1 h_9 l.b
 (l.o +
 Int.toNat
 (Int.tmod
 (IntKind.wrap
 IntKind.i64
 (s_6.snd.snd +
 IntKind.wrap
 IntKind.i64
 (Int.tmod
 (IntKind.wrap
 IntKind.u64
 turn)
 (IntKind.wrap
 IntKind.u64
 (↑s_5.len :
 Int)))))
 (↑s_5.len :
 Int)) *
 (34 :
 Nat) +
 (1 :
 Nat))
 (Value.int
 IntKind.i64
 n_31) ∧
 atBytes
 h_9 l.b
 (l.o +
 Int.toNat
 (Int.tmod
 (IntKind.wrap
 IntKind.i64
 (s_6.snd.snd +
 IntKind.wrap
 IntKind.i64
 (Int.tmod
 (IntKind.wrap
 IntKind.u64
 turn)
 (IntKind.wrap
 IntKind.u64
 (↑s_5.len :
 Int)))))
 (↑s_5.len :
 Int)) *
 (34 :
 Nat) +
 (1 :
 Nat) +
 (1 :
 Nat))
 (32 :
 Nat)
 b_7) ∧
 Vc.Bind
 (newTV h_9
 (TV.agg
 [TV.int
 IntKind.i64
 (0 :
 Int),
 TV.int
 IntKind.i64
 (0 :
 Int),
 TV.bytes
 (32 :
 Nat)
 (Bs.zero
 (32 :
 Nat))])
 (41 :
 Nat))
 fun
 (h_10 :
 Array
 Obj) ↦
 wok h_10
 (Array.size
 h_9)
 (0 :
 Nat)
 (34 :
 Nat) ∧
 Vc.Bind
 (TV.put
 h_10
 (Array.size
 h_9)
 (0 :
 Nat)
 (TV.agg
 [TV.int
 IntKind.i64
 n_30,
 TV.int
 IntKind.i64
 n_31,
 TV.bytes
 (32 :
 Nat)
 b_7]))
 fun
 (h_11 :
 Array
 Obj) ↦
 ∃ (n_32
 :
 Int),
 at1
 h_11
 (Array.size
 h_9)
 (1 :
 Nat)
 (Value.int
 IntKind.i64
 n_32) ∧
 ∃
 (b_8
 :
 Bs
 (32 :
 Nat)),
 atBytes
 h_11
 (Array.size
 h_9)
 (2 :
 Nat)
 (32 :
 Nat)
 b_8 ∧
 ∃
 (n_33
 :
 Int),
 at1
 h_11
 (Array.size
 h_9)
 (0 :
 Nat)
 (Value.int
 IntKind.i64
 n_33) ∧
 Vc.Bind
 (newTV
 h_11
 (TV.agg
 [TV.int
 IntKind.i64
 (0 :
 Int),
 TV.int
 IntKind.i64
 (0 :
 Int),
 TV.bytes
 (32 :
 Nat)
 (Bs.zero
 (32 :
 Nat)),
 TV.int
 IntKind.i64
 (0 :
 Int),
 TV.int
 IntKind.u64
 (0 :
 Int),
 TV.slice
 Sl.nil,
 TV.bytes
 (16 :
 Nat)
 (Bs.zero
 (16 :
 Nat))])
 (32 :
 Nat))
 fun
 (h_12 :
 Array
 Obj) ↦
 wok
 h_12
 (Array.size
 h_11)
 (0 :
 Nat)
 (53 :
 Nat) ∧
 Vc.Bind
 (TV.put
 h_12
 (Array.size
 h_11)
 (0 :
 Nat)
 (TV.agg
 [TV.int
 IntKind.i64
 (2 :
 Int),
 TV.int
 IntKind.i64
 n_32,
 TV.bytes
 (32 :
 Nat)
 b_8,
 TV.int
 IntKind.i64
 n_33,
 TV.int
 IntKind.u64
 (0 :
 Int),
 TV.slice
 Sl.nil,
 TV.bytes
 (16 :
 Nat)
 (Bs.zero
 (16 :
 Nat))]))
 fun
 (h_13 :
 Array
 Obj) ↦
 ∃
 (s_7
 :
 Sl),
 ∃
 (n_34
 :
 Int),
 ∃
 (n_35
 :
 Int),
 ∃
 (n_36
 :
 Int),
 ∃
 (n_37
 :
 Int),
 ∃
 (n_38
 :
 Int),
 ∃
 (n_39
 :
 Int),
 ∃
 (n_40
 :
 Int),
 ∃
 (n_41
 :
 Int),
 ∃
 (n_42
 :
 Int),
 ∃
 (n_43
 :
 Int),
 ∃
 (n_44
 :
 Int),
 (at1
 h_13
 (Array.size
 h)
 (0 :
 Nat)
 (slVal
 s_7) ∧
 at1
 h_13
 (Array.size
 h)
 (1 :
 Nat)
 (Value.int
 IntKind.i64
 n_34) ∧
 at1
 h_13
 (Array.size
 h)
 (2 :
 Nat)
 (Value.int
 IntKind.i64
 n_35) ∧
 at1
 h_13
 (Array.size
 h)
 (3 :
 Nat)
 (Value.int
 IntKind.i64
 n_36) ∧
 at1
 h_13
 (Array.size
 h)
 (4 :
 Nat)
 (Value.int
 IntKind.i64
 n_37) ∧
 at1
 h_13
 (Array.size
 h)
 (5 :
 Nat)
 (Value.int
 IntKind.i64
 n_38) ∧
 at1
 h_13
 (Array.size
 h)
 (6 :
 Nat)
 (Value.int
 IntKind.i64
 n_39) ∧
 at1
 h_13
 (Array.size
 h)
 (7 :
 Nat)
 (Value.int
 IntKind.i64
 n_40) ∧
 at1
 h_13
 (Array.size
 h)
 (8 :
 Nat)
 (Value.int
 IntKind.i64
 n_41) ∧
 at1
 h_13
 (Array.size
 h)
 (9 :
 Nat)
 (Value.int
 IntKind.i64
 n_42) ∧
 at1
 h_13
 (Array.size
 h)
 (10 :
 Nat)
 (Value.int
 IntKind.i64
 n_43) ∧
 at1
 h_13
 (Array.size
 h)
 (11 :
 Nat)
 (Value.int
 IntKind.i64
 n_44)) ∧
 ∃
 (n_45
 :
 Int),
 ∃
 (n_46
 :
 Int),
 ∃
 (b_9
 :
 Bs
 (32 :
 Nat)),
 ∃
 (n_47
 :
 Int),
 ∃
 (n_48
 :
 Int),
 ∃
 (s_8
 :
 Sl),
 ∃
 (b_10
 :
 Bs
 (16 :
 Nat)),
 (at1
 h_13
 (Array.size
 h_11)
 (0 :
 Nat)
 (Value.int
 IntKind.i64
 n_45) ∧
 at1
 h_13
 (Array.size
 h_11)
 (1 :
 Nat)
 (Value.int
 IntKind.i64
 n_46) ∧
 atBytes
 h_13
 (Array.size
 h_11)
 (2 :
 Nat)
 (32 :
 Nat)
 b_9 ∧
 at1
 h_13
 (Array.size
 h_11)
 (34 :
 Nat)
 (Value.int
 IntKind.i64
 n_47) ∧
 at1
 h_13
 (Array.size
 h_11)
 (35 :
 Nat)
 (Value.int
 IntKind.u64
 n_48) ∧
 at1
 h_13
 (Array.size
 h_11)
 (36 :
 Nat)
 (slVal
 s_8) ∧
 atBytes
 h_13
 (Array.size
 h_11)
 (37 :
 Nat)
 (16 :
 Nat)
 b_10) ∧
 CallsH
 Try.prog
 (11 :
 Nat)
 (TVs.vals
 [TV.agg
 [TV.slice
 s_7,
 TV.int
 IntKind.i64
 n_34,
 TV.int
 IntKind.i64
 n_35,
 TV.int
 IntKind.i64
 n_36,
 TV.int
 IntKind.i64
 n_37,
 TV.int
 IntKind.i64
 n_38,
 TV.int
 IntKind.i64
 n_39,
 TV.int
 IntKind.i64
 n_40,
 TV.int
 IntKind.i64
 n_41,
 TV.int
 IntKind.i64
 n_42,
 TV.int
 IntKind.i64
 n_43,
 TV.int
 IntKind.i64
 n_44],
 TV.agg
 [TV.int
 IntKind.i64
 n_45,
 TV.int
 IntKind.i64
 n_46,
 TV.bytes
 (32 :
 Nat)
 b_9,
 TV.int
 IntKind.i64
 n_47,
 TV.int
 IntKind.u64
 n_48,
 TV.slice
 s_8,
 TV.bytes
 (16 :
 Nat)
 b_10]])
 h_13
 fun
 (v :
 Value)
 (h_14 :
 Array
 Obj) ↦
 ∃
 (b_11
 :
 Bs
 (16 :
 Nat)),
 ∃
 (b_12
 :
 Bool),
 v =
 TV.val
 (TV.tup
 [TV.bytes
 (16 :
 Nat)
 b_11,
 TV.bool
 b_12]) ∧
 Vc.Bind
 (newTV
 h_14
 (TV.bytes
 (16 :
 Nat)
 (Bs.zero
 (16 :
 Nat)))
 (30 :
 Nat))
 fun
 (h_15 :
 Array
 Obj) ↦
 wok
 h_15
 (Array.size
 h_14)
 (0 :
 Nat)
 (16 :
 Nat) ∧
 Vc.Bind
 (TV.put
 h_15
 (Array.size
 h_14)
 (0 :
 Nat)
 (TV.bytes
 (16 :
 Nat)
 b_11))
 fun
 (h_16 :
 Array
 Obj) ↦
 ∃
 (s_9
 :
 Sl),
 ∃
 (n_49
 :
 Int),
 ∃
 (n_50
 :
 Int),
 ∃
 (n_51
 :
 Int),
 ∃
 (n_52
 :
 Int),
 ∃
 (n_53
 :
 Int),
 ∃
 (n_54
 :
 Int),
 ∃
 (n_55
 :
 Int),
 ∃
 (n_56
 :
 Int),
 ∃
 (n_57
 :
 Int),
 ∃
 (n_58
 :
 Int),
 ∃
 (n_59
 :
 Int),
 (at1
 h_16
 (Array.size
 h)
 (0 :
 Nat)
 (slVal
 s_9) ∧
 at1
 h_16
 (Array.size
 h)
 (1 :
 Nat)
 (Value.int
 IntKind.i64
 n_49) ∧
 at1
 h_16
 (Array.size
 h)
 (2 :
 Nat)
 (Value.int
 IntKind.i64
 n_50) ∧
 at1
 h_16
 (Array.size
 h)
 (3 :
 Nat)
 (Value.int
 IntKind.i64
 n_51) ∧
 at1
 h_16
 (Array.size
 h)
 (4 :
 Nat)
 (Value.int
 IntKind.i64
 n_52) ∧
 at1
 h_16
 (Array.size
 h)
 (5 :
 Nat)
 (Value.int
 IntKind.i64
 n_53) ∧
 at1
 h_16
 (Array.size
 h)
 (6 :
 Nat)
 (Value.int
 IntKind.i64
 n_54) ∧
 at1
 h_16
 (Array.size
 h)
 (7 :
 Nat)
 (Value.int
 IntKind.i64
 n_55) ∧
 at1
 h_16
 (Array.size
 h)
 (8 :
 Nat)
 (Value.int
 IntKind.i64
 n_56) ∧
 at1
 h_16
 (Array.size
 h)
 (9 :
 Nat)
 (Value.int
 IntKind.i64
 n_57) ∧
 at1
 h_16
 (Array.size
 h)
 (10 :
 Nat)
 (Value.int
 IntKind.i64
 n_58) ∧
 at1
 h_16
 (Array.size
 h)
 (11 :
 Nat)
 (Value.int
 IntKind.i64
 n_59)) ∧
 ∃
 (n_60
 :
 Int),
 ∃
 (n_61
 :
 Int),
 ∃
 (b_13
 :
 Bs
 (32 :
 Nat)),
 ∃
 (n_62
 :
 Int),
 ∃
 (n_63
 :
 Int),
 ∃
 (s_10
 :
 Sl),
 ∃
 (b_14
 :
 Bs
 (16 :
 Nat)),
 (at1
 h_16
 (Array.size
 h_11)
 (0 :
 Nat)
 (Value.int
 IntKind.i64
 n_60) ∧
 at1
 h_16
 (Array.size
 h_11)
 (1 :
 Nat)
 (Value.int
 IntKind.i64
 n_61) ∧
 atBytes
 h_16
 (Array.size
 h_11)
 (2 :
 Nat)
 (32 :
 Nat)
 b_13 ∧
 at1
 h_16
 (Array.size
 h_11)
 (34 :
 Nat)
 (Value.int
 IntKind.i64
 n_62) ∧
 at1
 h_16
 (Array.size
 h_11)
 (35 :
 Nat)
 (Value.int
 IntKind.u64
 n_63) ∧
 at1
 h_16
 (Array.size
 h_11)
 (36 :
 Nat)
 (slVal
 s_10) ∧
 atBytes
 h_16
 (Array.size
 h_11)
 (37 :
 Nat)
 (16 :
 Nat)
 b_14) ∧
 CallsH
 Try.prog
 (12 :
 Nat)
 (TVs.vals
 [TV.agg
 [TV.slice
 s_9,
 TV.int
 IntKind.i64
 n_49,
 TV.int
 IntKind.i64
 n_50,
 TV.int
 IntKind.i64
 n_51,
 TV.int
 IntKind.i64
 n_52,
 TV.int
 IntKind.i64
 n_53,
 TV.int
 IntKind.i64
 n_54,
 TV.int
 IntKind.i64
 n_55,
 TV.int
 IntKind.i64
 n_56,
 TV.int
 IntKind.i64
 n_57,
 TV.int
 IntKind.i64
 n_58,
 TV.int
 IntKind.i64
 n_59],
 TV.agg
 [TV.int
 IntKind.i64
 n_60,
 TV.int
 IntKind.i64
 n_61,
 TV.bytes
 (32 :
 Nat)
 b_13,
 TV.int
 IntKind.i64
 n_62,
 TV.int
 IntKind.u64
 n_63,
 TV.slice
 s_10,
 TV.bytes
 (16 :
 Nat)
 b_14]])
 h_16
 fun
 (v :
 Value)
 (h :
 Array
 Obj) ↦
 ∃
 (s_11
 :
 Sl),
 v =
 TV.val
 (TV.slice
 s_11) ∧
 If
 (!b_12)
 (R
 (TV.val
 (TV.bool
 false))
 h)
 (If
 (!decide
 ((↑s_11.len :
 Int) =
 (1 :
 Int)))
 (R
 (TV.val
 (TV.bool
 false))
 h)
 ((0 :
 Int) ≤
 (0 :
 Int) ∧
 (0 :
 Int) <
 (↑s_11.len :
 Int) ∧
 Nn
 s_11.a
 fun
 (l :
 Go.Vc.Loc) ↦
 ∃
 (n_64
 :
 Int),
 ∃
 (n_65
 :
 Int),
 ∃
 (b_15
 :
 Bs
 (32 :
 Nat)),
 (at1
 h
 l.b
 (l.o +
 Int.toNat
 (0 :
 Int) *
 (34 :
 Nat))
 (Value.int
 IntKind.i64
 n_64) ∧
 at1
 h
 l.b
 (l.o +
 Int.toNat
 (0 :
 Int) *
 (34 :
 Nat) +
 (1 :
 Nat))
 (Value.int
 IntKind.i64
 n_65) ∧
 atBytes
 h
 l.b
 (l.o +
 Int.toNat
 (0 :
 Int) *
 (34 :
 Nat) +
 (1 :
 Nat) +
 (1 :
 Nat))
 (32 :
 Nat)
 b_15) ∧
 ∃
 (n_66
 :
 Int),
 ∃
 (n_67
 :
 Int),
 ∃
 (b_16
 :
 Bs
 (32 :
 Nat)),
 (at1
 h
 (Array.size
 h_9)
 (0 :
 Nat)
 (Value.int
 IntKind.i64
 n_66) ∧
 at1
 h
 (Array.size
 h_9)
 (1 :
 Nat)
 (Value.int
 IntKind.i64
 n_67) ∧
 atBytes
 h
 (Array.size
 h_9)
 (2 :
 Nat)
 (32 :
 Nat)
 b_16) ∧
 If
 (!(decide
 (n_64 =
 n_66) &&
 (decide
 (n_65 =
 n_67) &&
 (decide
 (b_15.l =
 b_16.l) &&
 true))))
 (R
 (TV.val
 (TV.bool
 false))
 h)
 (∃
 (b_17
 :
 Bs
 (16 :
 Nat)),
 atBytes
 h
 (Array.size
 h_14)
 (0 :
 Nat)
 (16 :
 Nat)
 b_17 ∧
 ∃
 (new
 :
 List
 Value),
 slAt
 (Array.push
 h
 (row
 (TVs.cells
 [TV.bytes
 (16 :
 Nat)
 b_17])
 (30 :
 Nat)))
 (Sl.mk
 (some
 (Loc.mk
 (Array.size
 h)
 (0 :
 Nat)))
 (1 :
 Nat)
 (1 :
 Nat))
 (16 :
 Nat)
 new ∧
 (∀
 (v :
 Value),
 v ∈
 new →
 isOne
 v =
 true) ∧
 vcAppend
 Ytgdhddignbkloaa.ctx
 (30 :
 Nat)
 s_6.snd.fst
 (1 :
 Nat)
 new
 (Array.push
 h
 (row
 (TVs.cells
 [TV.bytes
 (16 :
 Nat)
 b_17])
 (30 :
 Nat)))
 fun
 (s_12 :
 Sl)
 (h :
 Array
 Obj) ↦
 K
 (s_6.fst,
 s_12,
 IntKind.wrap
 IntKind.i64
 (s_6.snd.snd +
 (1 :
 Int)))
 h))))
 (∃ (b_7 : Bs (16 : Nat)),
 atBytes h_9 (Array.size h_5)
 (0 : Nat) (16 : Nat) b_7 ∧
 CallsH Try.prog (13 : Nat)
 (TVs.vals
 [TV.slice s_6.snd.fst])
 h_9
 fun (v : Value)
 (h : Array Obj) ↦
 ∃ (b : Bs (16 : Nat)),
 v =
 TV.val
 (TV.bytes
 (16 : Nat) b) ∧
 Ext h_9 h ∧
 R
 (TV.val
 (TV.bool
 (decide
 (b.l =
 b_7.l))))
 h))))
 fun (J : Bool → Array Obj → Prop) ↦
 ∃ (s : Sl),
 ∃ (n : Int),
 ∃ (n_1 : Int),
 ∃ (n_2 : Int),
 ∃ (n_3 : Int),
 ∃ (n_4 : Int),
 ∃ (n_5 : Int),
 ∃ (n_6 : Int),
 ∃ (n_7 : Int),
 ∃ (n_8 : Int),
 ∃ (n_9 : Int),
 ∃ (n_10 : Int),
 (at1 h_3 (Array.size h) (0 : Nat) (slVal s) ∧
 at1 h_3 (Array.size h) (1 : Nat) (Value.int IntKind.i64 n) ∧
 at1 h_3 (Array.size h) (2 : Nat) (Value.int IntKind.i64 n_1) ∧
 at1 h_3 (Array.size h) (3 : Nat) (Value.int IntKind.i64 n_2) ∧
 at1 h_3 (Array.size h) (4 : Nat) (Value.int IntKind.i64 n_3) ∧
 at1 h_3 (Array.size h) (5 : Nat) (Value.int IntKind.i64 n_4) ∧
 at1 h_3 (Array.size h) (6 : Nat) (Value.int IntKind.i64 n_5) ∧
 at1 h_3 (Array.size h) (7 : Nat) (Value.int IntKind.i64 n_6) ∧
 at1 h_3 (Array.size h) (8 : Nat) (Value.int IntKind.i64 n_7) ∧
 at1 h_3 (Array.size h) (9 : Nat) (Value.int IntKind.i64 n_8) ∧
 at1 h_3 (Array.size h) (10 : Nat) (Value.int IntKind.i64 n_9) ∧
 at1 h_3 (Array.size h) (11 : Nat) (Value.int IntKind.i64 n_10)) ∧
 ∃ (n_11 : Int),
 ∃ (n_12 : Int),
 ∃ (b : Bs (32 : Nat)),
 ∃ (n_13 : Int),
 ∃ (n_14 : Int),
 ∃ (s_1 : Sl),
 ∃ (b_1 : Bs (16 : Nat)),
 (at1 h_3 (Array.size h_1) (0 : Nat) (Value.int IntKind.i64 n_11) ∧
 at1 h_3 (Array.size h_1) (1 : Nat) (Value.int IntKind.i64 n_12) ∧
 atBytes h_3 (Array.size h_1) (2 : Nat) (32 : Nat) b ∧
 at1 h_3 (Array.size h_1) (34 : Nat) (Value.int IntKind.i64 n_13) ∧
 at1 h_3 (Array.size h_1) (35 : Nat) (Value.int IntKind.u64 n_14) ∧
 at1 h_3 (Array.size h_1) (36 : Nat) (slVal s_1) ∧
 atBytes h_3 (Array.size h_1) (37 : Nat) (16 : Nat) b_1) ∧
 CallsH Try.prog (10 : Nat)
 (TVs.vals
 [TV.agg
 [TV.slice s, TV.int IntKind.i64 n, TV.int IntKind.i64 n_1, TV.int IntKind.i64 n_2,
 TV.int IntKind.i64 n_3, TV.int IntKind.i64 n_4, TV.int IntKind.i64 n_5,
 TV.int IntKind.i64 n_6, TV.int IntKind.i64 n_7, TV.int IntKind.i64 n_8,
 TV.int IntKind.i64 n_9, TV.int IntKind.i64 n_10],
 TV.agg
 [TV.int IntKind.i64 n_11, TV.int IntKind.i64 n_12, TV.bytes (32 : Nat) b,
 TV.int IntKind.i64 n_13, TV.int IntKind.u64 n_14, TV.slice s_1, TV.bytes (16 : Nat) b_1]])
 h_3 fun (v : Value) (h : Array Obj) ↦
 ∃ (b : Bool),
 v = TV.val (TV.bool b) ∧
 If b (R (TV.val (TV.bool true)) h)
 (∃ (n : Int),
 at1 h (Array.size h_1) (0 : Nat) (Value.int IntKind.i64 n) ∧
 If (!decide (n = (3 : Int))) (R (TV.val (TV.bool true)) h) (J false h)))

theorem tollerlaw08_SealSums_calls (c_Validators : Sl) (c_Epoch : Int) (c_Committee : Int) (c_Nodes : Int) (c_Orphans : Int) (c_Early : Int) (c_Quota : Int) (c_Peers : Int) (c_Bytes : Int) (c_Window : Int) (c_Ban : Int) (c_Decay : Int) (m_Kind : Int) (m_Slot : Int) (m_Target : Bs (32 : Nat)) (m_Member : Int) (m_Body : Int) (m_Bits : Sl) (m_Tag : Bs (16 : Nat)) (turn : Int) (h : Heap) (R : Value → Heap → Prop) (H : tollerlaw08_SealSums_vc c_Validators c_Epoch c_Committee c_Nodes c_Orphans c_Early c_Quota c_Peers c_Bytes c_Window c_Ban c_Decay m_Kind m_Slot m_Target m_Member m_Body m_Bits m_Tag turn h R) : CallsH Try.prog 3 (TVs.vals [TV.agg [TV.slice c_Validators, TV.int IntKind.i64 c_Epoch, TV.int IntKind.i64 c_Committee, TV.int IntKind.i64 c_Nodes, TV.int IntKind.i64 c_Orphans, TV.int IntKind.i64 c_Early, TV.int IntKind.i64 c_Quota, TV.int IntKind.i64 c_Peers, TV.int IntKind.i64 c_Bytes, TV.int IntKind.i64 c_Window, TV.int IntKind.i64 c_Ban, TV.int IntKind.i64 c_Decay], TV.agg [TV.int IntKind.i64 m_Kind, TV.int IntKind.i64 m_Slot, TV.bytes (32 : Nat) m_Target, TV.int IntKind.i64 m_Member, TV.int IntKind.u64 m_Body, TV.slice m_Bits, TV.bytes (16 : Nat) m_Tag], TV.int IntKind.i64 turn]) h R :=
 vcFn_sound (C := ctx) ctx_ok (fn := Try.f3) Try.func3 ((by kernel_rfl : tollerlaw08_SealSums_vc c_Validators c_Epoch c_Committee c_Nodes c_Orphans c_Early c_Quota c_Peers c_Bytes c_Window c_Ban c_Decay m_Kind m_Slot m_Target m_Member m_Body m_Bits m_Tag turn h R = vcFn ctx Try.f3 [TV.agg [TV.slice c_Validators, TV.int IntKind.i64 c_Epoch, TV.int IntKind.i64 c_Committee, TV.int IntKind.i64 c_Nodes, TV.int IntKind.i64 c_Orphans, TV.int IntKind.i64 c_Early, TV.int IntKind.i64 c_Quota, TV.int IntKind.i64 c_Peers, TV.int IntKind.i64 c_Bytes, TV.int IntKind.i64 c_Window, TV.int IntKind.i64 c_Ban, TV.int IntKind.i64 c_Decay], TV.agg [TV.int IntKind.i64 m_Kind, TV.int IntKind.i64 m_Slot, TV.bytes (32 : Nat) m_Target, TV.int IntKind.i64 m_Member, TV.int IntKind.u64 m_Body, TV.slice m_Bits, TV.bytes (16 : Nat) m_Tag], TV.int IntKind.i64 turn] h R) ▸ H)


end Go.Proofs.Ytgdhddignbkloaa
