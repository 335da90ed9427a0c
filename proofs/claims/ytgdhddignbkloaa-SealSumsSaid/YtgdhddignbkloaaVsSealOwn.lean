/- The conditions of functions, as the generator reckons them out, each with the proof that it is that. -/
import Derived.Test.YtgdhddignbkloaaCtx
namespace Go.Proofs.Ytgdhddignbkloaa
open Go Go.Vc
set_option maxRecDepth 100000
set_option linter.unusedVariables false

def tollerlaw08_SealOwn_vc (c_Validators : Sl) (c_Epoch : Int) (c_Committee : Int) (c_Nodes : Int) (c_Orphans : Int) (c_Early : Int) (c_Quota : Int) (c_Peers : Int) (c_Bytes : Int) (c_Window : Int) (c_Ban : Int) (c_Decay : Int) (m_Kind : Int) (m_Slot : Int) (m_Target : Bs (32 : Nat)) (m_Member : Int) (m_Body : Int) (m_Bits : Sl) (m_Tag : Bs (16 : Nat)) (t : Bs (16 : Nat)) (h : Heap) (R : Value → Heap → Prop) : Prop :=
 Vc.Bind
 (newTV h
 (TV.agg
 [TV.slice c_Validators, TV.int IntKind.i64 c_Epoch, TV.int IntKind.i64 c_Committee, TV.int IntKind.i64 c_Nodes, TV.int IntKind.i64 c_Orphans,
 TV.int IntKind.i64 c_Early, TV.int IntKind.i64 c_Quota, TV.int IntKind.i64 c_Peers, TV.int IntKind.i64 c_Bytes, TV.int IntKind.i64 c_Window,
 TV.int IntKind.i64 c_Ban, TV.int IntKind.i64 c_Decay])
 (24 : Nat))
 fun (h_1 : Array Obj) ↦
 Vc.Bind
 (newTV h_1
 (TV.agg
 [TV.int IntKind.i64 m_Kind, TV.int IntKind.i64 m_Slot, TV.bytes (32 : Nat) m_Target, TV.int IntKind.i64 m_Member, TV.int IntKind.u64 m_Body,
 TV.slice m_Bits, TV.bytes (16 : Nat) m_Tag])
 (32 : Nat))
 fun (h_2 : Array Obj) ↦
 Vc.Bind (newTV h_2 (TV.bytes (16 : Nat) t) (30 : Nat)) fun (h_3 : Array Obj) ↦
 CallsH Try.prog (9 : Nat) (TVs.vals []) h_3 fun (v : Value) (h_4 : Array Obj) ↦
 ∃ (b : Bool),
 v = TV.val (TV.bool b) ∧
 If (!b) (R (TV.val (TV.bool false)) h_4)
 (∃ (s : Sl),
 ∃ (n : Int),
 ∃ (n_1 : Int),
 ∃ (n_2 : Int),
 ∃ (n_3 : Int),
 ∃ (n_4 : Int),
 ∃ (n_5 : Int),
 ∃ (n_6 : Int),
 ∃ (n_7 : Int),
 ∃ (n_8 : Int),
 ∃ (n_9 : Int),
 ∃ (n_10 : Int),
 (at1 h_4 (Array.size h) (0 : Nat) (slVal s) ∧
 at1 h_4 (Array.size h) (1 : Nat) (Value.int IntKind.i64 n) ∧
 at1 h_4 (Array.size h) (2 : Nat) (Value.int IntKind.i64 n_1) ∧
 at1 h_4 (Array.size h) (3 : Nat) (Value.int IntKind.i64 n_2) ∧
 at1 h_4 (Array.size h) (4 : Nat) (Value.int IntKind.i64 n_3) ∧
 at1 h_4 (Array.size h) (5 : Nat) (Value.int IntKind.i64 n_4) ∧
 at1 h_4 (Array.size h) (6 : Nat) (Value.int IntKind.i64 n_5) ∧
 at1 h_4 (Array.size h) (7 : Nat) (Value.int IntKind.i64 n_6) ∧
 at1 h_4 (Array.size h) (8 : Nat) (Value.int IntKind.i64 n_7) ∧
 at1 h_4 (Array.size h) (9 : Nat) (Value.int IntKind.i64 n_8) ∧
 at1 h_4 (Array.size h) (10 : Nat) (Value.int IntKind.i64 n_9) ∧
 at1 h_4 (Array.size h) (11 : Nat) (Value.int IntKind.i64 n_10)) ∧
 ∃ (n_11 : Int),
 ∃ (n_12 : Int),
 ∃ (b : Bs (32 : Nat)),
 ∃ (n_13 : Int),
 ∃ (n_14 : Int),
 ∃ (s_1 : Sl),
 ∃ (b_1 : Bs (16 : Nat)),
 (at1 h_4 (Array.size h_1) (0 : Nat) (Value.int IntKind.i64 n_11) ∧
 at1 h_4 (Array.size h_1) (1 : Nat) (Value.int IntKind.i64 n_12) ∧
 atBytes h_4 (Array.size h_1) (2 : Nat) (32 : Nat) b ∧
 at1 h_4 (Array.size h_1) (34 : Nat) (Value.int IntKind.i64 n_13) ∧
 at1 h_4 (Array.size h_1) (35 : Nat) (Value.int IntKind.u64 n_14) ∧
 at1 h_4 (Array.size h_1) (36 : Nat) (slVal s_1) ∧
 atBytes h_4 (Array.size h_1) (37 : Nat) (16 : Nat) b_1) ∧
 CallsH Try.prog (10 : Nat)
 (TVs.vals
 [TV.agg
 [TV.slice s, TV.int IntKind.i64 n, TV.int IntKind.i64 n_1, TV.int IntKind.i64 n_2,
 TV.int IntKind.i64 n_3, TV.int IntKind.i64 n_4, TV.int IntKind.i64 n_5,
 TV.int IntKind.i64 n_6, TV.int IntKind.i64 n_7, TV.int IntKind.i64 n_8,
 TV.int IntKind.i64 n_9, TV.int IntKind.i64 n_10],
 TV.agg
 [TV.int IntKind.i64 n_11, TV.int IntKind.i64 n_12, TV.bytes (32 : Nat) b,
 TV.int IntKind.i64 n_13, TV.int IntKind.u64 n_14, TV.slice s_1, TV.bytes (16 : Nat) b_1]])
 h_4 fun (v : Value) (h_5 : Array Obj) ↦
 ∃ (b : Bool),
 v = TV.val (TV.bool b) ∧
 If b (R (TV.val (TV.bool true)) h_5)
 (∃ (n : Int),
 ∃ (n_15 : Int),
 ∃ (b : Bs (32 : Nat)),
 ∃ (n_16 : Int),
 ∃ (n_17 : Int),
 ∃ (s : Sl),
 ∃ (b_2 : Bs (16 : Nat)),
 (at1 h_5 (Array.size h_1) (0 : Nat) (Value.int IntKind.i64 n) ∧
 at1 h_5 (Array.size h_1) (1 : Nat) (Value.int IntKind.i64 n_15) ∧
 atBytes h_5 (Array.size h_1) (2 : Nat) (32 : Nat) b ∧
 at1 h_5 (Array.size h_1) (34 : Nat) (Value.int IntKind.i64 n_16) ∧
 at1 h_5 (Array.size h_1) (35 : Nat) (Value.int IntKind.u64 n_17) ∧
 at1 h_5 (Array.size h_1) (36 : Nat) (slVal s) ∧
 atBytes h_5 (Array.size h_1) (37 : Nat) (16 : Nat) b_2) ∧
 Vc.Bind
 (newTV h_5
 (TV.agg
 [TV.int IntKind.i64 (0 : Int), TV.int IntKind.i64 (0 : Int),
 TV.bytes (32 : Nat) (Bs.zero (32 : Nat)), TV.int IntKind.i64 (0 : Int),
 TV.int IntKind.u64 (0 : Int), TV.slice Sl.nil,
 TV.bytes (16 : Nat) (Bs.zero (16 : Nat))])
 (32 : Nat))
 fun (h_6 : Array Obj) ↦
 wok h_6 (Array.size h_5) (0 : Nat) (53 : Nat) ∧
 Vc.Bind
 (TV.put h_6 (Array.size h_5) (0 : Nat)
 (TV.agg
 [TV.int IntKind.i64 n, TV.int IntKind.i64 n_15, TV.bytes (32 : Nat) b,
 TV.int IntKind.i64 n_16, TV.int IntKind.u64 n_17, TV.slice s,
 TV.bytes (16 : Nat) b_2]))
 fun (h_7 : Array Obj) ↦
 ∃ (b : Bs (16 : Nat)),
 atBytes h_7 (Array.size h_2) (0 : Nat) (16 : Nat) b ∧
 wok h_7 (Array.size h_5) (37 : Nat) (16 : Nat) ∧
 Vc.Bind
 (TV.put h_7 (Array.size h_5) (37 : Nat) (TV.bytes (16 : Nat) b))
 fun (h_8 : Array Obj) ↦
 ∃ (s : Sl),
 ∃ (n : Int),
 ∃ (n_18 : Int),
 ∃ (n_19 : Int),
 ∃ (n_20 : Int),
 ∃ (n_21 : Int),
 ∃ (n_22 : Int),
 ∃ (n_23 : Int),
 ∃ (n_24 : Int),
 ∃ (n_25 : Int),
 ∃ (n_26 : Int),
 ∃ (n_27 : Int),
 (at1 h_8 (Array.size h) (0 : Nat)
 (slVal s) ∧
 at1 h_8 (Array.size h) (1 : Nat)
 (Value.int IntKind.i64 n) ∧
 at1 h_8 (Array.size h) (2 : Nat)
 (Value.int IntKind.i64 n_18) ∧
 at1 h_8 (Array.size h) (3 : Nat)
 (Value.int IntKind.i64 n_19) ∧
 at1 h_8 (Array.size h) (4 : Nat)
 (Value.int IntKind.i64
 n_20) ∧
 at1 h_8 (Array.size h)
 (5 : Nat)
 (Value.int IntKind.i64
 n_21) ∧
 at1 h_8 (Array.size h)
 (6 : Nat)
 (Value.int IntKind.i64
 n_22) ∧
 at1 h_8 (Array.size h)
 (7 : Nat)
 (Value.int IntKind.i64
 n_23) ∧
 at1 h_8 (Array.size h)
 (8 : Nat)
 (Value.int
 IntKind.i64
 n_24) ∧
 at1 h_8 (Array.size h)
 (9 : Nat)
 (Value.int
 IntKind.i64
 n_25) ∧
 at1 h_8
 (Array.size h)
 (10 : Nat)
 (Value.int
 IntKind.i64
 n_26) ∧
 at1 h_8
 (Array.size h)
 (11 : Nat)
 (Value.int
 IntKind.i64
 n_27)) ∧
 ∃ (n_28 : Int),
 ∃ (n_29 : Int),
 ∃ (b : Bs (32 : Nat)),
 ∃ (n_30 : Int),
 ∃ (n_31 : Int),
 ∃ (s_2 : Sl),
 ∃ (b_3 : Bs (16 : Nat)),
 (at1 h_8 (Array.size h_1)
 (0 : Nat)
 (Value.int
 IntKind.i64
 n_28) ∧
 at1 h_8
 (Array.size h_1)
 (1 : Nat)
 (Value.int
 IntKind.i64
 n_29) ∧
 atBytes h_8
 (Array.size h_1)
 (2 : Nat)
 (32 : Nat) b ∧
 at1 h_8
 (Array.size
 h_1)
 (34 : Nat)
 (Value.int
 IntKind.i64
 n_30) ∧
 at1 h_8
 (Array.size
 h_1)
 (35 : Nat)
 (Value.int
 IntKind.u64
 n_31) ∧
 at1 h_8
 (Array.size
 h_1)
 (36 : Nat)
 (slVal
 s_2) ∧
 atBytes h_8
 (Array.size
 h_1)
 (37 : Nat)
 (16 : Nat)
 b_3) ∧
 CallsH Try.prog
 (11 : Nat)
 (TVs.vals
 [TV.agg
 [TV.slice s,
 TV.int
 IntKind.i64
 n,
 TV.int
 IntKind.i64
 n_18,
 TV.int
 IntKind.i64
 n_19,
 TV.int
 IntKind.i64
 n_20,
 TV.int
 IntKind.i64
 n_21,
 TV.int
 IntKind.i64
 n_22,
 TV.int
 IntKind.i64
 n_23,
 TV.int
 IntKind.i64
 n_24,
 TV.int
 IntKind.i64
 n_25,
 TV.int
 IntKind.i64
 n_26,
 TV.int
 IntKind.i64
 n_27],
 TV.agg
 [TV.int
 IntKind.i64
 n_28,
 TV.int
 IntKind.i64
 n_29,
 TV.bytes
 (32 : Nat)
 b,
 TV.int
 IntKind.i64
 n_30,
 TV.int
 IntKind.u64
 n_31,
 TV.slice s_2,
 TV.bytes
 (16 : Nat)
 b_3]])
 h_8
 fun (v : Value)
 (h_9 : Array Obj) ↦
 ∃ (b : Bs (16 : Nat)),
 ∃ (b_4 : Bool),
 v =
 TV.val
 (TV.tup
 [TV.bytes
 (16 :
 Nat)
 b,
 TV.bool
 b_4]) ∧
 Vc.Bind
 (newTV h_9
 (TV.bytes
 (16 : Nat)
 (Bs.zero
 (16 :
 Nat)))
 (30 : Nat))
 fun
 (h_10 :
 Array
 Obj) ↦
 wok h_10
 (Array.size
 h_9)
 (0 : Nat)
 (16 :
 Nat) ∧
 Vc.Bind
 (TV.put
 h_10
 (Array.size
 h_9)
 (0 :
 Nat)
 (TV.bytes
 (16 :
 Nat)
 b))
 fun
 (h_11 :
 Array
 Obj) ↦
 ∃ (s :
 Sl),
 ∃ (n :
 Int),
 ∃
 (n_32
 :
 Int),
 ∃
 (n_33
 :
 Int),
 ∃
 (n_34
 :
 Int),
 ∃
 (n_35
 :
 Int),
 ∃
 (n_36
 :
 Int),
 ∃
 (n_37
 :
 Int),
 ∃
 (n_38
 :
 Int),
 ∃
 (n_39
 :
 Int),
 ∃
 (n_40
 :
 Int),
 ∃
 (n_41
 :
 Int),
 (at1
 h_11
 (Array.size
 h)
 (0 :
 Nat)
 (slVal
 s) ∧
 at1
 h_11
 (Array.size
 h)
 (1 :
 Nat)
 (Value.int
 IntKind.i64
 n) ∧
 at1
 h_11
 (Array.size
 h)
 (2 :
 Nat)
 (Value.int
 IntKind.i64
 n_32) ∧
 at1
 h_11
 (Array.size
 h)
 (3 :
 Nat)
 (Value.int
 IntKind.i64
 n_33) ∧
 at1
 h_11
 (Array.size
 h)
 (4 :
 Nat)
 (Value.int
 IntKind.i64
 n_34) ∧
 at1
 h_11
 (Array.size
 h)
 (5 :
 Nat)
 (Value.int
 IntKind.i64
 n_35) ∧
 at1
 h_11
 (Array.size
 h)
 (6 :
 Nat)
 (Value.int
 IntKind.i64
 n_36) ∧
 at1
 h_11
 (Array.size
 h)
 (7 :
 Nat)
 (Value.int
 IntKind.i64
 n_37) ∧
 at1
 h_11
 (Array.size
 h)
 (8 :
 Nat)
 (Value.int
 IntKind.i64
 n_38) ∧
 at1
 h_11
 (Array.size
 h)
 (9 :
 Nat)
 (Value.int
 IntKind.i64
 n_39) ∧
 at1
 h_11
 (Array.size
 h)
 (10 :
 Nat)
 (Value.int
 IntKind.i64
 n_40) ∧
 at1
 h_11
 (Array.size
 h)
 (11 :
 Nat)
 (Value.int
 IntKind.i64
 n_41)) ∧
 ∃
 (n_42
 :
 Int),
 ∃
 (n_43
 :
 Int),
 ∃
 (b
 :
 Bs
 (32 :
 Nat)),
 ∃
 (n_44
 :
 Int),
 ∃
 (n_45
 :
 Int),
 ∃
 (s_3
 :
 Sl),
 ∃
 (b_5
 :
 Bs
 (16 :
 Nat)),
 (at1
 h_11
 (Array.size
 h_5)
 (0 :
 Nat)
 (Value.int
 IntKind.i64
 n_42) ∧
 at1
 h_11
 (Array.size
 h_5)
 (1 :
 Nat)
 (Value.int
 IntKind.i64
 n_43) ∧
 atBytes
 h_11
 (Array.size
 h_5)
 (2 :
 Nat)
 (32 :
 Nat)
 b ∧
 at1
 h_11
 (Array.size
 h_5)
 (34 :
 Nat)
 (Value.int
 IntKind.i64
 n_44) ∧
 at1
 h_11
 (Array.size
 h_5)
 (35 :
 Nat)
 (Value.int
 IntKind.u64
 n_45) ∧
 at1
 h_11
 (Array.size
 h_5)
 (36 :
 Nat)
 (slVal
 s_3) ∧
 atBytes
 h_11
 (Array.size
 h_5)
 (37 :
 Nat)
 (16 :
 Nat)
 b_5) ∧
 CallsH
 Try.prog
 (11 :
 Nat)
 (TVs.vals
 [TV.agg
 [TV.slice
 s,
 TV.int
 IntKind.i64
 n,
 TV.int
 IntKind.i64
 n_32,
 TV.int
 IntKind.i64
 n_33,
 TV.int
 IntKind.i64
 n_34,
 TV.int
 IntKind.i64
 n_35,
 TV.int
 IntKind.i64
 n_36,
 TV.int
 IntKind.i64
 n_37,
 TV.int
 IntKind.i64
 n_38,
 TV.int
 IntKind.i64
 n_39,
 TV.int
 IntKind.i64
 n_40,
 TV.int
 IntKind.i64
 n_41],
 TV.agg
 [TV.int
 IntKind.i64
 n_42,
 TV.int
 IntKind.i64
 n_43,
 TV.bytes
 (32 :
 Nat)
 b,
 TV.int
 IntKind.i64
 n_44,
 TV.int
 IntKind.u64
 n_45,
 TV.slice
 s_3,
 TV.bytes
 (16 :
 Nat)
 b_5]])
 h_11
 fun
 (v :
 Value)
 (h_12 :
 Array
 Obj) ↦
 ∃
 (b
 :
 Bs
 (16 :
 Nat)),
 ∃
 (b_6
 :
 Bool),
 v =
 TV.val
 (TV.tup
 [TV.bytes
 (16 :
 Nat)
 b,
 TV.bool
 b_6]) ∧
 Vc.Bind
 (newTV
 h_12
 (TV.bytes
 (16 :
 Nat)
 (Bs.zero
 (16 :
 Nat)))
 (30 :
 Nat))
 fun
 (h_13 :
 Array
 Obj) ↦
 wok
 h_13
 (Array.size
 h_12)
 (0 :
 Nat)
 (16 :
 Nat) ∧
 Vc.Bind
 (TV.put
 h_13
 (Array.size
 h_12)
 (0 :
 Nat)
 (TV.bytes
 (16 :
 Nat)
 b))
 fun
 (h_14 :
 Array
 Obj) ↦
 ∃
 (s
 :
 Sl),
 ∃
 (n
 :
 Int),
 ∃
 (n_46
 :
 Int),
 ∃
 (n_47
 :
 Int),
 ∃
 (n_48
 :
 Int),
 ∃
 (n_49
 :
 Int),
 ∃
 (n_50
 :
 Int),
 ∃
 (n_51
 :
 Int),
 ∃
 (n_52
 :
 Int),
 ∃
 (n_53
 :
 Int),
 ∃
 (n_54
 :
 Int),
 ∃
 (n_55
 :
 Int),
 (at1
 h_14
 (Array.size
 h)
 (0 :
 Nat)
 (slVal
 s) ∧
 at1
 h_14
 (Array.size
 h)
 (1 :
 Nat)
 (Value.int
 IntKind.i64
 n) ∧
 at1
 h_14
 (Array.size
 h)
 (2 :
 Nat)
 (Value.int
 IntKind.i64
 n_46) ∧
 at1
 h_14
 (Array.size
 h)
 (3 :
 Nat)
 (Value.int
 IntKind.i64
 n_47) ∧
 at1
 h_14
 (Array.size
 h)
 (4 :
 Nat)
 (Value.int
 IntKind.i64
 n_48) ∧
 at1
 h_14
 (Array.size
 h)
 (5 :
 Nat)
 (Value.int
 IntKind.i64
 n_49) ∧
 at1
 h_14
 (Array.size
 h)
 (6 :
 Nat)
 (Value.int
 IntKind.i64
 n_50) ∧
 at1
 h_14
 (Array.size
 h)
 (7 :
 Nat)
 (Value.int
 IntKind.i64
 n_51) ∧
 at1
 h_14
 (Array.size
 h)
 (8 :
 Nat)
 (Value.int
 IntKind.i64
 n_52) ∧
 at1
 h_14
 (Array.size
 h)
 (9 :
 Nat)
 (Value.int
 IntKind.i64
 n_53) ∧
 at1
 h_14
 (Array.size
 h)
 (10 :
 Nat)
 (Value.int
 IntKind.i64
 n_54) ∧
 at1
 h_14
 (Array.size
 h)
 (11 :
 Nat)
 (Value.int
 IntKind.i64
 n_55)) ∧
 ∃
 (n_56
 :
 Int),
 ∃
 (n_57
 :
 Int),
 ∃
 (b
 :
 Bs
 (32 :
 Nat)),
 ∃
 (n_58
 :
 Int),
 ∃
 (n_59
 :
 Int),
 ∃
 (s_4
 :
 Sl),
 ∃
 (b_7
 :
 Bs
 (16 :
 Nat)),
 (at1
 h_14
 (Array.size
 h_1)
 (0 :
 Nat)
 (Value.int
 IntKind.i64
 n_56) ∧
 at1
 h_14
 (Array.size
 h_1)
 (1 :
 Nat)
 (Value.int
 IntKind.i64
 n_57) ∧
 atBytes
 h_14
 (Array.size
 h_1)
 (2 :
 Nat)
 (32 :
 Nat)
 b ∧
 at1
 h_14
 (Array.size
 h_1)
 (34 :
 Nat)
 (Value.int
 IntKind.i64
 n_58) ∧
 at1
 h_14
 (Array.size
 h_1)
 (35 :
 Nat)
 (Value.int
 IntKind.u64
 n_59) ∧
 at1
 h_14
 (Array.size
 h_1)
 (36 :
 Nat)
 (slVal
 s_4) ∧
 atBytes
 h_14
 (Array.size
 h_1)
 (37 :
 Nat)
 (16 :
 Nat)
 b_7) ∧
 CallsH
 Try.prog
 (14 :
 Nat)
 (TVs.vals
 [TV.agg
 [TV.slice
 s,
 TV.int
 IntKind.i64
 n,
 TV.int
 IntKind.i64
 n_46,
 TV.int
 IntKind.i64
 n_47,
 TV.int
 IntKind.i64
 n_48,
 TV.int
 IntKind.i64
 n_49,
 TV.int
 IntKind.i64
 n_50,
 TV.int
 IntKind.i64
 n_51,
 TV.int
 IntKind.i64
 n_52,
 TV.int
 IntKind.i64
 n_53,
 TV.int
 IntKind.i64
 n_54,
 TV.int
 IntKind.i64
 n_55],
 TV.agg
 [TV.int
 IntKind.i64
 n_56,
 TV.int
 IntKind.i64
 n_57,
 TV.bytes
 (32 :
 Nat)
 b,
 TV.int
 IntKind.i64
 n_58,
 TV.int
 IntKind.u64
 n_59,
 TV.slice
 s_4,
 TV.bytes
 (16 :
 Nat)
 b_7]])
 h_14
 fun
 (v :
 Value)
 (h_15 :
 Array
 Obj) ↦
 ∃
 (s
 :
 Sl),
 ∃
 (b
 :
 Bool),
 v =
 TV.val
 (TV.tup
 [TV.slice
 s,
 TV.bool
 b]) ∧
 ∃
 (s_5
 :
 Sl),
 ∃
 (n
 :
 Int),
 ∃
 (n_60
 :
 Int),
 ∃
 (n_61
 :
 Int),
 ∃
 (n_62
 :
 Int),
 ∃
 (n_63
 :
 Int),
 ∃
 (n_64
 :
 Int),
 ∃
 (n_65
 :
 Int),
 ∃
 (n_66
 :
 Int),
 ∃
 (n_67
 :
 Int),
 ∃
 (n_68
 :
 Int),
 ∃
 (n_69
 :
 Int),
 (at1
 h_15
 (Array.size
 h)
 (0 :
 Nat)
 (slVal
 s_5) ∧
 at1
 h_15
 (Array.size
 h)
 (1 :
 Nat)
 (Value.int
 IntKind.i64
 n) ∧
 at1
 h_15
 (Array.size
 h)
 (2 :
 Nat)
 (Value.int
 IntKind.i64
 n_60) ∧
 at1
 h_15
 (Array.size
 h)
 (3 :
 Nat)
 (Value.int
 IntKind.i64
 n_61) ∧
 at1
 h_15
 (Array.size
 h)
 (4 :
 Nat)
 (Value.int
 IntKind.i64
 n_62) ∧
 at1
 h_15
 (Array.size
 h)
 (5 :
 Nat)
 (Value.int
 IntKind.i64
 n_63) ∧
 at1
 h_15
 (Array.size
 h)
 (6 :
 Nat)
 (Value.int
 IntKind.i64
 n_64) ∧
 at1
 h_15
 (Array.size
 h)
 (7 :
 Nat)
 (Value.int
 IntKind.i64
 n_65) ∧
 at1
 h_15
 (Array.size
 h)
 (8 :
 Nat)
 (Value.int
 IntKind.i64
 n_66) ∧
 at1
 h_15
 (Array.size
 h)
 (9 :
 Nat)
 (Value.int
 IntKind.i64
 n_67) ∧
 at1
 h_15
 (Array.size
 h)
 (10 :
 Nat)
 (Value.int
 IntKind.i64
 n_68) ∧
 at1
 h_15
 (Array.size
 h)
 (11 :
 Nat)
 (Value.int
 IntKind.i64
 n_69)) ∧
 ∃
 (n_70
 :
 Int),
 ∃
 (n_71
 :
 Int),
 ∃
 (b_8
 :
 Bs
 (32 :
 Nat)),
 ∃
 (n_72
 :
 Int),
 ∃
 (n_73
 :
 Int),
 ∃
 (s_6
 :
 Sl),
 ∃
 (b_9
 :
 Bs
 (16 :
 Nat)),
 (at1
 h_15
 (Array.size
 h_5)
 (0 :
 Nat)
 (Value.int
 IntKind.i64
 n_70) ∧
 at1
 h_15
 (Array.size
 h_5)
 (1 :
 Nat)
 (Value.int
 IntKind.i64
 n_71) ∧
 atBytes
 h_15
 (Array.size
 h_5)
 (2 :
 Nat)
 (32 :
 Nat)
 b_8 ∧
 at1
 h_15
 (Array.size
 h_5)
 (34 :
 Nat)
 (Value.int
 IntKind.i64
 n_72) ∧
 at1
 h_15
 (Array.size
 h_5)
 (35 :
 Nat)
 (Value.int
 IntKind.u64
 n_73) ∧
 at1
 h_15
 (Array.size
 h_5)
 (36 :
 Nat)
 (slVal
 s_6) ∧
 atBytes
 h_15
 (Array.size
 h_5)
 (37 :
 Nat)
 (16 :
 Nat)
 b_9) ∧
 CallsH
 Try.prog
 (14 :
 Nat)
 (TVs.vals
 [TV.agg
 [TV.slice
 s_5,
 TV.int
 IntKind.i64
 n,
 TV.int
 IntKind.i64
 n_60,
 TV.int
 IntKind.i64
 n_61,
 TV.int
 IntKind.i64
 n_62,
 TV.int
 IntKind.i64
 n_63,
 TV.int
 IntKind.i64
 n_64,
 TV.int
 IntKind.i64
 n_65,
 TV.int
 IntKind.i64
 n_66,
 TV.int
 IntKind.i64
 n_67,
 TV.int
 IntKind.i64
 n_68,
 TV.int
 IntKind.i64
 n_69],
 TV.agg
 [TV.int
 IntKind.i64
 n_70,
 TV.int
 IntKind.i64
 n_71,
 TV.bytes
 (32 :
 Nat)
 b_8,
 TV.int
 IntKind.i64
 n_72,
 TV.int
 IntKind.u64
 n_73,
 TV.slice
 s_6,
 TV.bytes
 (16 :
 Nat)
 b_9]])
 h_15
 fun
 (v :
 Value)
 (h_16 :
 Array
 Obj) ↦
 ∃
 (s_7
 :
 Sl),
 ∃
 (b_10
 :
 Bool),
 v =
 TV.val
 (TV.tup
 [TV.slice
 s_7,
 TV.bool
 b_10]) ∧
 ∃
 (b_11
 :
 Bs
 (16 :
 Nat)),
 atBytes
 h_16
 (Array.size
 h_9)
 (0 :
 Nat)
 (16 :
 Nat)
 b_11 ∧
 ∃
 (b_12
 :
 Bs
 (16 :
 Nat)),
 atBytes
 h_16
 (Array.size
 h_12)
 (0 :
 Nat)
 (16 :
 Nat)
 b_12 ∧
 If
 (decide
 (b_11.l =
 b_12.l))
 (If
 (b_4 ==
 b_6)
 (If
 (b ==
 b_10)
 (If
 (b_4 ==
 b)
 (CallsH
 Try.prog
 (15 :
 Nat)
 (TVs.vals
 [TV.slice
 s,
 TV.slice
 s_7])
 h_16
 fun
 (v :
 Value)
 (h_17 :
 Array
 Obj) ↦
 ∃
 (b
 :
 Bool),
 v =
 TV.val
 (TV.bool
 b) ∧
 If
 b
 (∃
 (s
 :
 Sl),
 ∃
 (n
 :
 Int),
 ∃
 (n_74
 :
 Int),
 ∃
 (n_75
 :
 Int),
 ∃
 (n_76
 :
 Int),
 ∃
 (n_77
 :
 Int),
 ∃
 (n_78
 :
 Int),
 ∃
 (n_79
 :
 Int),
 ∃
 (n_80
 :
 Int),
 ∃
 (n_81
 :
 Int),
 ∃
 (n_82
 :
 Int),
 ∃
 (n_83
 :
 Int),
 (at1
 h_17
 (Array.size
 h)
 (0 :
 Nat)
 (slVal
 s) ∧
 at1
 h_17
 (Array.size
 h)
 (1 :
 Nat)
 (Value.int
 IntKind.i64
 n) ∧
 at1
 h_17
 (Array.size
 h)
 (2 :
 Nat)
 (Value.int
 IntKind.i64
 n_74) ∧
 at1
 h_17
 (Array.size
 h)
 (3 :
 Nat)
 (Value.int
 IntKind.i64
 n_75) ∧
 at1
 h_17
 (Array.size
 h)
 (4 :
 Nat)
 (Value.int
 IntKind.i64
 n_76) ∧
 at1
 h_17
 (Array.size
 h)
 (5 :
 Nat)
 (Value.int
 IntKind.i64
 n_77) ∧
 at1
 h_17
 (Array.size
 h)
 (6 :
 Nat)
 (Value.int
 IntKind.i64
 n_78) ∧
 at1
 h_17
 (Array.size
 h)
 (7 :
 Nat)
 (Value.int
 IntKind.i64
 n_79) ∧
 at1
 h_17
 (Array.size
 h)
 (8 :
 Nat)
 (Value.int
 IntKind.i64
 n_80) ∧
 at1
 h_17
 (Array.size
 h)
 (9 :
 Nat)
 (Value.int
 IntKind.i64
 n_81) ∧
 at1
 h_17
 (Array.size
 h)
 (10 :
 Nat)
 (Value.int
 IntKind.i64
 n_82) ∧
 at1
 h_17
 (Array.size
 h)
 (11 :
 Nat)
 (Value.int
 IntKind.i64
 n_83)) ∧
 ∃
 (n_84
 :
 Int),
 ∃
 (n_85
 :
 Int),
 ∃
 (b
 :
 Bs
 (32 :
 Nat)),
 ∃
 (n_86
 :
 Int),
 ∃
 (n_87
 :
 Int),
 ∃
 (s_8
 :
 Sl),
 ∃
 (b_13
 :
 Bs
 (16 :
 Nat)),
 (at1
 h_17
 (Array.size
 h_1)
 (0 :
 Nat)
 (Value.int
 IntKind.i64
 n_84) ∧
 at1
 h_17
 (Array.size
 h_1)
 (1 :
 Nat)
 (Value.int
 IntKind.i64
 n_85) ∧
 atBytes
 h_17
 (Array.size
 h_1)
 (2 :
 Nat)
 (32 :
 Nat)
 b ∧
 at1
 h_17
 (Array.size
 h_1)
 (34 :
 Nat)
 (Value.int
 IntKind.i64
 n_86) ∧
 at1
 h_17
 (Array.size
 h_1)
 (35 :
 Nat)
 (Value.int
 IntKind.u64
 n_87) ∧
 at1
 h_17
 (Array.size
 h_1)
 (36 :
 Nat)
 (slVal
 s_8) ∧
 atBytes
 h_17
 (Array.size
 h_1)
 (37 :
 Nat)
 (16 :
 Nat)
 b_13) ∧
 ∃
 (s_9
 :
 Sl),
 ∃
 (n_88
 :
 Int),
 ∃
 (n_89
 :
 Int),
 ∃
 (n_90
 :
 Int),
 ∃
 (n_91
 :
 Int),
 ∃
 (n_92
 :
 Int),
 ∃
 (n_93
 :
 Int),
 ∃
 (n_94
 :
 Int),
 ∃
 (n_95
 :
 Int),
 ∃
 (n_96
 :
 Int),
 ∃
 (n_97
 :
 Int),
 ∃
 (n_98
 :
 Int),
 (at1
 h_17
 (Array.size
 h)
 (0 :
 Nat)
 (slVal
 s_9) ∧
 at1
 h_17
 (Array.size
 h)
 (1 :
 Nat)
 (Value.int
 IntKind.i64
 n_88) ∧
 at1
 h_17
 (Array.size
 h)
 (2 :
 Nat)
 (Value.int
 IntKind.i64
 n_89) ∧
 at1
 h_17
 (Array.size
 h)
 (3 :
 Nat)
 (Value.int
 IntKind.i64
 n_90) ∧
 at1
 h_17
 (Array.size
 h)
 (4 :
 Nat)
 (Value.int
 IntKind.i64
 n_91) ∧
 at1
 h_17
 (Array.size
 h)
 (5 :
 Nat)
 (Value.int
 IntKind.i64
 n_92) ∧
 at1
 h_17
 (Array.size
 h)
 (6 :
 Nat)
 (Value.int
 IntKind.i64
 n_93) ∧
 at1
 h_17
 (Array.size
 h)
 (7 :
 Nat)
 (Value.int
 IntKind.i64
 n_94) ∧
 at1
 h_17
 (Array.size
 h)
 (8 :
 Nat)
 (Value.int
 IntKind.i64
 n_95) ∧
 at1
 h_17
 (Array.size
 h)
 (9 :
 Nat)
 (Value.int
 IntKind.i64
 n_96) ∧
 at1
 h_17
 (Array.size
 h)
 (10 :
 Nat)
 (Value.int
 IntKind.i64
 n_97) ∧
 at1
 h_17
 (Array.size
 h)
 (11 :
 Nat)
 (Value.int
 IntKind.i64
 n_98)) ∧
 ∃
 (n_99
 :
 Int),
 ∃
 (n_100
 :
 Int),
 ∃
 (b_14
 :
 Bs
 (32 :
 Nat)),
 ∃
 (n_101
 :
 Int),
 ∃
 (n_102
 :
 Int),
 ∃
 (s_10
 :
 Sl),
 ∃
 (b_15
 :
 Bs
 (16 :
 Nat)),
 (at1
 h_17
 (Array.size
 h_5)
 (0 :
 Nat)
 (Value.int
 IntKind.i64
 n_99) ∧
 at1
 h_17
 (Array.size
 h_5)
 (1 :
 Nat)
 (Value.int
 IntKind.i64
 n_100) ∧
 atBytes
 h_17
 (Array.size
 h_5)
 (2 :
 Nat)
 (32 :
 Nat)
 b_14 ∧
 at1
 h_17
 (Array.size
 h_5)
 (34 :
 Nat)
 (Value.int
 IntKind.i64
 n_101) ∧
 at1
 h_17
 (Array.size
 h_5)
 (35 :
 Nat)
 (Value.int
 IntKind.u64
 n_102) ∧
 at1
 h_17
 (Array.size
 h_5)
 (36 :
 Nat)
 (slVal
 s_10) ∧
 atBytes
 h_17
 (Array.size
 h_5)
 (37 :
 Nat)
 (16 :
 Nat)
 b_15) ∧
 CallsH
 Try.prog
 (12 :
 Nat)
 (TVs.vals
 [TV.agg
 [TV.slice
 s,
 TV.int
 IntKind.i64
 n,
 TV.int
 IntKind.i64
 n_74,
 TV.int
 IntKind.i64
 n_75,
 TV.int
 IntKind.i64
 n_76,
 TV.int
 IntKind.i64
 n_77,
 TV.int
 IntKind.i64
 n_78,
 TV.int
 IntKind.i64
 n_79,
 TV.int
 IntKind.i64
 n_80,
 TV.int
 IntKind.i64
 n_81,
 TV.int
 IntKind.i64
 n_82,
 TV.int
 IntKind.i64
 n_83],
 TV.agg
 [TV.int
 IntKind.i64
 n_84,
 TV.int
 IntKind.i64
 n_85,
 TV.bytes
 (32 :
 Nat)
 b,
 TV.int
 IntKind.i64
 n_86,
 TV.int
 IntKind.u64
 n_87,
 TV.slice
 s_8,
 TV.bytes
 (16 :
 Nat)
 b_13]])
 h_17
 fun
 (v :
 Value)
 (h_18 :
 Array
 Obj) ↦
 ∃
 (s
 :
 Sl),
 v =
 TV.val
 (TV.slice
 s) ∧
 Ext
 h_17
 h_18 ∧
 CallsH
 Try.prog
 (12 :
 Nat)
 (TVs.vals
 [TV.agg
 [TV.slice
 s_9,
 TV.int
 IntKind.i64
 n_88,
 TV.int
 IntKind.i64
 n_89,
 TV.int
 IntKind.i64
 n_90,
 TV.int
 IntKind.i64
 n_91,
 TV.int
 IntKind.i64
 n_92,
 TV.int
 IntKind.i64
 n_93,
 TV.int
 IntKind.i64
 n_94,
 TV.int
 IntKind.i64
 n_95,
 TV.int
 IntKind.i64
 n_96,
 TV.int
 IntKind.i64
 n_97,
 TV.int
 IntKind.i64
 n_98],
 TV.agg
 [TV.int
 IntKind.i64
 n_99,
 TV.int
 IntKind.i64
 n_100,
 TV.bytes
 (32 :
 Nat)
 b_14,
 TV.int
 IntKind.i64
 n_101,
 TV.int
 IntKind.u64
 n_102,
 TV.slice
 s_10,
 TV.bytes
 (16 :
 Nat)
 b_15]])
 h_18
 fun
 (v :
 Value)
 (h_19 :
 Array
 Obj) ↦
 ∃
 (s_11
 :
 Sl),
 v =
 TV.val
 (TV.slice
 s_11) ∧
 CallsH
 Try.prog
 (16 :
 Nat)
 (TVs.vals
 [TV.slice
 s,
 TV.slice
 s_11])
 h_19
 fun
 (v :
 Value)
 (h_20 :
 Array
 Obj) ↦
 ∃
 (b
 :
 Bool),
 v =
 TV.val
 (TV.bool
 b) ∧
 If
 b
 (∃
 (s
 :
 Sl),
 ∃
 (n
 :
 Int),
 ∃
 (n_103
 :
 Int),
 ∃
 (n_104
 :
 Int),
 ∃
 (n_105
 :
 Int),
 ∃
 (n_106
 :
 Int),
 ∃
 (n_107
 :
 Int),
 ∃
 (n_108
 :
 Int),
 ∃
 (n_109
 :
 Int),
 ∃
 (n_110
 :
 Int),
 ∃
 (n_111
 :
 Int),
 ∃
 (n_112
 :
 Int),
 (at1
 h_20
 (Array.size
 h)
 (0 :
 Nat)
 (slVal
 s) ∧
 at1
 h_20
 (Array.size
 h)
 (1 :
 Nat)
 (Value.int
 IntKind.i64
 n) ∧
 at1
 h_20
 (Array.size
 h)
 (2 :
 Nat)
 (Value.int
 IntKind.i64
 n_103) ∧
 at1
 h_20
 (Array.size
 h)
 (3 :
 Nat)
 (Value.int
 IntKind.i64
 n_104) ∧
 at1
 h_20
 (Array.size
 h)
 (4 :
 Nat)
 (Value.int
 IntKind.i64
 n_105) ∧
 at1
 h_20
 (Array.size
 h)
 (5 :
 Nat)
 (Value.int
 IntKind.i64
 n_106) ∧
 at1
 h_20
 (Array.size
 h)
 (6 :
 Nat)
 (Value.int
 IntKind.i64
 n_107) ∧
 at1
 h_20
 (Array.size
 h)
 (7 :
 Nat)
 (Value.int
 IntKind.i64
 n_108) ∧
 at1
 h_20
 (Array.size
 h)
 (8 :
 Nat)
 (Value.int
 IntKind.i64
 n_109) ∧
 at1
 h_20
 (Array.size
 h)
 (9 :
 Nat)
 (Value.int
 IntKind.i64
 n_110) ∧
 at1
 h_20
 (Array.size
 h)
 (10 :
 Nat)
 (Value.int
 IntKind.i64
 n_111) ∧
 at1
 h_20
 (Array.size
 h)
 (11 :
 Nat)
 (Value.int
 IntKind.i64
 n_112)) ∧
 ∃
 (n_113
 :
 Int),
 ∃
 (n_114
 :
 Int),
 ∃
 (b
 :
 Bs
 (32 :
 Nat)),
 ∃
 (n_115
 :
 Int),
 ∃
 (n_116
 :
 Int),
 ∃
 (s_12
 :
 Sl),
 ∃
 (b_16
 :
 Bs
 (16 :
 Nat)),
 (at1
 h_20
 (Array.size
 h_5)
 (0 :
 Nat)
 (Value.int
 IntKind.i64
 n_113) ∧
 at1
 h_20
 (Array.size
 h_5)
 (1 :
 Nat)
 (Value.int
 IntKind.i64
 n_114) ∧
 atBytes
 h_20
 (Array.size
 h_5)
 (2 :
 Nat)
 (32 :
 Nat)
 b ∧
 at1
 h_20
 (Array.size
 h_5)
 (34 :
 Nat)
 (Value.int
 IntKind.i64
 n_115) ∧
 at1
 h_20
 (Array.size
 h_5)
 (35 :
 Nat)
 (Value.int
 IntKind.u64
 n_116) ∧
 at1
 h_20
 (Array.size
 h_5)
 (36 :
 Nat)
 (slVal
 s_12) ∧
 atBytes
 h_20
 (Array.size
 h_5)
 (37 :
 Nat)
 (16 :
 Nat)
 b_16) ∧
 CallsH
 Try.prog
 (17 :
 Nat)
 (TVs.vals
 [TV.agg
 [TV.slice
 s,
 TV.int
 IntKind.i64
 n,
 TV.int
 IntKind.i64
 n_103,
 TV.int
 IntKind.i64
 n_104,
 TV.int
 IntKind.i64
 n_105,
 TV.int
 IntKind.i64
 n_106,
 TV.int
 IntKind.i64
 n_107,
 TV.int
 IntKind.i64
 n_108,
 TV.int
 IntKind.i64
 n_109,
 TV.int
 IntKind.i64
 n_110,
 TV.int
 IntKind.i64
 n_111,
 TV.int
 IntKind.i64
 n_112],
 TV.agg
 [TV.int
 IntKind.i64
 n_113,
 TV.int
 IntKind.i64
 n_114,
 TV.bytes
 (32 :
 Nat)
 b,
 TV.int
 IntKind.i64
 n_115,
 TV.int
 IntKind.u64
 n_116,
 TV.slice
 s_12,
 TV.bytes
 (16 :
 Nat)
 b_16]])
 h_20
 fun
 (v :
 Value)
 (h :
 Array
 Obj) ↦
 ∃
 (b
 :
 Bool),
 v =
 TV.val
 (TV.bool
 b) ∧
 If
 b_4
 (∃
 (b_17
 :
 Bs
 (16 :
 Nat)),
 atBytes
 h
 (Array.size
 h_2)
 (0 :
 Nat)
 (16 :
 Nat)
 b_17 ∧
 ∃
 (b_18
 :
 Bs
 (16 :
 Nat)),
 atBytes
 h
 (Array.size
 h_9)
 (0 :
 Nat)
 (16 :
 Nat)
 b_18 ∧
 R
 (TV.val
 (TV.bool
 (b ==
 decide
 (b_17.l =
 b_18.l))))
 h)
 (R
 (TV.val
 (TV.bool
 (b ==
 false)))
 h))
 (R
 (TV.val
 (TV.bool
 false))
 h_20))
 (R
 (TV.val
 (TV.bool
 false))
 h_17))
 (R
 (TV.val
 (TV.bool
 false))
 h_16))
 (R
 (TV.val
 (TV.bool
 false))
 h_16))
 (R
 (TV.val
 (TV.bool
 false))
 h_16))
 (R
 (TV.val
 (TV.bool
 false))
 h_16)))

theorem tollerlaw08_SealOwn_calls (c_Validators : Sl) (c_Epoch : Int) (c_Committee : Int) (c_Nodes : Int) (c_Orphans : Int) (c_Early : Int) (c_Quota : Int) (c_Peers : Int) (c_Bytes : Int) (c_Window : Int) (c_Ban : Int) (c_Decay : Int) (m_Kind : Int) (m_Slot : Int) (m_Target : Bs (32 : Nat)) (m_Member : Int) (m_Body : Int) (m_Bits : Sl) (m_Tag : Bs (16 : Nat)) (t : Bs (16 : Nat)) (h : Heap) (R : Value → Heap → Prop) (H : tollerlaw08_SealOwn_vc c_Validators c_Epoch c_Committee c_Nodes c_Orphans c_Early c_Quota c_Peers c_Bytes c_Window c_Ban c_Decay m_Kind m_Slot m_Target m_Member m_Body m_Bits m_Tag t h R) : CallsH Try.prog 4 (TVs.vals [TV.agg [TV.slice c_Validators, TV.int IntKind.i64 c_Epoch, TV.int IntKind.i64 c_Committee, TV.int IntKind.i64 c_Nodes, TV.int IntKind.i64 c_Orphans, TV.int IntKind.i64 c_Early, TV.int IntKind.i64 c_Quota, TV.int IntKind.i64 c_Peers, TV.int IntKind.i64 c_Bytes, TV.int IntKind.i64 c_Window, TV.int IntKind.i64 c_Ban, TV.int IntKind.i64 c_Decay], TV.agg [TV.int IntKind.i64 m_Kind, TV.int IntKind.i64 m_Slot, TV.bytes (32 : Nat) m_Target, TV.int IntKind.i64 m_Member, TV.int IntKind.u64 m_Body, TV.slice m_Bits, TV.bytes (16 : Nat) m_Tag], TV.bytes (16 : Nat) t]) h R :=
 vcFn_sound (C := ctx) ctx_ok (fn := Try.f4) Try.func4 ((by kernel_rfl : tollerlaw08_SealOwn_vc c_Validators c_Epoch c_Committee c_Nodes c_Orphans c_Early c_Quota c_Peers c_Bytes c_Window c_Ban c_Decay m_Kind m_Slot m_Target m_Member m_Body m_Bits m_Tag t h R = vcFn ctx Try.f4 [TV.agg [TV.slice c_Validators, TV.int IntKind.i64 c_Epoch, TV.int IntKind.i64 c_Committee, TV.int IntKind.i64 c_Nodes, TV.int IntKind.i64 c_Orphans, TV.int IntKind.i64 c_Early, TV.int IntKind.i64 c_Quota, TV.int IntKind.i64 c_Peers, TV.int IntKind.i64 c_Bytes, TV.int IntKind.i64 c_Window, TV.int IntKind.i64 c_Ban, TV.int IntKind.i64 c_Decay], TV.agg [TV.int IntKind.i64 m_Kind, TV.int IntKind.i64 m_Slot, TV.bytes (32 : Nat) m_Target, TV.int IntKind.i64 m_Member, TV.int IntKind.u64 m_Body, TV.slice m_Bits, TV.bytes (16 : Nat) m_Tag], TV.bytes (16 : Nat) t] h R) ▸ H)


end Go.Proofs.Ytgdhddignbkloaa
