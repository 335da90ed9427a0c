/- The conditions of functions, as the generator reckons them out, each with the proof that it is that. -/
import Derived.Test.YtjncpcdpfgjibaaCtx
namespace Go.Proofs.Ytjncpcdpfgjibaa
open Go Go.Vc
set_option maxRecDepth 100000
set_option linter.unusedVariables false

def tollerlaw06_BoardIs_vc (c_Validators : Sl) (c_Epoch : Int) (c_Committee : Int) (c_Nodes : Int) (c_Orphans : Int) (c_Early : Int) (c_Quota : Int) (c_Peers : Int) (c_Bytes : Int) (c_Window : Int) (c_Ban : Int) (c_Decay : Int) (slot : Int) (who : Int) (row : Sl) (h : Heap) (R : Value → Heap → Prop) : Prop :=
 Vc.Bind
 (newTV h
 (TV.agg
 [TV.slice c_Validators, TV.int IntKind.i64 c_Epoch, TV.int IntKind.i64 c_Committee, TV.int IntKind.i64 c_Nodes, TV.int IntKind.i64 c_Orphans,
 TV.int IntKind.i64 c_Early, TV.int IntKind.i64 c_Quota, TV.int IntKind.i64 c_Peers, TV.int IntKind.i64 c_Bytes, TV.int IntKind.i64 c_Window,
 TV.int IntKind.i64 c_Ban, TV.int IntKind.i64 c_Decay])
 (24 : Nat))
 fun (h_1 : Array Obj) ↦
 CallsH Try.prog (8 : Nat) (TVs.vals []) h_1 fun (v : Value) (h_2 : Array Obj) ↦
 ∃ (b : Bool),
 v = TV.val (TV.bool b) ∧
 If (!b) (R (TV.val (TV.bool false)) h_2)
 (Join
 (fun (s : Bool × Bool × Bool) (h_3 : Array Obj) ↦
 ∃ (s : Sl),
 ∃ (n : Int),
 ∃ (n_1 : Int),
 ∃ (n_2 : Int),
 ∃ (n_3 : Int),
 ∃ (n_4 : Int),
 ∃ (n_5 : Int),
 ∃ (n_6 : Int),
 ∃ (n_7 : Int),
 ∃ (n_8 : Int),
 ∃ (n_9 : Int),
 ∃ (n_10 : Int),
 (at1 h_3 (Array.size h) (0 : Nat) (slVal s) ∧
 at1 h_3 (Array.size h) (1 : Nat) (Value.int IntKind.i64 n) ∧
 at1 h_3 (Array.size h) (2 : Nat) (Value.int IntKind.i64 n_1) ∧
 at1 h_3 (Array.size h) (3 : Nat) (Value.int IntKind.i64 n_2) ∧
 at1 h_3 (Array.size h) (4 : Nat) (Value.int IntKind.i64 n_3) ∧
 at1 h_3 (Array.size h) (5 : Nat) (Value.int IntKind.i64 n_4) ∧
 at1 h_3 (Array.size h) (6 : Nat) (Value.int IntKind.i64 n_5) ∧
 at1 h_3 (Array.size h) (7 : Nat) (Value.int IntKind.i64 n_6) ∧
 at1 h_3 (Array.size h) (8 : Nat) (Value.int IntKind.i64 n_7) ∧
 at1 h_3 (Array.size h) (9 : Nat) (Value.int IntKind.i64 n_8) ∧
 at1 h_3 (Array.size h) (10 : Nat) (Value.int IntKind.i64 n_9) ∧
 at1 h_3 (Array.size h) (11 : Nat) (Value.int IntKind.i64 n_10)) ∧
 CallsH Try.prog (16 : Nat)
 (TVs.vals
 [TV.agg
 [TV.slice s, TV.int IntKind.i64 n, TV.int IntKind.i64 n_1, TV.int IntKind.i64 n_2, TV.int IntKind.i64 n_3,
 TV.int IntKind.i64 n_4, TV.int IntKind.i64 n_5, TV.int IntKind.i64 n_6, TV.int IntKind.i64 n_7,
 TV.int IntKind.i64 n_8, TV.int IntKind.i64 n_9, TV.int IntKind.i64 n_10],
 TV.int IntKind.i64 slot])
 h_3 fun (v : Value) (h_4 : Array Obj) ↦
 ∃ (s : Sl),
 v = TV.val (TV.slice s) ∧
 Join
 (fun (s_1 : Int) (h_5 : Array Obj) ↦
 ∃ (s_2 : Sl),
 ∃ (n : Int),
 ∃ (n_11 : Int),
 ∃ (n_12 : Int),
 ∃ (n_13 : Int),
 ∃ (n_14 : Int),
 ∃ (n_15 : Int),
 ∃ (n_16 : Int),
 ∃ (n_17 : Int),
 ∃ (n_18 : Int),
 ∃ (n_19 : Int),
 ∃ (n_20 : Int),
 (at1 h_5 (Array.size h) (0 : Nat) (slVal s_2) ∧
 at1 h_5 (Array.size h) (1 : Nat) (Value.int IntKind.i64 n) ∧
 at1 h_5 (Array.size h) (2 : Nat) (Value.int IntKind.i64 n_11) ∧
 at1 h_5 (Array.size h) (3 : Nat) (Value.int IntKind.i64 n_12) ∧
 at1 h_5 (Array.size h) (4 : Nat) (Value.int IntKind.i64 n_13) ∧
 at1 h_5 (Array.size h) (5 : Nat) (Value.int IntKind.i64 n_14) ∧
 at1 h_5 (Array.size h) (6 : Nat) (Value.int IntKind.i64 n_15) ∧
 at1 h_5 (Array.size h) (7 : Nat) (Value.int IntKind.i64 n_16) ∧
 at1 h_5 (Array.size h) (8 : Nat) (Value.int IntKind.i64 n_17) ∧
 at1 h_5 (Array.size h) (9 : Nat) (Value.int IntKind.i64 n_18) ∧
 at1 h_5 (Array.size h) (10 : Nat) (Value.int IntKind.i64 n_19) ∧
 at1 h_5 (Array.size h) (11 : Nat)
 (Value.int IntKind.i64 n_20)) ∧
 CallsH Try.prog (15 : Nat)
 (TVs.vals
 [TV.agg
 [TV.slice s_2, TV.int IntKind.i64 n, TV.int IntKind.i64 n_11,
 TV.int IntKind.i64 n_12, TV.int IntKind.i64 n_13, TV.int IntKind.i64 n_14,
 TV.int IntKind.i64 n_15, TV.int IntKind.i64 n_16, TV.int IntKind.i64 n_17,
 TV.int IntKind.i64 n_18, TV.int IntKind.i64 n_19,
 TV.int IntKind.i64 n_20],
 TV.int IntKind.i64 slot, TV.slice row])
 h_5 fun (v : Value) (h_6 : Array Obj) ↦
 ∃ (s_3 : Sl),
 ∃ (b : Bool),
 v = TV.val (TV.tup [TV.slice s_3, TV.bool b]) ∧
 ∃ (s_4 : Sl),
 ∃ (n : Int),
 ∃ (n_21 : Int),
 ∃ (n_22 : Int),
 ∃ (n_23 : Int),
 ∃ (n_24 : Int),
 ∃ (n_25 : Int),
 ∃ (n_26 : Int),
 ∃ (n_27 : Int),
 ∃ (n_28 : Int),
 ∃ (n_29 : Int),
 ∃ (n_30 : Int),
 (at1 h_6 (Array.size h) (0 : Nat) (slVal s_4) ∧
 at1 h_6 (Array.size h) (1 : Nat)
 (Value.int IntKind.i64 n) ∧
 at1 h_6 (Array.size h) (2 : Nat)
 (Value.int IntKind.i64 n_21) ∧
 at1 h_6 (Array.size h) (3 : Nat)
 (Value.int IntKind.i64 n_22) ∧
 at1 h_6 (Array.size h) (4 : Nat)
 (Value.int IntKind.i64 n_23) ∧
 at1 h_6 (Array.size h) (5 : Nat)
 (Value.int IntKind.i64 n_24) ∧
 at1 h_6 (Array.size h) (6 : Nat)
 (Value.int IntKind.i64 n_25) ∧
 at1 h_6 (Array.size h) (7 : Nat)
 (Value.int IntKind.i64 n_26) ∧
 at1 h_6 (Array.size h) (8 : Nat)
 (Value.int IntKind.i64 n_27) ∧
 at1 h_6 (Array.size h) (9 : Nat)
 (Value.int IntKind.i64
 n_28) ∧
 at1 h_6 (Array.size h)
 (10 : Nat)
 (Value.int IntKind.i64
 n_29) ∧
 at1 h_6 (Array.size h)
 (11 : Nat)
 (Value.int IntKind.i64
 n_30)) ∧
 CallsH Try.prog (17 : Nat)
 (TVs.vals
 [TV.agg
 [TV.slice s_4, TV.int IntKind.i64 n,
 TV.int IntKind.i64 n_21,
 TV.int IntKind.i64 n_22,
 TV.int IntKind.i64 n_23,
 TV.int IntKind.i64 n_24,
 TV.int IntKind.i64 n_25,
 TV.int IntKind.i64 n_26,
 TV.int IntKind.i64 n_27,
 TV.int IntKind.i64 n_28,
 TV.int IntKind.i64 n_29,
 TV.int IntKind.i64 n_30],
 TV.int IntKind.i64 slot, TV.slice row])
 h_6 fun (v : Value) (h_7 : Array Obj) ↦
 ∃ (s_5 : Sl),
 ∃ (b_1 : Bool),
 v =
 TV.val
 (TV.tup [TV.slice s_5, TV.bool b_1]) ∧
 ∃ (s_6 : Sl),
 ∃ (n : Int),
 ∃ (n_31 : Int),
 ∃ (n_32 : Int),
 ∃ (n_33 : Int),
 ∃ (n_34 : Int),
 ∃ (n_35 : Int),
 ∃ (n_36 : Int),
 ∃ (n_37 : Int),
 ∃ (n_38 : Int),
 ∃ (n_39 : Int),
 ∃ (n_40 : Int),
 (at1 h_7
 (Array.size
 h)
 (0 : Nat)
 (slVal
 s_6) ∧
 at1 h_7
 (Array.size
 h)
 (1 : Nat)
 (Value.int
 IntKind.i64
 n) ∧
 at1 h_7
 (Array.size
 h)
 (2 :
 Nat)
 (Value.int
 IntKind.i64
 n_31) ∧
 at1 h_7
 (Array.size
 h)
 (3 :
 Nat)
 (Value.int
 IntKind.i64
 n_32) ∧
 at1 h_7
 (Array.size
 h)
 (4 :
 Nat)
 (Value.int
 IntKind.i64
 n_33) ∧
 at1
 h_7
 (Array.size
 h)
 (5 :
 Nat)
 (Value.int
 IntKind.i64
 n_34) ∧
 at1
 h_7
 (Array.size
 h)
 (6 :
 Nat)
 (Value.int
 IntKind.i64
 n_35) ∧
 at1
 h_7
 (Array.size
 h)
 (7 :
 Nat)
 (Value.int
 IntKind.i64
 n_36) ∧
 at1
 h_7
 (Array.size
 h)
 (8 :
 Nat)
 (Value.int
 IntKind.i64
 n_37) ∧
 at1
 h_7
 (Array.size
 h)
 (9 :
 Nat)
 (Value.int
 IntKind.i64
 n_38) ∧
 at1
 h_7
 (Array.size
 h)
 (10 :
 Nat)
 (Value.int
 IntKind.i64
 n_39) ∧
 at1
 h_7
 (Array.size
 h)
 (11 :
 Nat)
 (Value.int
 IntKind.i64
 n_40)) ∧
 CallsH Try.prog
 (11 : Nat)
 (TVs.vals
 [TV.agg
 [TV.slice
 s_6,
 TV.int
 IntKind.i64
 n,
 TV.int
 IntKind.i64
 n_31,
 TV.int
 IntKind.i64
 n_32,
 TV.int
 IntKind.i64
 n_33,
 TV.int
 IntKind.i64
 n_34,
 TV.int
 IntKind.i64
 n_35,
 TV.int
 IntKind.i64
 n_36,
 TV.int
 IntKind.i64
 n_37,
 TV.int
 IntKind.i64
 n_38,
 TV.int
 IntKind.i64
 n_39,
 TV.int
 IntKind.i64
 n_40],
 TV.int
 IntKind.i64
 slot])
 h_7
 fun
 (v : Value)
 (h_8 :
 Array
 Obj) ↦
 ∃ (s_7 : Sl),
 v =
 TV.val
 (TV.slice
 s_7) ∧
 CallsH
 Try.prog
 (12 :
 Nat)
 (TVs.vals
 [TV.slice
 s_7,
 TV.slice
 s])
 h_8
 fun
 (v :
 Value)
 (h_9 :
 Array
 Obj) ↦
 ∃ (b_2 :
 Bool),
 v =
 TV.val
 (TV.bool
 b_2) ∧
 If
 b_2
 (∃
 (s
 :
 Sl),
 ∃
 (n
 :
 Int),
 ∃
 (n_41
 :
 Int),
 ∃
 (n_42
 :
 Int),
 ∃
 (n_43
 :
 Int),
 ∃
 (n_44
 :
 Int),
 ∃
 (n_45
 :
 Int),
 ∃
 (n_46
 :
 Int),
 ∃
 (n_47
 :
 Int),
 ∃
 (n_48
 :
 Int),
 ∃
 (n_49
 :
 Int),
 ∃
 (n_50
 :
 Int),
 (at1
 h_9
 (Array.size
 h)
 (0 :
 Nat)
 (slVal
 s) ∧
 at1
 h_9
 (Array.size
 h)
 (1 :
 Nat)
 (Value.int
 IntKind.i64
 n) ∧
 at1
 h_9
 (Array.size
 h)
 (2 :
 Nat)
 (Value.int
 IntKind.i64
 n_41) ∧
 at1
 h_9
 (Array.size
 h)
 (3 :
 Nat)
 (Value.int
 IntKind.i64
 n_42) ∧
 at1
 h_9
 (Array.size
 h)
 (4 :
 Nat)
 (Value.int
 IntKind.i64
 n_43) ∧
 at1
 h_9
 (Array.size
 h)
 (5 :
 Nat)
 (Value.int
 IntKind.i64
 n_44) ∧
 at1
 h_9
 (Array.size
 h)
 (6 :
 Nat)
 (Value.int
 IntKind.i64
 n_45) ∧
 at1
 h_9
 (Array.size
 h)
 (7 :
 Nat)
 (Value.int
 IntKind.i64
 n_46) ∧
 at1
 h_9
 (Array.size
 h)
 (8 :
 Nat)
 (Value.int
 IntKind.i64
 n_47) ∧
 at1
 h_9
 (Array.size
 h)
 (9 :
 Nat)
 (Value.int
 IntKind.i64
 n_48) ∧
 at1
 h_9
 (Array.size
 h)
 (10 :
 Nat)
 (Value.int
 IntKind.i64
 n_49) ∧
 at1
 h_9
 (Array.size
 h)
 (11 :
 Nat)
 (Value.int
 IntKind.i64
 n_50)) ∧
 ∃
 (s_8
 :
 Sl),
 ∃
 (n_51
 :
 Int),
 ∃
 (n_52
 :
 Int),
 ∃
 (n_53
 :
 Int),
 ∃
 (n_54
 :
 Int),
 ∃
 (n_55
 :
 Int),
 ∃
 (n_56
 :
 Int),
 ∃
 (n_57
 :
 Int),
 ∃
 (n_58
 :
 Int),
 ∃
 (n_59
 :
 Int),
 ∃
 (n_60
 :
 Int),
 ∃
 (n_61
 :
 Int),
 (at1
 h_9
 (Array.size
 h)
 (0 :
 Nat)
 (slVal
 s_8) ∧
 at1
 h_9
 (Array.size
 h)
 (1 :
 Nat)
 (Value.int
 IntKind.i64
 n_51) ∧
 at1
 h_9
 (Array.size
 h)
 (2 :
 Nat)
 (Value.int
 IntKind.i64
 n_52) ∧
 at1
 h_9
 (Array.size
 h)
 (3 :
 Nat)
 (Value.int
 IntKind.i64
 n_53) ∧
 at1
 h_9
 (Array.size
 h)
 (4 :
 Nat)
 (Value.int
 IntKind.i64
 n_54) ∧
 at1
 h_9
 (Array.size
 h)
 (5 :
 Nat)
 (Value.int
 IntKind.i64
 n_55) ∧
 at1
 h_9
 (Array.size
 h)
 (6 :
 Nat)
 (Value.int
 IntKind.i64
 n_56) ∧
 at1
 h_9
 (Array.size
 h)
 (7 :
 Nat)
 (Value.int
 IntKind.i64
 n_57) ∧
 at1
 h_9
 (Array.size
 h)
 (8 :
 Nat)
 (Value.int
 IntKind.i64
 n_58) ∧
 at1
 h_9
 (Array.size
 h)
 (9 :
 Nat)
 (Value.int
 IntKind.i64
 n_59) ∧
 at1
 h_9
 (Array.size
 h)
 (10 :
 Nat)
 (Value.int
 IntKind.i64
 n_60) ∧
 at1
 h_9
 (Array.size
 h)
 (11 :
 Nat)
 (Value.int
 IntKind.i64
 n_61)) ∧
 CallsH
 Try.prog
 (14 :
 Nat)
 (TVs.vals
 [TV.agg
 [TV.slice
 s,
 TV.int
 IntKind.i64
 n,
 TV.int
 IntKind.i64
 n_41,
 TV.int
 IntKind.i64
 n_42,
 TV.int
 IntKind.i64
 n_43,
 TV.int
 IntKind.i64
 n_44,
 TV.int
 IntKind.i64
 n_45,
 TV.int
 IntKind.i64
 n_46,
 TV.int
 IntKind.i64
 n_47,
 TV.int
 IntKind.i64
 n_48,
 TV.int
 IntKind.i64
 n_49,
 TV.int
 IntKind.i64
 n_50],
 TV.int
 IntKind.i64
 slot,
 TV.int
 IntKind.i64
 who])
 h_9
 fun
 (v :
 Value)
 (h_10 :
 Array
 Obj) ↦
 ∃
 (n
 :
 Int),
 v =
 TV.val
 (TV.int
 IntKind.i64
 n) ∧
 Ext
 h_9
 h_10 ∧
 CallsH
 Try.prog
 (18 :
 Nat)
 (TVs.vals
 [TV.agg
 [TV.slice
 s_8,
 TV.int
 IntKind.i64
 n_51,
 TV.int
 IntKind.i64
 n_52,
 TV.int
 IntKind.i64
 n_53,
 TV.int
 IntKind.i64
 n_54,
 TV.int
 IntKind.i64
 n_55,
 TV.int
 IntKind.i64
 n_56,
 TV.int
 IntKind.i64
 n_57,
 TV.int
 IntKind.i64
 n_58,
 TV.int
 IntKind.i64
 n_59,
 TV.int
 IntKind.i64
 n_60,
 TV.int
 IntKind.i64
 n_61],
 TV.int
 IntKind.i64
 slot,
 TV.int
 IntKind.i64
 who])
 h_10
 fun
 (v :
 Value)
 (h_11 :
 Array
 Obj) ↦
 ∃
 (n_62
 :
 Int),
 v =
 TV.val
 (TV.int
 IntKind.i64
 n_62) ∧
 If
 (decide
 (n =
 n_62))
 (∃
 (s
 :
 Sl),
 ∃
 (n
 :
 Int),
 ∃
 (n_63
 :
 Int),
 ∃
 (n_64
 :
 Int),
 ∃
 (n_65
 :
 Int),
 ∃
 (n_66
 :
 Int),
 ∃
 (n_67
 :
 Int),
 ∃
 (n_68
 :
 Int),
 ∃
 (n_69
 :
 Int),
 ∃
 (n_70
 :
 Int),
 ∃
 (n_71
 :
 Int),
 ∃
 (n_72
 :
 Int),
 (at1
 h_11
 (Array.size
 h)
 (0 :
 Nat)
 (slVal
 s) ∧
 at1
 h_11
 (Array.size
 h)
 (1 :
 Nat)
 (Value.int
 IntKind.i64
 n) ∧
 at1
 h_11
 (Array.size
 h)
 (2 :
 Nat)
 (Value.int
 IntKind.i64
 n_63) ∧
 at1
 h_11
 (Array.size
 h)
 (3 :
 Nat)
 (Value.int
 IntKind.i64
 n_64) ∧
 at1
 h_11
 (Array.size
 h)
 (4 :
 Nat)
 (Value.int
 IntKind.i64
 n_65) ∧
 at1
 h_11
 (Array.size
 h)
 (5 :
 Nat)
 (Value.int
 IntKind.i64
 n_66) ∧
 at1
 h_11
 (Array.size
 h)
 (6 :
 Nat)
 (Value.int
 IntKind.i64
 n_67) ∧
 at1
 h_11
 (Array.size
 h)
 (7 :
 Nat)
 (Value.int
 IntKind.i64
 n_68) ∧
 at1
 h_11
 (Array.size
 h)
 (8 :
 Nat)
 (Value.int
 IntKind.i64
 n_69) ∧
 at1
 h_11
 (Array.size
 h)
 (9 :
 Nat)
 (Value.int
 IntKind.i64
 n_70) ∧
 at1
 h_11
 (Array.size
 h)
 (10 :
 Nat)
 (Value.int
 IntKind.i64
 n_71) ∧
 at1
 h_11
 (Array.size
 h)
 (11 :
 Nat)
 (Value.int
 IntKind.i64
 n_72)) ∧
 CallsH
 Try.prog
 (13 :
 Nat)
 (TVs.vals
 [TV.agg
 [TV.slice
 s,
 TV.int
 IntKind.i64
 n,
 TV.int
 IntKind.i64
 n_63,
 TV.int
 IntKind.i64
 n_64,
 TV.int
 IntKind.i64
 n_65,
 TV.int
 IntKind.i64
 n_66,
 TV.int
 IntKind.i64
 n_67,
 TV.int
 IntKind.i64
 n_68,
 TV.int
 IntKind.i64
 n_69,
 TV.int
 IntKind.i64
 n_70,
 TV.int
 IntKind.i64
 n_71,
 TV.int
 IntKind.i64
 n_72],
 TV.int
 IntKind.i64
 slot])
 h_11
 fun
 (v :
 Value)
 (h :
 Array
 Obj) ↦
 ∃
 (n
 :
 Int),
 v =
 TV.val
 (TV.int
 IntKind.i64
 n) ∧
 If
 (decide
 (n =
 s_1))
 (If
 (b ==
 b_1)
 (CallsH
 Try.prog
 (12 :
 Nat)
 (TVs.vals
 [TV.slice
 s_3,
 TV.slice
 s_5])
 h
 fun
 (v :
 Value)
 (h :
 Array
 Obj) ↦
 ∃
 (b
 :
 Bool),
 v =
 TV.val
 (TV.bool
 b) ∧
 R
 (TV.val
 (TV.bool
 b))
 h)
 (R
 (TV.val
 (TV.bool
 false))
 h))
 (R
 (TV.val
 (TV.bool
 false))
 h))
 (R
 (TV.val
 (TV.bool
 false))
 h_11))
 (R
 (TV.val
 (TV.bool
 false))
 h_9))
 fun (J : Int → Array Obj → Prop) ↦
 If (decide ((0 : Int) < (↑s.len : Int)))
 ((0 : Int) ≤ (0 : Int) ∧
 (0 : Int) < (↑s.len : Int) ∧
 Nn s.a fun (l : Go.Vc.Loc) ↦
 ∃ (n : Int), at1 h_4 l.b (l.o + Int.toNat (0 : Int) * (1 : Nat)) (Value.int IntKind.i64 n) ∧ J n h_4)
 (J (-1 : Int) h_4))
 fun (J : Bool × Bool × Bool → Array Obj → Prop) ↦
 ∃ (s : Sl),
 ∃ (n : Int),
 ∃ (n_1 : Int),
 ∃ (n_2 : Int),
 ∃ (n_3 : Int),
 ∃ (n_4 : Int),
 ∃ (n_5 : Int),
 ∃ (n_6 : Int),
 ∃ (n_7 : Int),
 ∃ (n_8 : Int),
 ∃ (n_9 : Int),
 ∃ (n_10 : Int),
 (at1 h_2 (Array.size h) (0 : Nat) (slVal s) ∧
 at1 h_2 (Array.size h) (1 : Nat) (Value.int IntKind.i64 n) ∧
 at1 h_2 (Array.size h) (2 : Nat) (Value.int IntKind.i64 n_1) ∧
 at1 h_2 (Array.size h) (3 : Nat) (Value.int IntKind.i64 n_2) ∧
 at1 h_2 (Array.size h) (4 : Nat) (Value.int IntKind.i64 n_3) ∧
 at1 h_2 (Array.size h) (5 : Nat) (Value.int IntKind.i64 n_4) ∧
 at1 h_2 (Array.size h) (6 : Nat) (Value.int IntKind.i64 n_5) ∧
 at1 h_2 (Array.size h) (7 : Nat) (Value.int IntKind.i64 n_6) ∧
 at1 h_2 (Array.size h) (8 : Nat) (Value.int IntKind.i64 n_7) ∧
 at1 h_2 (Array.size h) (9 : Nat) (Value.int IntKind.i64 n_8) ∧
 at1 h_2 (Array.size h) (10 : Nat) (Value.int IntKind.i64 n_9) ∧
 at1 h_2 (Array.size h) (11 : Nat) (Value.int IntKind.i64 n_10)) ∧
 CallsH Try.prog (9 : Nat)
 (TVs.vals
 [TV.agg
 [TV.slice s, TV.int IntKind.i64 n, TV.int IntKind.i64 n_1, TV.int IntKind.i64 n_2, TV.int IntKind.i64 n_3,
 TV.int IntKind.i64 n_4, TV.int IntKind.i64 n_5, TV.int IntKind.i64 n_6, TV.int IntKind.i64 n_7,
 TV.int IntKind.i64 n_8, TV.int IntKind.i64 n_9, TV.int IntKind.i64 n_10]])
 h_2 fun (v : Value) (h_3 : Array Obj) ↦
 ∃ (b : Bool),
 v = TV.val (TV.bool b) ∧
 If b (R (TV.val (TV.bool true)) h_3)
 (∃ (s : Sl),
 ∃ (n : Int),
 ∃ (n_11 : Int),
 ∃ (n_12 : Int),
 ∃ (n_13 : Int),
 ∃ (n_14 : Int),
 ∃ (n_15 : Int),
 ∃ (n_16 : Int),
 ∃ (n_17 : Int),
 ∃ (n_18 : Int),
 ∃ (n_19 : Int),
 ∃ (n_20 : Int),
 (at1 h_3 (Array.size h) (0 : Nat) (slVal s) ∧
 at1 h_3 (Array.size h) (1 : Nat) (Value.int IntKind.i64 n) ∧
 at1 h_3 (Array.size h) (2 : Nat) (Value.int IntKind.i64 n_11) ∧
 at1 h_3 (Array.size h) (3 : Nat) (Value.int IntKind.i64 n_12) ∧
 at1 h_3 (Array.size h) (4 : Nat) (Value.int IntKind.i64 n_13) ∧
 at1 h_3 (Array.size h) (5 : Nat) (Value.int IntKind.i64 n_14) ∧
 at1 h_3 (Array.size h) (6 : Nat) (Value.int IntKind.i64 n_15) ∧
 at1 h_3 (Array.size h) (7 : Nat) (Value.int IntKind.i64 n_16) ∧
 at1 h_3 (Array.size h) (8 : Nat) (Value.int IntKind.i64 n_17) ∧
 at1 h_3 (Array.size h) (9 : Nat) (Value.int IntKind.i64 n_18) ∧
 at1 h_3 (Array.size h) (10 : Nat) (Value.int IntKind.i64 n_19) ∧
 at1 h_3 (Array.size h) (11 : Nat) (Value.int IntKind.i64 n_20)) ∧
 CallsH Try.prog (10 : Nat)
 (TVs.vals
 [TV.agg
 [TV.slice s, TV.int IntKind.i64 n, TV.int IntKind.i64 n_11,
 TV.int IntKind.i64 n_12, TV.int IntKind.i64 n_13, TV.int IntKind.i64 n_14,
 TV.int IntKind.i64 n_15, TV.int IntKind.i64 n_16, TV.int IntKind.i64 n_17,
 TV.int IntKind.i64 n_18, TV.int IntKind.i64 n_19, TV.int IntKind.i64 n_20]])
 h_3 fun (v : Value) (h : Array Obj) ↦
 ∃ (b : Bool),
 v = TV.val (TV.bool b) ∧
 If (!b) (R (TV.val (TV.bool true)) h)
 (If (decide ((100 : Int) < (↑row.len : Int))) (R (TV.val (TV.bool true)) h)
 (J (false, !b, decide ((100 : Int) < (↑row.len : Int))) h))))

theorem tollerlaw06_BoardIs_calls (c_Validators : Sl) (c_Epoch : Int) (c_Committee : Int) (c_Nodes : Int) (c_Orphans : Int) (c_Early : Int) (c_Quota : Int) (c_Peers : Int) (c_Bytes : Int) (c_Window : Int) (c_Ban : Int) (c_Decay : Int) (slot : Int) (who : Int) (row : Sl) (h : Heap) (R : Value → Heap → Prop) (H : tollerlaw06_BoardIs_vc c_Validators c_Epoch c_Committee c_Nodes c_Orphans c_Early c_Quota c_Peers c_Bytes c_Window c_Ban c_Decay slot who row h R) : CallsH Try.prog 7 (TVs.vals [TV.agg [TV.slice c_Validators, TV.int IntKind.i64 c_Epoch, TV.int IntKind.i64 c_Committee, TV.int IntKind.i64 c_Nodes, TV.int IntKind.i64 c_Orphans, TV.int IntKind.i64 c_Early, TV.int IntKind.i64 c_Quota, TV.int IntKind.i64 c_Peers, TV.int IntKind.i64 c_Bytes, TV.int IntKind.i64 c_Window, TV.int IntKind.i64 c_Ban, TV.int IntKind.i64 c_Decay], TV.int IntKind.i64 slot, TV.int IntKind.i64 who, TV.slice row]) h R :=
 vcFn_sound (C := ctx) ctx_ok (fn := Try.f7) Try.func7 ((by kernel_rfl : tollerlaw06_BoardIs_vc c_Validators c_Epoch c_Committee c_Nodes c_Orphans c_Early c_Quota c_Peers c_Bytes c_Window c_Ban c_Decay slot who row h R = vcFn ctx Try.f7 [TV.agg [TV.slice c_Validators, TV.int IntKind.i64 c_Epoch, TV.int IntKind.i64 c_Committee, TV.int IntKind.i64 c_Nodes, TV.int IntKind.i64 c_Orphans, TV.int IntKind.i64 c_Early, TV.int IntKind.i64 c_Quota, TV.int IntKind.i64 c_Peers, TV.int IntKind.i64 c_Bytes, TV.int IntKind.i64 c_Window, TV.int IntKind.i64 c_Ban, TV.int IntKind.i64 c_Decay], TV.int IntKind.i64 slot, TV.int IntKind.i64 who, TV.slice row] h R) ▸ H)


end Go.Proofs.Ytjncpcdpfgjibaa
