/- The conditions of functions, as the generator reckons them out, each with the proof that it is that. -/
import Derived.Test.YtahoibjgojlpeaaCtx
namespace Go.Proofs.Ytahoibjgojlpeaa
open Go Go.Vc
set_option maxRecDepth 100000
set_option linter.unusedVariables false

def tollerlaw20_GhostMore_vc (parents : Sl) (targets : Sl) (stakes : Sl) (up : Int) (more : Int) (h : Heap) (R : Value → Heap → Prop) : Prop :=
 CallsH Try.prog (27 : Nat) (TVs.vals []) h fun (v : Value) (h : Heap) ↦
 ∃ (b : Bool),
 v = TV.val (TV.bool b) ∧
 If (!b) (R (TV.val (TV.bool false)) h)
 (Join
 (fun (s : Bool) (h : Array Obj) ↦
 CallsH Try.prog (29 : Nat) (TVs.vals [TV.slice parents, TV.slice targets, TV.slice stakes]) h fun (v : Value) (h : Array Obj) ↦
 ∃ (s : Sl),
 ∃ (s_1 : Sl),
 ∃ (s_2 : Sl),
 ∃ (s_3 : Sl),
 v = TV.val (TV.agg [TV.slice s, TV.slice s_1, TV.slice s_2, TV.slice s_3]) ∧
 wok (newTV h (TV.agg [TV.slice Sl.nil, TV.slice Sl.nil, TV.slice Sl.nil, TV.slice Sl.nil]) (41 : Nat)) (Array.size h) (0 : Nat)
 (Nat.succ (Nat.add (1 : Nat) (Nat.add (1 : Nat) (1 : Nat)))) ∧
 ∃ (s_4 : Sl),
 ∃ (s_5 : Sl),
 ∃ (s_6 : Sl),
 ∃ (s_7 : Sl),
 (at1
 (TV.put (newTV h (TV.agg [TV.slice Sl.nil, TV.slice Sl.nil, TV.slice Sl.nil, TV.slice Sl.nil]) (41 : Nat))
 (Array.size h) (0 : Nat) (TV.agg [TV.slice s, TV.slice s_1, TV.slice s_2, TV.slice s_3]))
 (Array.size h) (0 : Nat) (slVal s_4) ∧
 at1
 (TV.put (newTV h (TV.agg [TV.slice Sl.nil, TV.slice Sl.nil, TV.slice Sl.nil, TV.slice Sl.nil]) (41 : Nat))
 (Array.size h) (0 : Nat) (TV.agg [TV.slice s, TV.slice s_1, TV.slice s_2, TV.slice s_3]))
 (Array.size h) (1 : Nat) (slVal s_5) ∧
 at1
 (TV.put (newTV h (TV.agg [TV.slice Sl.nil, TV.slice Sl.nil, TV.slice Sl.nil, TV.slice Sl.nil]) (41 : Nat))
 (Array.size h) (0 : Nat) (TV.agg [TV.slice s, TV.slice s_1, TV.slice s_2, TV.slice s_3]))
 (Array.size h) (2 : Nat) (slVal s_6) ∧
 at1
 (TV.put (newTV h (TV.agg [TV.slice Sl.nil, TV.slice Sl.nil, TV.slice Sl.nil, TV.slice Sl.nil]) (41 : Nat))
 (Array.size h) (0 : Nat) (TV.agg [TV.slice s, TV.slice s_1, TV.slice s_2, TV.slice s_3]))
 (Array.size h) (3 : Nat) (slVal s_7)) ∧
 CallsH Try.prog (35 : Nat) (TVs.vals [TV.agg [TV.slice s_4, TV.slice s_5, TV.slice s_6, TV.slice s_7]])
 (TV.put (newTV h (TV.agg [TV.slice Sl.nil, TV.slice Sl.nil, TV.slice Sl.nil, TV.slice Sl.nil]) (41 : Nat)) (Array.size h)
 (0 : Nat) (TV.agg [TV.slice s, TV.slice s_1, TV.slice s_2, TV.slice s_3]))
 fun (v : Value) (h_1 : Heap) ↦
 ∃ (b_1 : Bs (32 : Nat)),
 v = TV.val (TV.bytes (32 : Nat) b_1) ∧
 wok (newTV h_1 (TV.bytes (32 : Nat) (Bs.zero (32 : Nat))) (37 : Nat)) (Array.size h_1) (0 : Nat) (32 : Nat) ∧
 ∃ (s_8 : Sl),
 ∃ (s_9 : Sl),
 ∃ (s_10 : Sl),
 ∃ (s_11 : Sl),
 (at1
 (TV.put (newTV h_1 (TV.bytes (32 : Nat) (Bs.zero (32 : Nat))) (37 : Nat)) (Array.size h_1) (0 : Nat)
 (TV.bytes (32 : Nat) b_1))
 (Array.size h) (0 : Nat) (slVal s_8) ∧
 at1
 (TV.put (newTV h_1 (TV.bytes (32 : Nat) (Bs.zero (32 : Nat))) (37 : Nat)) (Array.size h_1) (0 : Nat)
 (TV.bytes (32 : Nat) b_1))
 (Array.size h) (1 : Nat) (slVal s_9) ∧
 at1
 (TV.put (newTV h_1 (TV.bytes (32 : Nat) (Bs.zero (32 : Nat))) (37 : Nat)) (Array.size h_1)
 (0 : Nat) (TV.bytes (32 : Nat) b_1))
 (Array.size h) (2 : Nat) (slVal s_10) ∧
 at1
 (TV.put (newTV h_1 (TV.bytes (32 : Nat) (Bs.zero (32 : Nat))) (37 : Nat)) (Array.size h_1)
 (0 : Nat) (TV.bytes (32 : Nat) b_1))
 (Array.size h) (3 : Nat) (slVal s_11)) ∧
 ∃ (b_2 : Bs (32 : Nat)),
 atBytes
 (TV.put (newTV h_1 (TV.bytes (32 : Nat) (Bs.zero (32 : Nat))) (37 : Nat)) (Array.size h_1) (0 : Nat)
 (TV.bytes (32 : Nat) b_1))
 (Array.size h_1) (0 : Nat) (32 : Nat) b_2 ∧
 CallsH Try.prog (36 : Nat)
 (TVs.vals
 [TV.agg [TV.slice s_8, TV.slice s_9, TV.slice s_10, TV.slice s_11], TV.bytes (32 : Nat) b_2])
 (TV.put (newTV h_1 (TV.bytes (32 : Nat) (Bs.zero (32 : Nat))) (37 : Nat)) (Array.size h_1) (0 : Nat)
 (TV.bytes (32 : Nat) b_1))
 fun (v : Value) (h_2 : Heap) ↦
 ∃ (n : Int),
 v = TV.val (TV.int IntKind.i64 n) ∧
 Go.Vc.Loop (n, (0 : Int)) h_2
 fun (s_12 : Int × Int) (h_3 : Array Obj) (K : Int × Int → Array Obj → Prop) ↦
 If (decide (s_12.snd < up))
 (If (decide ((0 : Int) < s_12.fst))
 (∃ (s_13 : Sl),
 ∃ (s_14 : Sl),
 ∃ (s_15 : Sl),
 ∃ (s_16 : Sl),
 (at1 h_3 (Array.size h) (0 : Nat) (slVal s_13) ∧
 at1 h_3 (Array.size h) (1 : Nat) (slVal s_14) ∧
 at1 h_3 (Array.size h) (2 : Nat) (slVal s_15) ∧
 at1 h_3 (Array.size h) (3 : Nat) (slVal s_16)) ∧
 ∃ (s_17 : Sl),
 at1 h_3 (Array.size h) (1 : Nat) (slVal s_17) ∧
 (0 : Int) ≤ s_12.fst ∧
 s_12.fst < (↑s_17.len : Int) ∧
 Nn s_17.a fun (l : Go.Vc.Loc) ↦
 ∃ (b_3 : Bs (32 : Nat)),
 atBytes h_3 l.b (l.o + Int.toNat s_12.fst * (32 : Nat)) (32 : Nat)
 b_3 ∧
 CallsH Try.prog (36 : Nat)
 (TVs.vals
 [TV.agg
 [TV.slice s_13, TV.slice s_14, TV.slice s_15,
 TV.slice s_16],
 TV.bytes (32 : Nat) b_3])
 h_3 fun (v : Value) (h : Array Obj) ↦
 ∃ (n_1 : Int),
 v = TV.val (TV.int IntKind.i64 n_1) ∧
 K (n_1, IntKind.wrap IntKind.i64 (s_12.snd + (1 : Int))) h)
 (∃ (s_13 : Sl),
 ∃ (s_14 : Sl),
 ∃ (s_15 : Sl),
 ∃ (s_16 : Sl),
 (at1 h_3 (Array.size h) (0 : Nat) (slVal s_13) ∧
 at1 h_3 (Array.size h) (1 : Nat) (slVal s_14) ∧
 at1 h_3 (Array.size h) (2 : Nat) (slVal s_15) ∧
 at1 h_3 (Array.size h) (3 : Nat) (slVal s_16)) ∧
 wok
 (newTV h_3
 (TV.agg
 [TV.slice Sl.nil, TV.slice Sl.nil, TV.slice Sl.nil, TV.slice Sl.nil])
 (41 : Nat))
 (Array.size h_3) (0 : Nat)
 (Nat.succ (Nat.add (1 : Nat) (Nat.add (1 : Nat) (1 : Nat)))) ∧
 Join
 (fun (s : Sl × Sl × Sl × Sl × Int × Bs (32 : Nat) × Sl × Sl)
 (h_4 : Array Obj) ↦
 ∃ (s : Sl),
 at1 (Array.push h_4 (row (TVs.cells []) (3 : Nat))) (Array.size h)
 (3 : Nat) (slVal s) ∧
 ∃ (new : List Value),
 slAt (Array.push h_4 (row (TVs.cells []) (3 : Nat))) s (1 : Nat)
 new ∧
 (∀ (v : Value), v ∈ new → isOne v = true) ∧
 vcAppend Ytahoibjgojlpeaa.ctx (3 : Nat)
 (Sl.mk (some (Loc.mk (Array.size h_4) (0 : Nat))) (0 : Nat)
 (0 : Nat))
 s.len new (Array.push h_4 (row (TVs.cells []) (3 : Nat)))
 fun (s : Sl) (h_5 : Array Obj) ↦
 ∃ (new : List Value),
 slAt
 (Array.push h_5
 (row (TVs.cells [TV.int IntKind.i64 more]) (3 : Nat)))
 (Sl.mk (some (Loc.mk (Array.size h_5) (0 : Nat)))
 (1 : Nat) (1 : Nat))
 (1 : Nat) new ∧
 (∀ (v : Value), v ∈ new → isOne v = true) ∧
 vcAppend Ytahoibjgojlpeaa.ctx (3 : Nat) s (1 : Nat) new
 (Array.push h_5
 (row (TVs.cells [TV.int IntKind.i64 more])
 (3 : Nat)))
 fun (s : Sl) (h_6 : Array Obj) ↦
 wok h_6 (Array.size h_3) (3 : Nat) (1 : Nat) ∧
 ∃ (s_17 : Sl),
 ∃ (s_18 : Sl),
 ∃ (s_19 : Sl),
 ∃ (s_20 : Sl),
 (at1
 (TV.put h_6 (Array.size h_3) (3 : Nat)
 (TV.slice s))
 (Array.size h) (0 : Nat)
 (slVal s_17) ∧
 at1
 (TV.put h_6 (Array.size h_3)
 (3 : Nat) (TV.slice s))
 (Array.size h) (1 : Nat)
 (slVal s_18) ∧
 at1
 (TV.put h_6 (Array.size h_3)
 (3 : Nat) (TV.slice s))
 (Array.size h) (2 : Nat)
 (slVal s_19) ∧
 at1
 (TV.put h_6 (Array.size h_3)
 (3 : Nat) (TV.slice s))
 (Array.size h) (3 : Nat)
 (slVal s_20)) ∧
 CallsH Try.prog (30 : Nat)
 (TVs.vals
 [TV.agg
 [TV.slice s_17, TV.slice s_18,
 TV.slice s_19, TV.slice s_20]])
 (TV.put h_6 (Array.size h_3) (3 : Nat)
 (TV.slice s))
 fun (v : Value) (h_7 : Heap) ↦
 ∃ (b : Bool),
 v = TV.val (TV.bool b) ∧
 If (!b)
 (R (TV.val (TV.bool true)) h_7)
 (∃ (s : Sl),
 ∃ (s_21 : Sl),
 ∃ (s_22 : Sl),
 ∃ (s_23 : Sl),
 (at1 h_7 (Array.size h_3)
 (0 : Nat)
 (slVal s) ∧
 at1 h_7
 (Array.size h_3)
 (1 : Nat)
 (slVal s_21) ∧
 at1 h_7
 (Array.size h_3)
 (2 : Nat)
 (slVal s_22) ∧
 at1 h_7
 (Array.size h_3)
 (3 : Nat)
 (slVal s_23)) ∧
 CallsH Try.prog
 (30 : Nat)
 (TVs.vals
 [TV.agg
 [TV.slice s,
 TV.slice s_21,
 TV.slice s_22,
 TV.slice
 s_23]])
 h_7
 fun (v : Value)
 (h_8 : Heap) ↦
 ∃ (b : Bool),
 v =
 TV.val
 (TV.bool b) ∧
 If (!b)
 (R
 (TV.val
 (TV.bool
 true))
 h_8)
 (∃ (s : Sl),
 ∃ (s_24 : Sl),
 ∃ (s_25 :
 Sl),
 ∃ (s_26 :
 Sl),
 (at1 h_8
 (Array.size
 h_3)
 (0 :
 Nat)
 (slVal
 s) ∧
 at1
 h_8
 (Array.size
 h_3)
 (1 :
 Nat)
 (slVal
 s_24) ∧
 at1
 h_8
 (Array.size
 h_3)
 (2 :
 Nat)
 (slVal
 s_25) ∧
 at1
 h_8
 (Array.size
 h_3)
 (3 :
 Nat)
 (slVal
 s_26)) ∧
 ∃
 (s_27
 :
 Sl),
 ∃
 (s_28
 :
 Sl),
 ∃
 (s_29
 :
 Sl),
 ∃
 (s_30
 :
 Sl),
 (at1
 h_8
 (Array.size
 h)
 (0 :
 Nat)
 (slVal
 s_27) ∧
 at1
 h_8
 (Array.size
 h)
 (1 :
 Nat)
 (slVal
 s_28) ∧
 at1
 h_8
 (Array.size
 h)
 (2 :
 Nat)
 (slVal
 s_29) ∧
 at1
 h_8
 (Array.size
 h)
 (3 :
 Nat)
 (slVal
 s_30)) ∧
 CallsH
 Try.prog
 (31 :
 Nat)
 (TVs.vals
 [TV.agg
 [TV.slice
 s,
 TV.slice
 s_24,
 TV.slice
 s_25,
 TV.slice
 s_26]])
 h_8
 fun
 (v :
 Value)
 (h :
 Heap) ↦
 ∃
 (s
 :
 Sl),
 ∃
 (s_31
 :
 Sl),
 v =
 TV.val
 (TV.agg
 [TV.slice
 s,
 TV.slice
 s_31]) ∧
 Ext
 h_8
 h ∧
 CallsH
 Try.prog
 (34 :
 Nat)
 (TVs.vals
 [TV.agg
 [TV.slice
 s,
 TV.slice
 s_31]])
 h
 fun
 (v :
 Value)
 (h_9 :
 Heap) ↦
 ∃
 (b
 :
 Bs
 (32 :
 Nat)),
 v =
 TV.val
 (TV.bytes
 (32 :
 Nat)
 b) ∧
 Ext
 h
 h_9 ∧
 CallsH
 Try.prog
 (31 :
 Nat)
 (TVs.vals
 [TV.agg
 [TV.slice
 s_27,
 TV.slice
 s_28,
 TV.slice
 s_29,
 TV.slice
 s_30]])
 h_9
 fun
 (v :
 Value)
 (h :
 Heap) ↦
 ∃
 (s
 :
 Sl),
 ∃
 (s_32
 :
 Sl),
 v =
 TV.val
 (TV.agg
 [TV.slice
 s,
 TV.slice
 s_32]) ∧
 CallsH
 Try.prog
 (34 :
 Nat)
 (TVs.vals
 [TV.agg
 [TV.slice
 s,
 TV.slice
 s_32]])
 h
 fun
 (v :
 Value)
 (h :
 Heap) ↦
 ∃
 (b_3
 :
 Bs
 (32 :
 Nat)),
 v =
 TV.val
 (TV.bytes
 (32 :
 Nat)
 b_3) ∧
 R
 (TV.val
 (TV.bool
 (decide
 (b.1 =
 b_3.1))))
 h)))
 fun
 (J :
 Sl × Sl × Sl × Sl × Int × Bs (32 : Nat) × Sl × Sl → Array Obj → Prop) ↦
 ∃ (s_17 : Sl),
 at1
 (TV.put
 (newTV h_3
 (TV.agg
 [TV.slice Sl.nil, TV.slice Sl.nil, TV.slice Sl.nil,
 TV.slice Sl.nil])
 (41 : Nat))
 (Array.size h_3) (0 : Nat)
 (TV.agg
 [TV.slice s_13, TV.slice s_14, TV.slice s_15, TV.slice s_16]))
 (Array.size h) (2 : Nat) (slVal s_17) ∧
 ∃ (s_18 : Sl),
 at1
 (TV.put
 (newTV h_3
 (TV.agg
 [TV.slice Sl.nil, TV.slice Sl.nil, TV.slice Sl.nil,
 TV.slice Sl.nil])
 (41 : Nat))
 (Array.size h_3) (0 : Nat)
 (TV.agg
 [TV.slice s_13, TV.slice s_14, TV.slice s_15, TV.slice s_16]))
 (Array.size h) (0 : Nat) (slVal s_18) ∧
 (0 : Int) ≤ s_12.fst ∧
 s_12.fst < (↑s_18.len : Int) ∧
 Nn s_18.a fun (l : Go.Vc.Loc) ↦
 ∃ (b_3 : Bs (32 : Nat)),
 atBytes
 (TV.put
 (newTV h_3
 (TV.agg
 [TV.slice Sl.nil, TV.slice Sl.nil,
 TV.slice Sl.nil, TV.slice Sl.nil])
 (41 : Nat))
 (Array.size h_3) (0 : Nat)
 (TV.agg
 [TV.slice s_13, TV.slice s_14, TV.slice s_15,
 TV.slice s_16]))
 l.b (l.o + Int.toNat s_12.fst * (32 : Nat)) (32 : Nat)
 b_3 ∧
 (Ext
 (TV.put
 (newTV h_3
 (TV.agg
 [TV.slice Sl.nil, TV.slice Sl.nil,
 TV.slice Sl.nil, TV.slice Sl.nil])
 (41 : Nat))
 (Array.size h_3) (0 : Nat)
 (TV.agg
 [TV.slice s_13, TV.slice s_14, TV.slice s_15,
 TV.slice s_16]))
 (Array.push
 (TV.put
 (newTV h_3
 (TV.agg
 [TV.slice Sl.nil, TV.slice Sl.nil,
 TV.slice Sl.nil, TV.slice Sl.nil])
 (41 : Nat))
 (Array.size h_3) (0 : Nat)
 (TV.agg
 [TV.slice s_13, TV.slice s_14, TV.slice s_15,
 TV.slice s_16]))
 (row (TVs.cells []) (37 : Nat))) ∧
 (∃ (new : List Value),
 slAt
 (Array.push
 (TV.put
 (newTV h_3
 (TV.agg
 [TV.slice Sl.nil, TV.slice Sl.nil,
 TV.slice Sl.nil, TV.slice Sl.nil])
 (41 : Nat))
 (Array.size h_3) (0 : Nat)
 (TV.agg
 [TV.slice s_13, TV.slice s_14,
 TV.slice s_15, TV.slice s_16]))
 (row (TVs.cells []) (37 : Nat)))
 s_17 (32 : Nat) new ∧
 (∀ (v : Value), v ∈ new → isOne v = true) ∧
 vcAppend Ytahoibjgojlpeaa.ctx (37 : Nat)
 (Sl.mk
 (some
 (Loc.mk
 (Array.size
 (TV.put
 (newTV h_3
 (TV.agg
 [TV.slice Sl.nil,
 TV.slice Sl.nil,
 TV.slice Sl.nil,
 TV.slice Sl.nil])
 (41 : Nat))
 (Array.size h_3) (0 : Nat)
 (TV.agg
 [TV.slice s_13, TV.slice s_14,
 TV.slice s_15,
 TV.slice s_16])))
 (0 : Nat)))
 (0 : Nat) (0 : Nat))
 s_17.len new
 (Array.push
 (TV.put
 (newTV h_3
 (TV.agg
 [TV.slice Sl.nil, TV.slice Sl.nil,
 TV.slice Sl.nil, TV.slice Sl.nil])
 (41 : Nat))
 (Array.size h_3) (0 : Nat)
 (TV.agg
 [TV.slice s_13, TV.slice s_14,
 TV.slice s_15, TV.slice s_16]))
 (row (TVs.cells []) (37 : Nat)))
 fun (s_19 : Sl) (h : Array Obj) ↦
 Ext
 (Array.push
 (TV.put
 (newTV h_3
 (TV.agg
 [TV.slice Sl.nil,
 TV.slice Sl.nil,
 TV.slice Sl.nil,
 TV.slice Sl.nil])
 (41 : Nat))
 (Array.size h_3) (0 : Nat)
 (TV.agg
 [TV.slice s_13, TV.slice s_14,
 TV.slice s_15, TV.slice s_16]))
 (row (TVs.cells []) (37 : Nat)))
 h ∧
 Ext h
 (Array.push h
 (row
 (TVs.cells
 [TV.bytes (32 : Nat) b_3])
 (37 : Nat))) ∧
 ∃ (new : List Value),
 slAt
 (Array.push h
 (row
 (TVs.cells
 [TV.bytes (32 : Nat) b_3])
 (37 : Nat)))
 (Sl.mk
 (some
 (Loc.mk (Array.size h)
 (0 : Nat)))
 (1 : Nat) (1 : Nat))
 (32 : Nat) new ∧
 (∀ (v : Value),
 v ∈ new → isOne v = true) ∧
 vcAppend Ytahoibjgojlpeaa.ctx
 (37 : Nat) s_19 (1 : Nat) new
 (Array.push h
 (row
 (TVs.cells
 [TV.bytes (32 : Nat) b_3])
 (37 : Nat)))
 fun (s_20 : Sl)
 (h_4 : Array Obj) ↦
 wok h_4 (Array.size h_3)
 (2 : Nat) (1 : Nat) ∧
 J
 (Sl.mk
 (some
 (Loc.mk
 (Array.size
 (TV.put
 (newTV h_3
 (TV.agg
 [TV.slice
 Sl.nil,
 TV.slice
 Sl.nil,
 TV.slice
 Sl.nil,
 TV.slice
 Sl.nil])
 (41 : Nat))
 (Array.size h_3)
 (0 : Nat)
 (TV.agg
 [TV.slice
 s_13,
 TV.slice
 s_14,
 TV.slice
 s_15,
 TV.slice
 s_16])))
 (0 : Nat)))
 (0 : Nat) (0 : Nat),
 s_17, s_19, s_18,
 s_12.fst, b_3,
 Sl.mk
 (some
 (Loc.mk (Array.size h)
 (0 : Nat)))
 (1 : Nat) (1 : Nat),
 s_20)
 (TV.put h_4 (Array.size h_3)
 (2 : Nat)
 (TV.slice s_20))) ∧
 Ext
 (Array.push
 (TV.put
 (newTV h_3
 (TV.agg
 [TV.slice Sl.nil, TV.slice Sl.nil,
 TV.slice Sl.nil, TV.slice Sl.nil])
 (41 : Nat))
 (Array.size h_3) (0 : Nat)
 (TV.agg
 [TV.slice s_13, TV.slice s_14,
 TV.slice s_15, TV.slice s_16]))
 (row (TVs.cells []) (37 : Nat)))
 (Array.push
 (Array.push
 (TV.put
 (newTV h_3
 (TV.agg
 [TV.slice Sl.nil, TV.slice Sl.nil,
 TV.slice Sl.nil, TV.slice Sl.nil])
 (41 : Nat))
 (Array.size h_3) (0 : Nat)
 (TV.agg
 [TV.slice s_13, TV.slice s_14,
 TV.slice s_15, TV.slice s_16]))
 (row (TVs.cells []) (37 : Nat)))
 (row (TVs.cells [TV.bytes (32 : Nat) b_3])
 (37 : Nat))) ∧
 ∃ (new : List Value),
 slAt
 (Array.push
 (Array.push
 (TV.put
 (newTV h_3
 (TV.agg
 [TV.slice Sl.nil, TV.slice Sl.nil,
 TV.slice Sl.nil,
 TV.slice Sl.nil])
 (41 : Nat))
 (Array.size h_3) (0 : Nat)
 (TV.agg
 [TV.slice s_13, TV.slice s_14,
 TV.slice s_15, TV.slice s_16]))
 (row (TVs.cells []) (37 : Nat)))
 (row (TVs.cells [TV.bytes (32 : Nat) b_3])
 (37 : Nat)))
 s_17 (32 : Nat) new ∧
 (∀ (v : Value), v ∈ new → isOne v = true) ∧
 vcAppend Ytahoibjgojlpeaa.ctx (37 : Nat)
 (Sl.mk
 (some
 (Loc.mk
 (Array.size
 (TV.put
 (newTV h_3
 (TV.agg
 [TV.slice Sl.nil,
 TV.slice Sl.nil,
 TV.slice Sl.nil,
 TV.slice Sl.nil])
 (41 : Nat))
 (Array.size h_3) (0 : Nat)
 (TV.agg
 [TV.slice s_13, TV.slice s_14,
 TV.slice s_15,
 TV.slice s_16])))
 (0 : Nat)))
 (0 : Nat) (0 : Nat))
 s_17.len new
 (Array.push
 (Array.push
 (TV.put
 (newTV h_3
 (TV.agg
 [TV.slice Sl.nil,
 TV.slice Sl.nil,
 TV.slice Sl.nil,
 TV.slice Sl.nil])
 (41 : Nat))
 (Array.size h_3) (0 : Nat)
 (TV.agg
 [TV.slice s_13, TV.slice s_14,
 TV.slice s_15, TV.slice s_16]))
 (row (TVs.cells []) (37 : Nat)))
 (row
 (TVs.cells [TV.bytes (32 : Nat) b_3])
 (37 : Nat)))
 fun (s_19 : Sl) (h : Array Obj) ↦
 Ext
 (Array.push
 (Array.push
 (TV.put
 (newTV h_3
 (TV.agg
 [TV.slice Sl.nil,
 TV.slice Sl.nil,
 TV.slice Sl.nil,
 TV.slice Sl.nil])
 (41 : Nat))
 (Array.size h_3) (0 : Nat)
 (TV.agg
 [TV.slice s_13, TV.slice s_14,
 TV.slice s_15,
 TV.slice s_16]))
 (row (TVs.cells []) (37 : Nat)))
 (row
 (TVs.cells
 [TV.bytes (32 : Nat) b_3])
 (37 : Nat)))
 h ∧
 ∃ (new : List Value),
 slAt h
 (Sl.mk
 (some
 (Loc.mk
 (Array.size
 (Array.push
 (TV.put
 (newTV h_3
 (TV.agg
 [TV.slice Sl.nil,
 TV.slice Sl.nil,
 TV.slice Sl.nil,
 TV.slice
 Sl.nil])
 (41 : Nat))
 (Array.size h_3)
 (0 : Nat)
 (TV.agg
 [TV.slice s_13,
 TV.slice s_14,
 TV.slice s_15,
 TV.slice s_16]))
 (row (TVs.cells [])
 (37 : Nat))))
 (0 : Nat)))
 (1 : Nat) (1 : Nat))
 (32 : Nat) new ∧
 (∀ (v : Value),
 v ∈ new → isOne v = true) ∧
 vcAppend Ytahoibjgojlpeaa.ctx
 (37 : Nat) s_19 (1 : Nat) new h
 fun (s_20 : Sl)
 (h : Array Obj) ↦
 wok h (Array.size h_3) (2 : Nat)
 (1 : Nat) ∧
 J
 (Sl.mk
 (some
 (Loc.mk
 (Array.size
 (TV.put
 (newTV h_3
 (TV.agg
 [TV.slice
 Sl.nil,
 TV.slice
 Sl.nil,
 TV.slice
 Sl.nil,
 TV.slice
 Sl.nil])
 (41 : Nat))
 (Array.size h_3)
 (0 : Nat)
 (TV.agg
 [TV.slice
 s_13,
 TV.slice
 s_14,
 TV.slice
 s_15,
 TV.slice
 s_16])))
 (0 : Nat)))
 (0 : Nat) (0 : Nat),
 s_17, s_19, s_18,
 s_12.fst, b_3,
 Sl.mk
 (some
 (Loc.mk
 (Array.size
 (Array.push
 (TV.put
 (newTV h_3
 (TV.agg
 [TV.slice
 Sl.nil,
 TV.slice
 Sl.nil,
 TV.slice
 Sl.nil,
 TV.slice
 Sl.nil])
 (41 : Nat))
 (Array.size
 h_3)
 (0 : Nat)
 (TV.agg
 [TV.slice
 s_13,
 TV.slice
 s_14,
 TV.slice
 s_15,
 TV.slice
 s_16]))
 (row
 (TVs.cells [])
 (37 : Nat))))
 (0 : Nat)))
 (1 : Nat) (1 : Nat),
 s_20)
 (TV.put h (Array.size h_3)
 (2 : Nat)
 (TV.slice s_20))) ∧
 Ext
 (TV.put
 (newTV h_3
 (TV.agg
 [TV.slice Sl.nil, TV.slice Sl.nil,
 TV.slice Sl.nil, TV.slice Sl.nil])
 (41 : Nat))
 (Array.size h_3) (0 : Nat)
 (TV.agg
 [TV.slice s_13, TV.slice s_14, TV.slice s_15,
 TV.slice s_16]))
 (Array.push
 (TV.put
 (newTV h_3
 (TV.agg
 [TV.slice Sl.nil, TV.slice Sl.nil,
 TV.slice Sl.nil, TV.slice Sl.nil])
 (41 : Nat))
 (Array.size h_3) (0 : Nat)
 (TV.agg
 [TV.slice s_13, TV.slice s_14, TV.slice s_15,
 TV.slice s_16]))
 (row (TVs.cells [TV.bytes (32 : Nat) b_3])
 (37 : Nat))) ∧
 Ext
 (Array.push
 (TV.put
 (newTV h_3
 (TV.agg
 [TV.slice Sl.nil, TV.slice Sl.nil,
 TV.slice Sl.nil, TV.slice Sl.nil])
 (41 : Nat))
 (Array.size h_3) (0 : Nat)
 (TV.agg
 [TV.slice s_13, TV.slice s_14,
 TV.slice s_15, TV.slice s_16]))
 (row (TVs.cells [TV.bytes (32 : Nat) b_3])
 (37 : Nat)))
 (Array.push
 (Array.push
 (TV.put
 (newTV h_3
 (TV.agg
 [TV.slice Sl.nil, TV.slice Sl.nil,
 TV.slice Sl.nil, TV.slice Sl.nil])
 (41 : Nat))
 (Array.size h_3) (0 : Nat)
 (TV.agg
 [TV.slice s_13, TV.slice s_14,
 TV.slice s_15, TV.slice s_16]))
 (row (TVs.cells [TV.bytes (32 : Nat) b_3])
 (37 : Nat)))
 (row (TVs.cells []) (37 : Nat))) ∧
 ∃ (new : List Value),
 slAt
 (Array.push
 (Array.push
 (TV.put
 (newTV h_3
 (TV.agg
 [TV.slice Sl.nil, TV.slice Sl.nil,
 TV.slice Sl.nil, TV.slice Sl.nil])
 (41 : Nat))
 (Array.size h_3) (0 : Nat)
 (TV.agg
 [TV.slice s_13, TV.slice s_14,
 TV.slice s_15, TV.slice s_16]))
 (row (TVs.cells [TV.bytes (32 : Nat) b_3])
 (37 : Nat)))
 (row (TVs.cells []) (37 : Nat)))
 s_17 (32 : Nat) new ∧
 (∀ (v : Value), v ∈ new → isOne v = true) ∧
 vcAppend Ytahoibjgojlpeaa.ctx (37 : Nat)
 (Sl.mk
 (some
 (Loc.mk
 (Array.size
 (Array.push
 (TV.put
 (newTV h_3
 (TV.agg
 [TV.slice Sl.nil,
 TV.slice Sl.nil,
 TV.slice Sl.nil,
 TV.slice Sl.nil])
 (41 : Nat))
 (Array.size h_3) (0 : Nat)
 (TV.agg
 [TV.slice s_13, TV.slice s_14,
 TV.slice s_15,
 TV.slice s_16]))
 (row
 (TVs.cells
 [TV.bytes (32 : Nat) b_3])
 (37 : Nat))))
 (0 : Nat)))
 (0 : Nat) (0 : Nat))
 s_17.len new
 (Array.push
 (Array.push
 (TV.put
 (newTV h_3
 (TV.agg
 [TV.slice Sl.nil, TV.slice Sl.nil,
 TV.slice Sl.nil,
 TV.slice Sl.nil])
 (41 : Nat))
 (Array.size h_3) (0 : Nat)
 (TV.agg
 [TV.slice s_13, TV.slice s_14,
 TV.slice s_15, TV.slice s_16]))
 (row
 (TVs.cells [TV.bytes (32 : Nat) b_3])
 (37 : Nat)))
 (row (TVs.cells []) (37 : Nat)))
 fun (s_19 : Sl) (h : Array Obj) ↦
 Ext
 (Array.push
 (Array.push
 (TV.put
 (newTV h_3
 (TV.agg
 [TV.slice Sl.nil,
 TV.slice Sl.nil,
 TV.slice Sl.nil,
 TV.slice Sl.nil])
 (41 : Nat))
 (Array.size h_3) (0 : Nat)
 (TV.agg
 [TV.slice s_13, TV.slice s_14,
 TV.slice s_15,
 TV.slice s_16]))
 (row
 (TVs.cells
 [TV.bytes (32 : Nat) b_3])
 (37 : Nat)))
 (row (TVs.cells []) (37 : Nat)))
 h ∧
 ∃ (new : List Value),
 slAt h
 (Sl.mk
 (some
 (Loc.mk
 (Array.size
 (TV.put
 (newTV h_3
 (TV.agg
 [TV.slice Sl.nil,
 TV.slice Sl.nil,
 TV.slice Sl.nil,
 TV.slice Sl.nil])
 (41 : Nat))
 (Array.size h_3) (0 : Nat)
 (TV.agg
 [TV.slice s_13,
 TV.slice s_14,
 TV.slice s_15,
 TV.slice s_16])))
 (0 : Nat)))
 (1 : Nat) (1 : Nat))
 (32 : Nat) new ∧
 (∀ (v : Value),
 v ∈ new → isOne v = true) ∧
 vcAppend Ytahoibjgojlpeaa.ctx
 (37 : Nat) s_19 (1 : Nat) new h
 fun (s_20 : Sl) (h : Array Obj) ↦
 wok h (Array.size h_3) (2 : Nat)
 (1 : Nat) ∧
 J
 (Sl.mk
 (some
 (Loc.mk
 (Array.size
 (Array.push
 (TV.put
 (newTV h_3
 (TV.agg
 [TV.slice
 Sl.nil,
 TV.slice
 Sl.nil,
 TV.slice
 Sl.nil,
 TV.slice
 Sl.nil])
 (41 : Nat))
 (Array.size h_3)
 (0 : Nat)
 (TV.agg
 [TV.slice
 s_13,
 TV.slice
 s_14,
 TV.slice
 s_15,
 TV.slice
 s_16]))
 (row
 (TVs.cells
 [TV.bytes
 (32 : Nat)
 b_3])
 (37 : Nat))))
 (0 : Nat)))
 (0 : Nat) (0 : Nat),
 s_17, s_19, s_18, s_12.fst,
 b_3,
 Sl.mk
 (some
 (Loc.mk
 (Array.size
 (TV.put
 (newTV h_3
 (TV.agg
 [TV.slice
 Sl.nil,
 TV.slice
 Sl.nil,
 TV.slice
 Sl.nil,
 TV.slice
 Sl.nil])
 (41 : Nat))
 (Array.size h_3)
 (0 : Nat)
 (TV.agg
 [TV.slice s_13,
 TV.slice s_14,
 TV.slice s_15,
 TV.slice
 s_16])))
 (0 : Nat)))
 (1 : Nat) (1 : Nat),
 s_20)
 (TV.put h (Array.size h_3)
 (2 : Nat) (TV.slice s_20))))
 (∃ (s_13 : Sl),
 ∃ (s_14 : Sl),
 ∃ (s_15 : Sl),
 ∃ (s_16 : Sl),
 (at1 h_3 (Array.size h) (0 : Nat) (slVal s_13) ∧
 at1 h_3 (Array.size h) (1 : Nat) (slVal s_14) ∧
 at1 h_3 (Array.size h) (2 : Nat) (slVal s_15) ∧
 at1 h_3 (Array.size h) (3 : Nat) (slVal s_16)) ∧
 wok
 (newTV h_3
 (TV.agg
 [TV.slice Sl.nil, TV.slice Sl.nil, TV.slice Sl.nil, TV.slice Sl.nil])
 (41 : Nat))
 (Array.size h_3) (0 : Nat)
 (Nat.succ (Nat.add (1 : Nat) (Nat.add (1 : Nat) (1 : Nat)))) ∧
 Join
 (fun (s : Sl × Sl × Sl × Sl × Int × Bs (32 : Nat) × Sl × Sl)
 (h_4 : Array Obj) ↦
 ∃ (s : Sl),
 at1 (Array.push h_4 (row (TVs.cells []) (3 : Nat))) (Array.size h)
 (3 : Nat) (slVal s) ∧
 ∃ (new : List Value),
 slAt (Array.push h_4 (row (TVs.cells []) (3 : Nat))) s (1 : Nat) new ∧
 (∀ (v : Value), v ∈ new → isOne v = true) ∧
 vcAppend Ytahoibjgojlpeaa.ctx (3 : Nat)
 (Sl.mk (some (Loc.mk (Array.size h_4) (0 : Nat))) (0 : Nat)
 (0 : Nat))
 s.len new (Array.push h_4 (row (TVs.cells []) (3 : Nat)))
 fun (s : Sl) (h_5 : Array Obj) ↦
 ∃ (new : List Value),
 slAt
 (Array.push h_5
 (row (TVs.cells [TV.int IntKind.i64 more]) (3 : Nat)))
 (Sl.mk (some (Loc.mk (Array.size h_5) (0 : Nat)))
 (1 : Nat) (1 : Nat))
 (1 : Nat) new ∧
 (∀ (v : Value), v ∈ new → isOne v = true) ∧
 vcAppend Ytahoibjgojlpeaa.ctx (3 : Nat) s (1 : Nat) new
 (Array.push h_5
 (row (TVs.cells [TV.int IntKind.i64 more]) (3 : Nat)))
 fun (s : Sl) (h_6 : Array Obj) ↦
 wok h_6 (Array.size h_3) (3 : Nat) (1 : Nat) ∧
 ∃ (s_17 : Sl),
 ∃ (s_18 : Sl),
 ∃ (s_19 : Sl),
 ∃ (s_20 : Sl),
 (at1
 (TV.put h_6 (Array.size h_3) (3 : Nat)
 (TV.slice s))
 (Array.size h) (0 : Nat) (slVal s_17) ∧
 at1
 (TV.put h_6 (Array.size h_3) (3 : Nat)
 (TV.slice s))
 (Array.size h) (1 : Nat)
 (slVal s_18) ∧
 at1
 (TV.put h_6 (Array.size h_3)
 (3 : Nat) (TV.slice s))
 (Array.size h) (2 : Nat)
 (slVal s_19) ∧
 at1
 (TV.put h_6 (Array.size h_3)
 (3 : Nat) (TV.slice s))
 (Array.size h) (3 : Nat)
 (slVal s_20)) ∧
 CallsH Try.prog (30 : Nat)
 (TVs.vals
 [TV.agg
 [TV.slice s_17, TV.slice s_18,
 TV.slice s_19, TV.slice s_20]])
 (TV.put h_6 (Array.size h_3) (3 : Nat)
 (TV.slice s))
 fun (v : Value) (h_7 : Heap) ↦
 ∃ (b : Bool),
 v = TV.val (TV.bool b) ∧
 If (!b)
 (R (TV.val (TV.bool true)) h_7)
 (∃ (s : Sl),
 ∃ (s_21 : Sl),
 ∃ (s_22 : Sl),
 ∃ (s_23 : Sl),
 (at1 h_7 (Array.size h_3)
 (0 : Nat) (slVal s) ∧
 at1 h_7 (Array.size h_3)
 (1 : Nat)
 (slVal s_21) ∧
 at1 h_7
 (Array.size h_3)
 (2 : Nat)
 (slVal s_22) ∧
 at1 h_7
 (Array.size h_3)
 (3 : Nat)
 (slVal s_23)) ∧
 CallsH Try.prog (30 : Nat)
 (TVs.vals
 [TV.agg
 [TV.slice s,
 TV.slice s_21,
 TV.slice s_22,
 TV.slice s_23]])
 h_7
 fun (v : Value)
 (h_8 : Heap) ↦
 ∃ (b : Bool),
 v =
 TV.val
 (TV.bool b) ∧
 If (!b)
 (R
 (TV.val
 (TV.bool
 true))
 h_8)
 (∃ (s : Sl),
 ∃ (s_24 : Sl),
 ∃ (s_25 : Sl),
 ∃ (s_26 :
 Sl),
 (at1 h_8
 (Array.size
 h_3)
 (0 :
 Nat)
 (slVal
 s) ∧
 at1
 h_8
 (Array.size
 h_3)
 (1 :
 Nat)
 (slVal
 s_24) ∧
 at1
 h_8
 (Array.size
 h_3)
 (2 :
 Nat)
 (slVal
 s_25) ∧
 at1
 h_8
 (Array.size
 h_3)
 (3 :
 Nat)
 (slVal
 s_26)) ∧
 ∃ (s_27
 : Sl),
 ∃
 (s_28
 :
 Sl),
 ∃
 (s_29
 :
 Sl),
 ∃
 (s_30
 :
 Sl),
 (at1
 h_8
 (Array.size
 h)
 (0 :
 Nat)
 (slVal
 s_27) ∧
 at1
 h_8
 (Array.size
 h)
 (1 :
 Nat)
 (slVal
 s_28) ∧
 at1
 h_8
 (Array.size
 h)
 (2 :
 Nat)
 (slVal
 s_29) ∧
 at1
 h_8
 (Array.size
 h)
 (3 :
 Nat)
 (slVal
 s_30)) ∧
 CallsH
 Try.prog
 (31 :
 Nat)
 (TVs.vals
 [TV.agg
 [TV.slice
 s,
 TV.slice
 s_24,
 TV.slice
 s_25,
 TV.slice
 s_26]])
 h_8
 fun
 (v :
 Value)
 (h :
 Heap) ↦
 ∃
 (s
 :
 Sl),
 ∃
 (s_31
 :
 Sl),
 v =
 TV.val
 (TV.agg
 [TV.slice
 s,
 TV.slice
 s_31]) ∧
 Ext
 h_8
 h ∧
 CallsH
 Try.prog
 (34 :
 Nat)
 (TVs.vals
 [TV.agg
 [TV.slice
 s,
 TV.slice
 s_31]])
 h
 fun
 (v :
 Value)
 (h_9 :
 Heap) ↦
 ∃
 (b
 :
 Bs
 (32 :
 Nat)),
 v =
 TV.val
 (TV.bytes
 (32 :
 Nat)
 b) ∧
 Ext
 h
 h_9 ∧
 CallsH
 Try.prog
 (31 :
 Nat)
 (TVs.vals
 [TV.agg
 [TV.slice
 s_27,
 TV.slice
 s_28,
 TV.slice
 s_29,
 TV.slice
 s_30]])
 h_9
 fun
 (v :
 Value)
 (h :
 Heap) ↦
 ∃
 (s
 :
 Sl),
 ∃
 (s_32
 :
 Sl),
 v =
 TV.val
 (TV.agg
 [TV.slice
 s,
 TV.slice
 s_32]) ∧
 CallsH
 Try.prog
 (34 :
 Nat)
 (TVs.vals
 [TV.agg
 [TV.slice
 s,
 TV.slice
 s_32]])
 h
 fun
 (v :
 Value)
 (h :
 Heap) ↦
 ∃
 (b_3
 :
 Bs
 (32 :
 Nat)),
 v =
 TV.val
 (TV.bytes
 (32 :
 Nat)
 b_3) ∧
 R
 (TV.val
 (TV.bool
 (decide
 (b.1 =
 b_3.1))))
 h)))
 fun
 (J : Sl × Sl × Sl × Sl × Int × Bs (32 : Nat) × Sl × Sl → Array Obj → Prop) ↦
 ∃ (s_17 : Sl),
 at1
 (TV.put
 (newTV h_3
 (TV.agg
 [TV.slice Sl.nil, TV.slice Sl.nil, TV.slice Sl.nil,
 TV.slice Sl.nil])
 (41 : Nat))
 (Array.size h_3) (0 : Nat)
 (TV.agg [TV.slice s_13, TV.slice s_14, TV.slice s_15, TV.slice s_16]))
 (Array.size h) (2 : Nat) (slVal s_17) ∧
 ∃ (s_18 : Sl),
 at1
 (TV.put
 (newTV h_3
 (TV.agg
 [TV.slice Sl.nil, TV.slice Sl.nil, TV.slice Sl.nil,
 TV.slice Sl.nil])
 (41 : Nat))
 (Array.size h_3) (0 : Nat)
 (TV.agg
 [TV.slice s_13, TV.slice s_14, TV.slice s_15, TV.slice s_16]))
 (Array.size h) (0 : Nat) (slVal s_18) ∧
 (0 : Int) ≤ s_12.fst ∧
 s_12.fst < (↑s_18.len : Int) ∧
 Nn s_18.a fun (l : Go.Vc.Loc) ↦
 ∃ (b_3 : Bs (32 : Nat)),
 atBytes
 (TV.put
 (newTV h_3
 (TV.agg
 [TV.slice Sl.nil, TV.slice Sl.nil, TV.slice Sl.nil,
 TV.slice Sl.nil])
 (41 : Nat))
 (Array.size h_3) (0 : Nat)
 (TV.agg
 [TV.slice s_13, TV.slice s_14, TV.slice s_15,
 TV.slice s_16]))
 l.b (l.o + Int.toNat s_12.fst * (32 : Nat)) (32 : Nat)
 b_3 ∧
 (Ext
 (TV.put
 (newTV h_3
 (TV.agg
 [TV.slice Sl.nil, TV.slice Sl.nil,
 TV.slice Sl.nil, TV.slice Sl.nil])
 (41 : Nat))
 (Array.size h_3) (0 : Nat)
 (TV.agg
 [TV.slice s_13, TV.slice s_14, TV.slice s_15,
 TV.slice s_16]))
 (Array.push
 (TV.put
 (newTV h_3
 (TV.agg
 [TV.slice Sl.nil, TV.slice Sl.nil,
 TV.slice Sl.nil, TV.slice Sl.nil])
 (41 : Nat))
 (Array.size h_3) (0 : Nat)
 (TV.agg
 [TV.slice s_13, TV.slice s_14, TV.slice s_15,
 TV.slice s_16]))
 (row (TVs.cells []) (37 : Nat))) ∧
 (∃ (new : List Value),
 slAt
 (Array.push
 (TV.put
 (newTV h_3
 (TV.agg
 [TV.slice Sl.nil, TV.slice Sl.nil,
 TV.slice Sl.nil, TV.slice Sl.nil])
 (41 : Nat))
 (Array.size h_3) (0 : Nat)
 (TV.agg
 [TV.slice s_13, TV.slice s_14,
 TV.slice s_15, TV.slice s_16]))
 (row (TVs.cells []) (37 : Nat)))
 s_17 (32 : Nat) new ∧
 (∀ (v : Value), v ∈ new → isOne v = true) ∧
 vcAppend Ytahoibjgojlpeaa.ctx (37 : Nat)
 (Sl.mk
 (some
 (Loc.mk
 (Array.size
 (TV.put
 (newTV h_3
 (TV.agg
 [TV.slice Sl.nil,
 TV.slice Sl.nil,
 TV.slice Sl.nil,
 TV.slice Sl.nil])
 (41 : Nat))
 (Array.size h_3) (0 : Nat)
 (TV.agg
 [TV.slice s_13, TV.slice s_14,
 TV.slice s_15, TV.slice s_16])))
 (0 : Nat)))
 (0 : Nat) (0 : Nat))
 s_17.len new
 (Array.push
 (TV.put
 (newTV h_3
 (TV.agg
 [TV.slice Sl.nil, TV.slice Sl.nil,
 TV.slice Sl.nil, TV.slice Sl.nil])
 (41 : Nat))
 (Array.size h_3) (0 : Nat)
 (TV.agg
 [TV.slice s_13, TV.slice s_14,
 TV.slice s_15, TV.slice s_16]))
 (row (TVs.cells []) (37 : Nat)))
 fun (s_19 : Sl) (h : Array Obj) ↦
 Ext
 (Array.push
 (TV.put
 (newTV h_3
 (TV.agg
 [TV.slice Sl.nil, TV.slice Sl.nil,
 TV.slice Sl.nil,
 TV.slice Sl.nil])
 (41 : Nat))
 (Array.size h_3) (0 : Nat)
 (TV.agg
 [TV.slice s_13, TV.slice s_14,
 TV.slice s_15, TV.slice s_16]))
 (row (TVs.cells []) (37 : Nat)))
 h ∧
 Ext h
 (Array.push h
 (row
 (TVs.cells
 [TV.bytes (32 : Nat) b_3])
 (37 : Nat))) ∧
 ∃ (new : List Value),
 slAt
 (Array.push h
 (row
 (TVs.cells
 [TV.bytes (32 : Nat) b_3])
 (37 : Nat)))
 (Sl.mk
 (some
 (Loc.mk (Array.size h)
 (0 : Nat)))
 (1 : Nat) (1 : Nat))
 (32 : Nat) new ∧
 (∀ (v : Value),
 v ∈ new → isOne v = true) ∧
 vcAppend Ytahoibjgojlpeaa.ctx
 (37 : Nat) s_19 (1 : Nat) new
 (Array.push h
 (row
 (TVs.cells
 [TV.bytes (32 : Nat) b_3])
 (37 : Nat)))
 fun (s_20 : Sl)
 (h_4 : Array Obj) ↦
 wok h_4 (Array.size h_3) (2 : Nat)
 (1 : Nat) ∧
 J
 (Sl.mk
 (some
 (Loc.mk
 (Array.size
 (TV.put
 (newTV h_3
 (TV.agg
 [TV.slice
 Sl.nil,
 TV.slice
 Sl.nil,
 TV.slice
 Sl.nil,
 TV.slice
 Sl.nil])
 (41 : Nat))
 (Array.size h_3)
 (0 : Nat)
 (TV.agg
 [TV.slice s_13,
 TV.slice s_14,
 TV.slice s_15,
 TV.slice
 s_16])))
 (0 : Nat)))
 (0 : Nat) (0 : Nat),
 s_17, s_19, s_18, s_12.fst,
 b_3,
 Sl.mk
 (some
 (Loc.mk (Array.size h)
 (0 : Nat)))
 (1 : Nat) (1 : Nat),
 s_20)
 (TV.put h_4 (Array.size h_3)
 (2 : Nat)
 (TV.slice s_20))) ∧
 Ext
 (Array.push
 (TV.put
 (newTV h_3
 (TV.agg
 [TV.slice Sl.nil, TV.slice Sl.nil,
 TV.slice Sl.nil, TV.slice Sl.nil])
 (41 : Nat))
 (Array.size h_3) (0 : Nat)
 (TV.agg
 [TV.slice s_13, TV.slice s_14,
 TV.slice s_15, TV.slice s_16]))
 (row (TVs.cells []) (37 : Nat)))
 (Array.push
 (Array.push
 (TV.put
 (newTV h_3
 (TV.agg
 [TV.slice Sl.nil, TV.slice Sl.nil,
 TV.slice Sl.nil, TV.slice Sl.nil])
 (41 : Nat))
 (Array.size h_3) (0 : Nat)
 (TV.agg
 [TV.slice s_13, TV.slice s_14,
 TV.slice s_15, TV.slice s_16]))
 (row (TVs.cells []) (37 : Nat)))
 (row (TVs.cells [TV.bytes (32 : Nat) b_3])
 (37 : Nat))) ∧
 ∃ (new : List Value),
 slAt
 (Array.push
 (Array.push
 (TV.put
 (newTV h_3
 (TV.agg
 [TV.slice Sl.nil, TV.slice Sl.nil,
 TV.slice Sl.nil, TV.slice Sl.nil])
 (41 : Nat))
 (Array.size h_3) (0 : Nat)
 (TV.agg
 [TV.slice s_13, TV.slice s_14,
 TV.slice s_15, TV.slice s_16]))
 (row (TVs.cells []) (37 : Nat)))
 (row (TVs.cells [TV.bytes (32 : Nat) b_3])
 (37 : Nat)))
 s_17 (32 : Nat) new ∧
 (∀ (v : Value), v ∈ new → isOne v = true) ∧
 vcAppend Ytahoibjgojlpeaa.ctx (37 : Nat)
 (Sl.mk
 (some
 (Loc.mk
 (Array.size
 (TV.put
 (newTV h_3
 (TV.agg
 [TV.slice Sl.nil,
 TV.slice Sl.nil,
 TV.slice Sl.nil,
 TV.slice Sl.nil])
 (41 : Nat))
 (Array.size h_3) (0 : Nat)
 (TV.agg
 [TV.slice s_13, TV.slice s_14,
 TV.slice s_15,
 TV.slice s_16])))
 (0 : Nat)))
 (0 : Nat) (0 : Nat))
 s_17.len new
 (Array.push
 (Array.push
 (TV.put
 (newTV h_3
 (TV.agg
 [TV.slice Sl.nil, TV.slice Sl.nil,
 TV.slice Sl.nil,
 TV.slice Sl.nil])
 (41 : Nat))
 (Array.size h_3) (0 : Nat)
 (TV.agg
 [TV.slice s_13, TV.slice s_14,
 TV.slice s_15, TV.slice s_16]))
 (row (TVs.cells []) (37 : Nat)))
 (row (TVs.cells [TV.bytes (32 : Nat) b_3])
 (37 : Nat)))
 fun (s_19 : Sl) (h : Array Obj) ↦
 Ext
 (Array.push
 (Array.push
 (TV.put
 (newTV h_3
 (TV.agg
 [TV.slice Sl.nil,
 TV.slice Sl.nil,
 TV.slice Sl.nil,
 TV.slice Sl.nil])
 (41 : Nat))
 (Array.size h_3) (0 : Nat)
 (TV.agg
 [TV.slice s_13, TV.slice s_14,
 TV.slice s_15,
 TV.slice s_16]))
 (row (TVs.cells []) (37 : Nat)))
 (row
 (TVs.cells
 [TV.bytes (32 : Nat) b_3])
 (37 : Nat)))
 h ∧
 ∃ (new : List Value),
 slAt h
 (Sl.mk
 (some
 (Loc.mk
 (Array.size
 (Array.push
 (TV.put
 (newTV h_3
 (TV.agg
 [TV.slice Sl.nil,
 TV.slice Sl.nil,
 TV.slice Sl.nil,
 TV.slice Sl.nil])
 (41 : Nat))
 (Array.size h_3)
 (0 : Nat)
 (TV.agg
 [TV.slice s_13,
 TV.slice s_14,
 TV.slice s_15,
 TV.slice s_16]))
 (row (TVs.cells [])
 (37 : Nat))))
 (0 : Nat)))
 (1 : Nat) (1 : Nat))
 (32 : Nat) new ∧
 (∀ (v : Value),
 v ∈ new → isOne v = true) ∧
 vcAppend Ytahoibjgojlpeaa.ctx
 (37 : Nat) s_19 (1 : Nat) new h
 fun (s_20 : Sl) (h : Array Obj) ↦
 wok h (Array.size h_3) (2 : Nat)
 (1 : Nat) ∧
 J
 (Sl.mk
 (some
 (Loc.mk
 (Array.size
 (TV.put
 (newTV h_3
 (TV.agg
 [TV.slice
 Sl.nil,
 TV.slice
 Sl.nil,
 TV.slice
 Sl.nil,
 TV.slice
 Sl.nil])
 (41 : Nat))
 (Array.size h_3)
 (0 : Nat)
 (TV.agg
 [TV.slice s_13,
 TV.slice s_14,
 TV.slice s_15,
 TV.slice
 s_16])))
 (0 : Nat)))
 (0 : Nat) (0 : Nat),
 s_17, s_19, s_18, s_12.fst,
 b_3,
 Sl.mk
 (some
 (Loc.mk
 (Array.size
 (Array.push
 (TV.put
 (newTV h_3
 (TV.agg
 [TV.slice
 Sl.nil,
 TV.slice
 Sl.nil,
 TV.slice
 Sl.nil,
 TV.slice
 Sl.nil])
 (41 : Nat))
 (Array.size h_3)
 (0 : Nat)
 (TV.agg
 [TV.slice
 s_13,
 TV.slice
 s_14,
 TV.slice
 s_15,
 TV.slice
 s_16]))
 (row
 (TVs.cells [])
 (37 : Nat))))
 (0 : Nat)))
 (1 : Nat) (1 : Nat),
 s_20)
 (TV.put h (Array.size h_3)
 (2 : Nat)
 (TV.slice s_20))) ∧
 Ext
 (TV.put
 (newTV h_3
 (TV.agg
 [TV.slice Sl.nil, TV.slice Sl.nil,
 TV.slice Sl.nil, TV.slice Sl.nil])
 (41 : Nat))
 (Array.size h_3) (0 : Nat)
 (TV.agg
 [TV.slice s_13, TV.slice s_14, TV.slice s_15,
 TV.slice s_16]))
 (Array.push
 (TV.put
 (newTV h_3
 (TV.agg
 [TV.slice Sl.nil, TV.slice Sl.nil,
 TV.slice Sl.nil, TV.slice Sl.nil])
 (41 : Nat))
 (Array.size h_3) (0 : Nat)
 (TV.agg
 [TV.slice s_13, TV.slice s_14, TV.slice s_15,
 TV.slice s_16]))
 (row (TVs.cells [TV.bytes (32 : Nat) b_3])
 (37 : Nat))) ∧
 Ext
 (Array.push
 (TV.put
 (newTV h_3
 (TV.agg
 [TV.slice Sl.nil, TV.slice Sl.nil,
 TV.slice Sl.nil, TV.slice Sl.nil])
 (41 : Nat))
 (Array.size h_3) (0 : Nat)
 (TV.agg
 [TV.slice s_13, TV.slice s_14, TV.slice s_15,
 TV.slice s_16]))
 (row (TVs.cells [TV.bytes (32 : Nat) b_3])
 (37 : Nat)))
 (Array.push
 (Array.push
 (TV.put
 (newTV h_3
 (TV.agg
 [TV.slice Sl.nil, TV.slice Sl.nil,
 TV.slice Sl.nil, TV.slice Sl.nil])
 (41 : Nat))
 (Array.size h_3) (0 : Nat)
 (TV.agg
 [TV.slice s_13, TV.slice s_14,
 TV.slice s_15, TV.slice s_16]))
 (row (TVs.cells [TV.bytes (32 : Nat) b_3])
 (37 : Nat)))
 (row (TVs.cells []) (37 : Nat))) ∧
 ∃ (new : List Value),
 slAt
 (Array.push
 (Array.push
 (TV.put
 (newTV h_3
 (TV.agg
 [TV.slice Sl.nil, TV.slice Sl.nil,
 TV.slice Sl.nil, TV.slice Sl.nil])
 (41 : Nat))
 (Array.size h_3) (0 : Nat)
 (TV.agg
 [TV.slice s_13, TV.slice s_14,
 TV.slice s_15, TV.slice s_16]))
 (row (TVs.cells [TV.bytes (32 : Nat) b_3])
 (37 : Nat)))
 (row (TVs.cells []) (37 : Nat)))
 s_17 (32 : Nat) new ∧
 (∀ (v : Value), v ∈ new → isOne v = true) ∧
 vcAppend Ytahoibjgojlpeaa.ctx (37 : Nat)
 (Sl.mk
 (some
 (Loc.mk
 (Array.size
 (Array.push
 (TV.put
 (newTV h_3
 (TV.agg
 [TV.slice Sl.nil,
 TV.slice Sl.nil,
 TV.slice Sl.nil,
 TV.slice Sl.nil])
 (41 : Nat))
 (Array.size h_3) (0 : Nat)
 (TV.agg
 [TV.slice s_13, TV.slice s_14,
 TV.slice s_15,
 TV.slice s_16]))
 (row
 (TVs.cells
 [TV.bytes (32 : Nat) b_3])
 (37 : Nat))))
 (0 : Nat)))
 (0 : Nat) (0 : Nat))
 s_17.len new
 (Array.push
 (Array.push
 (TV.put
 (newTV h_3
 (TV.agg
 [TV.slice Sl.nil, TV.slice Sl.nil,
 TV.slice Sl.nil, TV.slice Sl.nil])
 (41 : Nat))
 (Array.size h_3) (0 : Nat)
 (TV.agg
 [TV.slice s_13, TV.slice s_14,
 TV.slice s_15, TV.slice s_16]))
 (row (TVs.cells [TV.bytes (32 : Nat) b_3])
 (37 : Nat)))
 (row (TVs.cells []) (37 : Nat)))
 fun (s_19 : Sl) (h : Array Obj) ↦
 Ext
 (Array.push
 (Array.push
 (TV.put
 (newTV h_3
 (TV.agg
 [TV.slice Sl.nil,
 TV.slice Sl.nil,
 TV.slice Sl.nil,
 TV.slice Sl.nil])
 (41 : Nat))
 (Array.size h_3) (0 : Nat)
 (TV.agg
 [TV.slice s_13, TV.slice s_14,
 TV.slice s_15, TV.slice s_16]))
 (row
 (TVs.cells
 [TV.bytes (32 : Nat) b_3])
 (37 : Nat)))
 (row (TVs.cells []) (37 : Nat)))
 h ∧
 ∃ (new : List Value),
 slAt h
 (Sl.mk
 (some
 (Loc.mk
 (Array.size
 (TV.put
 (newTV h_3
 (TV.agg
 [TV.slice Sl.nil,
 TV.slice Sl.nil,
 TV.slice Sl.nil,
 TV.slice Sl.nil])
 (41 : Nat))
 (Array.size h_3) (0 : Nat)
 (TV.agg
 [TV.slice s_13,
 TV.slice s_14,
 TV.slice s_15,
 TV.slice s_16])))
 (0 : Nat)))
 (1 : Nat) (1 : Nat))
 (32 : Nat) new ∧
 (∀ (v : Value),
 v ∈ new → isOne v = true) ∧
 vcAppend Ytahoibjgojlpeaa.ctx
 (37 : Nat) s_19 (1 : Nat) new h
 fun (s_20 : Sl) (h : Array Obj) ↦
 wok h (Array.size h_3) (2 : Nat)
 (1 : Nat) ∧
 J
 (Sl.mk
 (some
 (Loc.mk
 (Array.size
 (Array.push
 (TV.put
 (newTV h_3
 (TV.agg
 [TV.slice
 Sl.nil,
 TV.slice
 Sl.nil,
 TV.slice
 Sl.nil,
 TV.slice
 Sl.nil])
 (41 : Nat))
 (Array.size h_3)
 (0 : Nat)
 (TV.agg
 [TV.slice s_13,
 TV.slice s_14,
 TV.slice s_15,
 TV.slice
 s_16]))
 (row
 (TVs.cells
 [TV.bytes
 (32 : Nat)
 b_3])
 (37 : Nat))))
 (0 : Nat)))
 (0 : Nat) (0 : Nat),
 s_17, s_19, s_18, s_12.fst,
 b_3,
 Sl.mk
 (some
 (Loc.mk
 (Array.size
 (TV.put
 (newTV h_3
 (TV.agg
 [TV.slice
 Sl.nil,
 TV.slice
 Sl.nil,
 TV.slice
 Sl.nil,
 TV.slice
 Sl.nil])
 (41 : Nat))
 (Array.size h_3)
 (0 : Nat)
 (TV.agg
 [TV.slice s_13,
 TV.slice s_14,
 TV.slice s_15,
 TV.slice
 s_16])))
 (0 : Nat)))
 (1 : Nat) (1 : Nat),
 s_20)
 (TV.put h (Array.size h_3)
 (2 : Nat) (TV.slice s_20))))
 fun (J : Bool → Array Obj → Prop) ↦
 CallsH Try.prog (28 : Nat) (TVs.vals [TV.slice parents, TV.slice targets, TV.slice stakes]) h fun (v : Value) (h : Heap) ↦
 ∃ (b : Bool),
 v = TV.val (TV.bool b) ∧
 If b (R (TV.val (TV.bool true)) h)
 (If (decide (up < (0 : Int))) (R (TV.val (TV.bool true)) h)
 (If (decide (more < (0 : Int))) (R (TV.val (TV.bool true)) h)
 (If (decide ((1099511627776 : Int) < more)) (R (TV.val (TV.bool true)) h) (J false h)))))

theorem tollerlaw20_GhostMore_calls (parents : Sl) (targets : Sl) (stakes : Sl) (up : Int) (more : Int) (h : Heap) (R : Value → Heap → Prop) (H : tollerlaw20_GhostMore_vc parents targets stakes up more h R) : CallsH Try.prog 9 (TVs.vals [TV.slice parents, TV.slice targets, TV.slice stakes, TV.int IntKind.i64 up, TV.int IntKind.i64 more]) h R :=
 vcFn_sound (C := ctx) ctx_ok (fn := Try.f9) Try.func9 ((by kernel_rfl : tollerlaw20_GhostMore_vc parents targets stakes up more h R = vcFn ctx Try.f9 [TV.slice parents, TV.slice targets, TV.slice stakes, TV.int IntKind.i64 up, TV.int IntKind.i64 more] h R) ▸ H)


end Go.Proofs.Ytahoibjgojlpeaa
