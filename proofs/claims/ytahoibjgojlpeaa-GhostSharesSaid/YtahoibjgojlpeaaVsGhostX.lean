/- The conditions of functions, as the generator reckons them out, each with the proof that it is that. -/
import Derived.Test.YtahoibjgojlpeaaCtx
namespace Go.Proofs.Ytahoibjgojlpeaa
open Go Go.Vc
set_option maxRecDepth 100000
set_option linter.unusedVariables false

def tollerlaw20_GhostLeaves_vc (parents : Sl) (targets : Sl) (stakes : Sl) (h : Heap) (R : Value → Heap → Prop) : Prop :=
 CallsH Try.prog (27 : Nat) (TVs.vals []) h fun (v : Value) (h : Heap) ↦
 ∃ (b : Bool),
 v = TV.val (TV.bool b) ∧
 If (!b) (R (TV.val (TV.bool false)) h)
 (Join
 (fun (s : Bool) (h : Array Obj) ↦
 CallsH Try.prog (29 : Nat) (TVs.vals [TV.slice parents, TV.slice targets, TV.slice stakes]) h fun (v : Value) (h : Array Obj) ↦
 ∃ (s_1 : Sl),
 ∃ (s_2 : Sl),
 ∃ (s_3 : Sl),
 ∃ (s_4 : Sl),
 v = TV.val (TV.agg [TV.slice s_1, TV.slice s_2, TV.slice s_3, TV.slice s_4]) ∧
 wok (newTV h (TV.agg [TV.slice Sl.nil, TV.slice Sl.nil, TV.slice Sl.nil, TV.slice Sl.nil]) (41 : Nat)) (Array.size h) (0 : Nat)
 (Nat.succ (Nat.add (1 : Nat) (Nat.add (1 : Nat) (1 : Nat)))) ∧
 ∃ (s_5 : Sl),
 ∃ (s_6 : Sl),
 ∃ (s_7 : Sl),
 ∃ (s_8 : Sl),
 (at1
 (TV.put (newTV h (TV.agg [TV.slice Sl.nil, TV.slice Sl.nil, TV.slice Sl.nil, TV.slice Sl.nil]) (41 : Nat))
 (Array.size h) (0 : Nat) (TV.agg [TV.slice s_1, TV.slice s_2, TV.slice s_3, TV.slice s_4]))
 (Array.size h) (0 : Nat) (slVal s_5) ∧
 at1
 (TV.put (newTV h (TV.agg [TV.slice Sl.nil, TV.slice Sl.nil, TV.slice Sl.nil, TV.slice Sl.nil]) (41 : Nat))
 (Array.size h) (0 : Nat) (TV.agg [TV.slice s_1, TV.slice s_2, TV.slice s_3, TV.slice s_4]))
 (Array.size h) (1 : Nat) (slVal s_6) ∧
 at1
 (TV.put (newTV h (TV.agg [TV.slice Sl.nil, TV.slice Sl.nil, TV.slice Sl.nil, TV.slice Sl.nil]) (41 : Nat))
 (Array.size h) (0 : Nat) (TV.agg [TV.slice s_1, TV.slice s_2, TV.slice s_3, TV.slice s_4]))
 (Array.size h) (2 : Nat) (slVal s_7) ∧
 at1
 (TV.put (newTV h (TV.agg [TV.slice Sl.nil, TV.slice Sl.nil, TV.slice Sl.nil, TV.slice Sl.nil]) (41 : Nat))
 (Array.size h) (0 : Nat) (TV.agg [TV.slice s_1, TV.slice s_2, TV.slice s_3, TV.slice s_4]))
 (Array.size h) (3 : Nat) (slVal s_8)) ∧
 CallsH Try.prog (30 : Nat) (TVs.vals [TV.agg [TV.slice s_5, TV.slice s_6, TV.slice s_7, TV.slice s_8]])
 (TV.put (newTV h (TV.agg [TV.slice Sl.nil, TV.slice Sl.nil, TV.slice Sl.nil, TV.slice Sl.nil]) (41 : Nat)) (Array.size h)
 (0 : Nat) (TV.agg [TV.slice s_1, TV.slice s_2, TV.slice s_3, TV.slice s_4]))
 fun (v : Value) (h_1 : Heap) ↦
 ∃ (b_1 : Bool),
 v = TV.val (TV.bool b_1) ∧
 If (!b_1) (R (TV.val (TV.bool true)) h_1)
 (∃ (s_9 : Sl),
 ∃ (s_10 : Sl),
 ∃ (s_11 : Sl),
 ∃ (s_12 : Sl),
 (at1 h_1 (Array.size h) (0 : Nat) (slVal s_9) ∧
 at1 h_1 (Array.size h) (1 : Nat) (slVal s_10) ∧
 at1 h_1 (Array.size h) (2 : Nat) (slVal s_11) ∧ at1 h_1 (Array.size h) (3 : Nat) (slVal s_12)) ∧
 CallsH Try.prog (31 : Nat) (TVs.vals [TV.agg [TV.slice s_9, TV.slice s_10, TV.slice s_11, TV.slice s_12]])
 h_1 fun (v : Value) (h_2 : Heap) ↦
 ∃ (s_13 : Sl),
 ∃ (s_14 : Sl),
 v = TV.val (TV.agg [TV.slice s_13, TV.slice s_14]) ∧
 CallsH Try.prog (34 : Nat) (TVs.vals [TV.agg [TV.slice s_13, TV.slice s_14]]) h_2
 fun (v : Value) (h_3 : Heap) ↦
 ∃ (b_2 : Bs (32 : Nat)),
 v = TV.val (TV.bytes (32 : Nat) b_2) ∧
 wok (newTV h_3 (TV.bytes (32 : Nat) (Bs.zero (32 : Nat))) (37 : Nat)) (Array.size h_3)
 (0 : Nat) (32 : Nat) ∧
 Go.Vc.Loop (s, (1 : Int))
 (TV.put (newTV h_3 (TV.bytes (32 : Nat) (Bs.zero (32 : Nat))) (37 : Nat))
 (Array.size h_3) (0 : Nat) (TV.bytes (32 : Nat) b_2))
 fun (s_15 : Bool × Int) (h_4 : Array Obj) (K : Bool × Int → Array Obj → Prop) ↦
 ∃ (s_16 : Sl),
 at1 h_4 (Array.size h) (1 : Nat) (slVal s_16) ∧
 If (decide (s_15.snd < (↑s_16.len : Int)))
 (∃ (s_17 : Sl),
 at1 h_4 (Array.size h) (1 : Nat) (slVal s_17) ∧
 (0 : Int) ≤ s_15.snd ∧
 s_15.snd < (↑s_17.len : Int) ∧
 Nn s_17.a fun (l : Go.Vc.Loc) ↦
 ∃ (b_3 : Bs (32 : Nat)),
 atBytes h_4 l.b (l.o + Int.toNat s_15.snd * (32 : Nat)) (32 : Nat)
 b_3 ∧
 ∃ (b_4 : Bs (32 : Nat)),
 atBytes h_4 (Array.size h_3) (0 : Nat) (32 : Nat) b_4 ∧
 If (decide (b_3.1 = b_4.1)) (R (TV.val (TV.bool false)) h_4)
 (K (s_15.fst, IntKind.wrap IntKind.i64 (s_15.snd + (1 : Int)))
 h_4))
 (∃ (s : Sl),
 ∃ (s_17 : Sl),
 ∃ (s_18 : Sl),
 ∃ (s_19 : Sl),
 (at1 h_4 (Array.size h) (0 : Nat) (slVal s) ∧
 at1 h_4 (Array.size h) (1 : Nat) (slVal s_17) ∧
 at1 h_4 (Array.size h) (2 : Nat) (slVal s_18) ∧
 at1 h_4 (Array.size h) (3 : Nat) (slVal s_19)) ∧
 wok
 (newTV h_4
 (TV.agg
 [TV.slice Sl.nil, TV.slice Sl.nil, TV.slice Sl.nil,
 TV.slice Sl.nil])
 (41 : Nat))
 (Array.size h_4) (0 : Nat)
 (Nat.succ (Nat.add (1 : Nat) (Nat.add (1 : Nat) (1 : Nat)))) ∧
 CallsH Try.prog (37 : Nat) (TVs.vals [TV.int IntKind.i64 (200 : Int)])
 (TV.put
 (newTV h_4
 (TV.agg
 [TV.slice Sl.nil, TV.slice Sl.nil, TV.slice Sl.nil,
 TV.slice Sl.nil])
 (41 : Nat))
 (Array.size h_4) (0 : Nat)
 (TV.agg
 [TV.slice s, TV.slice s_17, TV.slice s_18, TV.slice s_19]))
 fun (v : Value) (h_5 : Heap) ↦
 ∃ (b : Bs (32 : Nat)),
 v = TV.val (TV.bytes (32 : Nat) b) ∧
 wok
 (newTV h_5 (TV.bytes (32 : Nat) (Bs.zero (32 : Nat)))
 (37 : Nat))
 (Array.size h_5) (0 : Nat) (32 : Nat) ∧
 Join
 (fun (s : Sl × Sl × Sl × Bs (32 : Nat) × Sl × Sl)
 (h_6 : Array Obj) ↦
 Join
 (fun (s : Sl × Sl × Sl × Bs (32 : Nat) × Sl × Sl)
 (h : Array Obj) ↦
 ∃ (s : Sl),
 ∃ (s_20 : Sl),
 ∃ (s_21 : Sl),
 ∃ (s_22 : Sl),
 (at1 h (Array.size h_4) (0 : Nat) (slVal s) ∧
 at1 h (Array.size h_4) (1 : Nat)
 (slVal s_20) ∧
 at1 h (Array.size h_4) (2 : Nat)
 (slVal s_21) ∧
 at1 h (Array.size h_4) (3 : Nat)
 (slVal s_22)) ∧
 CallsH Try.prog (30 : Nat)
 (TVs.vals
 [TV.agg
 [TV.slice s, TV.slice s_20,
 TV.slice s_21, TV.slice s_22]])
 h fun (v : Value) (h : Array Obj) ↦
 ∃ (b : Bool),
 v = TV.val (TV.bool b) ∧
 If (!b) (R (TV.val (TV.bool true)) h)
 (∃ (s : Sl),
 ∃ (s_23 : Sl),
 ∃ (s_24 : Sl),
 ∃ (s_25 : Sl),
 (at1 h (Array.size h_4)
 (0 : Nat) (slVal s) ∧
 at1 h (Array.size h_4)
 (1 : Nat)
 (slVal s_23) ∧
 at1 h (Array.size h_4)
 (2 : Nat)
 (slVal s_24) ∧
 at1 h
 (Array.size h_4)
 (3 : Nat)
 (slVal s_25)) ∧
 ∃ (b : Bs (32 : Nat)),
 atBytes h
 (Array.size h_5)
 (0 : Nat) (32 : Nat)
 b ∧
 CallsH Try.prog
 (31 : Nat)
 (TVs.vals
 [TV.agg
 [TV.slice s,
 TV.slice
 s_23,
 TV.slice
 s_24,
 TV.slice
 s_25]])
 h
 fun (v : Value)
 (h_7 :
 Array Obj) ↦
 ∃ (s : Sl),
 ∃ (s_26 : Sl),
 v =
 TV.val
 (TV.agg
 [TV.slice
 s,
 TV.slice
 s_26]) ∧
 Ext h h_7 ∧
 CallsH
 Try.prog
 (34 : Nat)
 (TVs.vals
 [TV.agg
 [TV.slice
 s,
 TV.slice
 s_26]])
 h_7
 fun
 (v :
 Value)
 (h :
 Array
 Obj) ↦
 ∃ (b_3 :
 Bs
 (32 :
 Nat)),
 v =
 TV.val
 (TV.bytes
 (32 :
 Nat)
 b_3) ∧
 Ext
 h_7
 h ∧
 R
 (TV.val
 (TV.bool
 (decide
 (b_3.1 =
 b.1))))
 h))
 fun
 (J :
 Sl × Sl × Sl × Bs (32 : Nat) × Sl × Sl →
 Array Obj → Prop) ↦
 ∃ (s : Sl),
 at1 h_6 (Array.size h) (1 : Nat) (slVal s) ∧
 ∃ (b : Bs (32 : Nat)),
 atBytes h_6 (Array.size h_3) (0 : Nat) (32 : Nat)
 b ∧
 (Ext h_6
 (Array.push h_6
 (row (TVs.cells []) (37 : Nat))) ∧
 (∃ (new : List Value),
 slAt
 (Array.push h_6
 (row (TVs.cells []) (37 : Nat)))
 s (32 : Nat) new ∧
 (∀ (v : Value),
 v ∈ new → isOne v = true) ∧
 vcAppend Ytahoibjgojlpeaa.ctx
 (37 : Nat)
 (Sl.mk
 (some
 (Loc.mk (Array.size h_6)
 (0 : Nat)))
 (0 : Nat) (0 : Nat))
 s.len new
 (Array.push h_6
 (row (TVs.cells []) (37 : Nat)))
 fun (s_20 : Sl) (h : Array Obj) ↦
 Ext
 (Array.push h_6
 (row (TVs.cells [])
 (37 : Nat)))
 h ∧
 Ext h
 (Array.push h
 (row
 (TVs.cells
 [TV.bytes (32 : Nat)
 b])
 (37 : Nat))) ∧
 ∃ (new : List Value),
 slAt
 (Array.push h
 (row
 (TVs.cells
 [TV.bytes
 (32 : Nat) b])
 (37 : Nat)))
 (Sl.mk
 (some
 (Loc.mk
 (Array.size h)
 (0 : Nat)))
 (1 : Nat) (1 : Nat))
 (32 : Nat) new ∧
 (∀ (v : Value),
 v ∈ new →
 isOne v = true) ∧
 vcAppend
 Ytahoibjgojlpeaa.ctx
 (37 : Nat) s_20
 (1 : Nat) new
 (Array.push h
 (row
 (TVs.cells
 [TV.bytes
 (32 : Nat)
 b])
 (37 : Nat)))
 fun (s_21 : Sl)
 (h_7 : Array Obj) ↦
 wok h_7
 (Array.size h_4)
 (1 : Nat)
 (1 : Nat) ∧
 J
 (Sl.mk
 (some
 (Loc.mk
 (Array.size
 h_6)
 (0 :
 Nat)))
 (0 : Nat)
 (0 : Nat),
 s, s_20, b,
 Sl.mk
 (some
 (Loc.mk
 (Array.size
 h)
 (0 :
 Nat)))
 (1 : Nat)
 (1 : Nat),
 s_21)
 (TV.put h_7
 (Array.size h_4)
 (1 : Nat)
 (TV.slice
 s_21))) ∧
 Ext
 (Array.push h_6
 (row (TVs.cells []) (37 : Nat)))
 (Array.push
 (Array.push h_6
 (row (TVs.cells []) (37 : Nat)))
 (row
 (TVs.cells
 [TV.bytes (32 : Nat) b])
 (37 : Nat))) ∧
 ∃ (new : List Value),
 slAt
 (Array.push
 (Array.push h_6
 (row (TVs.cells [])
 (37 : Nat)))
 (row
 (TVs.cells
 [TV.bytes (32 : Nat) b])
 (37 : Nat)))
 s (32 : Nat) new ∧
 (∀ (v : Value),
 v ∈ new → isOne v = true) ∧
 vcAppend Ytahoibjgojlpeaa.ctx
 (37 : Nat)
 (Sl.mk
 (some
 (Loc.mk (Array.size h_6)
 (0 : Nat)))
 (0 : Nat) (0 : Nat))
 s.len new
 (Array.push
 (Array.push h_6
 (row (TVs.cells [])
 (37 : Nat)))
 (row
 (TVs.cells
 [TV.bytes (32 : Nat) b])
 (37 : Nat)))
 fun (s_20 : Sl)
 (h : Array Obj) ↦
 Ext
 (Array.push
 (Array.push h_6
 (row (TVs.cells [])
 (37 : Nat)))
 (row
 (TVs.cells
 [TV.bytes (32 : Nat)
 b])
 (37 : Nat)))
 h ∧
 ∃ (new : List Value),
 slAt h
 (Sl.mk
 (some
 (Loc.mk
 (Array.size
 (Array.push h_6
 (row
 (TVs.cells
 [])
 (37 :
 Nat))))
 (0 : Nat)))
 (1 : Nat) (1 : Nat))
 (32 : Nat) new ∧
 (∀ (v : Value),
 v ∈ new →
 isOne v = true) ∧
 vcAppend
 Ytahoibjgojlpeaa.ctx
 (37 : Nat) s_20
 (1 : Nat) new h
 fun (s_21 : Sl)
 (h : Array Obj) ↦
 wok h (Array.size h_4)
 (1 : Nat)
 (1 : Nat) ∧
 J
 (Sl.mk
 (some
 (Loc.mk
 (Array.size
 h_6)
 (0 :
 Nat)))
 (0 : Nat)
 (0 : Nat),
 s, s_20, b,
 Sl.mk
 (some
 (Loc.mk
 (Array.size
 (Array.push
 h_6
 (row
 (TVs.cells
 [])
 (37 :
 Nat))))
 (0 :
 Nat)))
 (1 : Nat)
 (1 : Nat),
 s_21)
 (TV.put h
 (Array.size h_4)
 (1 : Nat)
 (TV.slice
 s_21))) ∧
 Ext h_6
 (Array.push h_6
 (row (TVs.cells [TV.bytes (32 : Nat) b])
 (37 : Nat))) ∧
 Ext
 (Array.push h_6
 (row
 (TVs.cells [TV.bytes (32 : Nat) b])
 (37 : Nat)))
 (Array.push
 (Array.push h_6
 (row
 (TVs.cells
 [TV.bytes (32 : Nat) b])
 (37 : Nat)))
 (row (TVs.cells []) (37 : Nat))) ∧
 ∃ (new : List Value),
 slAt
 (Array.push
 (Array.push h_6
 (row
 (TVs.cells
 [TV.bytes (32 : Nat) b])
 (37 : Nat)))
 (row (TVs.cells []) (37 : Nat)))
 s (32 : Nat) new ∧
 (∀ (v : Value),
 v ∈ new → isOne v = true) ∧
 vcAppend Ytahoibjgojlpeaa.ctx
 (37 : Nat)
 (Sl.mk
 (some
 (Loc.mk
 (Array.size
 (Array.push h_6
 (row
 (TVs.cells
 [TV.bytes (32 : Nat)
 b])
 (37 : Nat))))
 (0 : Nat)))
 (0 : Nat) (0 : Nat))
 s.len new
 (Array.push
 (Array.push h_6
 (row
 (TVs.cells
 [TV.bytes (32 : Nat) b])
 (37 : Nat)))
 (row (TVs.cells []) (37 : Nat)))
 fun (s_20 : Sl) (h : Array Obj) ↦
 Ext
 (Array.push
 (Array.push h_6
 (row
 (TVs.cells
 [TV.bytes (32 : Nat)
 b])
 (37 : Nat)))
 (row (TVs.cells [])
 (37 : Nat)))
 h ∧
 ∃ (new : List Value),
 slAt h
 (Sl.mk
 (some
 (Loc.mk
 (Array.size h_6)
 (0 : Nat)))
 (1 : Nat) (1 : Nat))
 (32 : Nat) new ∧
 (∀ (v : Value),
 v ∈ new →
 isOne v = true) ∧
 vcAppend
 Ytahoibjgojlpeaa.ctx
 (37 : Nat) s_20
 (1 : Nat) new h
 fun (s_21 : Sl)
 (h : Array Obj) ↦
 wok h (Array.size h_4)
 (1 : Nat)
 (1 : Nat) ∧
 J
 (Sl.mk
 (some
 (Loc.mk
 (Array.size
 (Array.push
 h_6
 (row
 (TVs.cells
 [TV.bytes
 (32 :
 Nat)
 b])
 (37 :
 Nat))))
 (0 : Nat)))
 (0 : Nat)
 (0 : Nat),
 s, s_20, b,
 Sl.mk
 (some
 (Loc.mk
 (Array.size
 h_6)
 (0 : Nat)))
 (1 : Nat)
 (1 : Nat),
 s_21)
 (TV.put h
 (Array.size h_4)
 (1 : Nat)
 (TV.slice s_21)))
 fun
 (J :
 Sl × Sl × Sl × Bs (32 : Nat) × Sl × Sl →
 Array Obj → Prop) ↦
 ∃ (s : Sl),
 at1
 (TV.put
 (newTV h_5
 (TV.bytes (32 : Nat) (Bs.zero (32 : Nat)))
 (37 : Nat))
 (Array.size h_5) (0 : Nat) (TV.bytes (32 : Nat) b))
 (Array.size h) (0 : Nat) (slVal s) ∧
 ∃ (b_3 : Bs (32 : Nat)),
 atBytes
 (TV.put
 (newTV h_5
 (TV.bytes (32 : Nat) (Bs.zero (32 : Nat)))
 (37 : Nat))
 (Array.size h_5) (0 : Nat)
 (TV.bytes (32 : Nat) b))
 (Array.size h_5) (0 : Nat) (32 : Nat) b_3 ∧
 (Ext
 (TV.put
 (newTV h_5
 (TV.bytes (32 : Nat) (Bs.zero (32 : Nat)))
 (37 : Nat))
 (Array.size h_5) (0 : Nat)
 (TV.bytes (32 : Nat) b))
 (Array.push
 (TV.put
 (newTV h_5
 (TV.bytes (32 : Nat)
 (Bs.zero (32 : Nat)))
 (37 : Nat))
 (Array.size h_5) (0 : Nat)
 (TV.bytes (32 : Nat) b))
 (row (TVs.cells []) (37 : Nat))) ∧
 (∃ (new : List Value),
 slAt
 (Array.push
 (TV.put
 (newTV h_5
 (TV.bytes (32 : Nat)
 (Bs.zero (32 : Nat)))
 (37 : Nat))
 (Array.size h_5) (0 : Nat)
 (TV.bytes (32 : Nat) b))
 (row (TVs.cells []) (37 : Nat)))
 s (32 : Nat) new ∧
 (∀ (v : Value),
 v ∈ new → isOne v = true) ∧
 vcAppend Ytahoibjgojlpeaa.ctx (37 : Nat)
 (Sl.mk
 (some
 (Loc.mk
 (Array.size
 (TV.put
 (newTV h_5
 (TV.bytes (32 : Nat)
 (Bs.zero (32 : Nat)))
 (37 : Nat))
 (Array.size h_5) (0 : Nat)
 (TV.bytes (32 : Nat) b)))
 (0 : Nat)))
 (0 : Nat) (0 : Nat))
 s.len new
 (Array.push
 (TV.put
 (newTV h_5
 (TV.bytes (32 : Nat)
 (Bs.zero (32 : Nat)))
 (37 : Nat))
 (Array.size h_5) (0 : Nat)
 (TV.bytes (32 : Nat) b))
 (row (TVs.cells []) (37 : Nat)))
 fun (s_20 : Sl) (h : Array Obj) ↦
 Ext
 (Array.push
 (TV.put
 (newTV h_5
 (TV.bytes (32 : Nat)
 (Bs.zero (32 : Nat)))
 (37 : Nat))
 (Array.size h_5) (0 : Nat)
 (TV.bytes (32 : Nat) b))
 (row (TVs.cells []) (37 : Nat)))
 h ∧
 Ext h
 (Array.push h
 (row
 (TVs.cells
 [TV.bytes (32 : Nat) b_3])
 (37 : Nat))) ∧
 ∃ (new : List Value),
 slAt
 (Array.push h
 (row
 (TVs.cells
 [TV.bytes (32 : Nat)
 b_3])
 (37 : Nat)))
 (Sl.mk
 (some
 (Loc.mk (Array.size h)
 (0 : Nat)))
 (1 : Nat) (1 : Nat))
 (32 : Nat) new ∧
 (∀ (v : Value),
 v ∈ new →
 isOne v = true) ∧
 vcAppend
 Ytahoibjgojlpeaa.ctx
 (37 : Nat) s_20 (1 : Nat)
 new
 (Array.push h
 (row
 (TVs.cells
 [TV.bytes (32 : Nat)
 b_3])
 (37 : Nat)))
 fun (s_21 : Sl)
 (h_6 : Array Obj) ↦
 wok h_6 (Array.size h_4)
 (0 : Nat) (1 : Nat) ∧
 J
 (Sl.mk
 (some
 (Loc.mk
 (Array.size
 (TV.put
 (newTV h_5
 (TV.bytes
 (32 :
 Nat)
 (Bs.zero
 (32 :
 Nat)))
 (37 :
 Nat))
 (Array.size
 h_5)
 (0 : Nat)
 (TV.bytes
 (32 :
 Nat)
 b)))
 (0 : Nat)))
 (0 : Nat)
 (0 : Nat),
 s, s_20, b_3,
 Sl.mk
 (some
 (Loc.mk
 (Array.size h)
 (0 : Nat)))
 (1 : Nat)
 (1 : Nat),
 s_21)
 (TV.put h_6
 (Array.size h_4)
 (0 : Nat)
 (TV.slice s_21))) ∧
 Ext
 (Array.push
 (TV.put
 (newTV h_5
 (TV.bytes (32 : Nat)
 (Bs.zero (32 : Nat)))
 (37 : Nat))
 (Array.size h_5) (0 : Nat)
 (TV.bytes (32 : Nat) b))
 (row (TVs.cells []) (37 : Nat)))
 (Array.push
 (Array.push
 (TV.put
 (newTV h_5
 (TV.bytes (32 : Nat)
 (Bs.zero (32 : Nat)))
 (37 : Nat))
 (Array.size h_5) (0 : Nat)
 (TV.bytes (32 : Nat) b))
 (row (TVs.cells []) (37 : Nat)))
 (row
 (TVs.cells [TV.bytes (32 : Nat) b_3])
 (37 : Nat))) ∧
 ∃ (new : List Value),
 slAt
 (Array.push
 (Array.push
 (TV.put
 (newTV h_5
 (TV.bytes (32 : Nat)
 (Bs.zero (32 : Nat)))
 (37 : Nat))
 (Array.size h_5) (0 : Nat)
 (TV.bytes (32 : Nat) b))
 (row (TVs.cells []) (37 : Nat)))
 (row
 (TVs.cells
 [TV.bytes (32 : Nat) b_3])
 (37 : Nat)))
 s (32 : Nat) new ∧
 (∀ (v : Value),
 v ∈ new → isOne v = true) ∧
 vcAppend Ytahoibjgojlpeaa.ctx
 (37 : Nat)
 (Sl.mk
 (some
 (Loc.mk
 (Array.size
 (TV.put
 (newTV h_5
 (TV.bytes (32 : Nat)
 (Bs.zero (32 : Nat)))
 (37 : Nat))
 (Array.size h_5) (0 : Nat)
 (TV.bytes (32 : Nat) b)))
 (0 : Nat)))
 (0 : Nat) (0 : Nat))
 s.len new
 (Array.push
 (Array.push
 (TV.put
 (newTV h_5
 (TV.bytes (32 : Nat)
 (Bs.zero (32 : Nat)))
 (37 : Nat))
 (Array.size h_5) (0 : Nat)
 (TV.bytes (32 : Nat) b))
 (row (TVs.cells []) (37 : Nat)))
 (row
 (TVs.cells
 [TV.bytes (32 : Nat) b_3])
 (37 : Nat)))
 fun (s_20 : Sl) (h : Array Obj) ↦
 Ext
 (Array.push
 (Array.push
 (TV.put
 (newTV h_5
 (TV.bytes (32 : Nat)
 (Bs.zero (32 : Nat)))
 (37 : Nat))
 (Array.size h_5) (0 : Nat)
 (TV.bytes (32 : Nat) b))
 (row (TVs.cells [])
 (37 : Nat)))
 (row
 (TVs.cells
 [TV.bytes (32 : Nat) b_3])
 (37 : Nat)))
 h ∧
 ∃ (new : List Value),
 slAt h
 (Sl.mk
 (some
 (Loc.mk
 (Array.size
 (Array.push
 (TV.put
 (newTV h_5
 (TV.bytes
 (32 : Nat)
 (Bs.zero
 (32 :
 Nat)))
 (37 : Nat))
 (Array.size h_5)
 (0 : Nat)
 (TV.bytes
 (32 : Nat) b))
 (row
 (TVs.cells [])
 (37 : Nat))))
 (0 : Nat)))
 (1 : Nat) (1 : Nat))
 (32 : Nat) new ∧
 (∀ (v : Value),
 v ∈ new →
 isOne v = true) ∧
 vcAppend
 Ytahoibjgojlpeaa.ctx
 (37 : Nat) s_20 (1 : Nat)
 new h
 fun (s_21 : Sl)
 (h : Array Obj) ↦
 wok h (Array.size h_4)
 (0 : Nat) (1 : Nat) ∧
 J
 (Sl.mk
 (some
 (Loc.mk
 (Array.size
 (TV.put
 (newTV h_5
 (TV.bytes
 (32 :
 Nat)
 (Bs.zero
 (32 :
 Nat)))
 (37 :
 Nat))
 (Array.size
 h_5)
 (0 : Nat)
 (TV.bytes
 (32 :
 Nat)
 b)))
 (0 : Nat)))
 (0 : Nat)
 (0 : Nat),
 s, s_20, b_3,
 Sl.mk
 (some
 (Loc.mk
 (Array.size
 (Array.push
 (TV.put
 (newTV
 h_5
 (TV.bytes
 (32 :
 Nat)
 (Bs.zero
 (32 :
 Nat)))
 (37 :
 Nat))
 (Array.size
 h_5)
 (0 :
 Nat)
 (TV.bytes
 (32 :
 Nat)
 b))
 (row
 (TVs.cells
 [])
 (37 :
 Nat))))
 (0 : Nat)))
 (1 : Nat)
 (1 : Nat),
 s_21)
 (TV.put h
 (Array.size h_4)
 (0 : Nat)
 (TV.slice s_21))) ∧
 Ext
 (TV.put
 (newTV h_5
 (TV.bytes (32 : Nat) (Bs.zero (32 : Nat)))
 (37 : Nat))
 (Array.size h_5) (0 : Nat)
 (TV.bytes (32 : Nat) b))
 (Array.push
 (TV.put
 (newTV h_5
 (TV.bytes (32 : Nat)
 (Bs.zero (32 : Nat)))
 (37 : Nat))
 (Array.size h_5) (0 : Nat)
 (TV.bytes (32 : Nat) b))
 (row (TVs.cells [TV.bytes (32 : Nat) b_3])
 (37 : Nat))) ∧
 Ext
 (Array.push
 (TV.put
 (newTV h_5
 (TV.bytes (32 : Nat)
 (Bs.zero (32 : Nat)))
 (37 : Nat))
 (Array.size h_5) (0 : Nat)
 (TV.bytes (32 : Nat) b))
 (row (TVs.cells [TV.bytes (32 : Nat) b_3])
 (37 : Nat)))
 (Array.push
 (Array.push
 (TV.put
 (newTV h_5
 (TV.bytes (32 : Nat)
 (Bs.zero (32 : Nat)))
 (37 : Nat))
 (Array.size h_5) (0 : Nat)
 (TV.bytes (32 : Nat) b))
 (row
 (TVs.cells [TV.bytes (32 : Nat) b_3])
 (37 : Nat)))
 (row (TVs.cells []) (37 : Nat))) ∧
 ∃ (new : List Value),
 slAt
 (Array.push
 (Array.push
 (TV.put
 (newTV h_5
 (TV.bytes (32 : Nat)
 (Bs.zero (32 : Nat)))
 (37 : Nat))
 (Array.size h_5) (0 : Nat)
 (TV.bytes (32 : Nat) b))
 (row
 (TVs.cells
 [TV.bytes (32 : Nat) b_3])
 (37 : Nat)))
 (row (TVs.cells []) (37 : Nat)))
 s (32 : Nat) new ∧
 (∀ (v : Value),
 v ∈ new → isOne v = true) ∧
 vcAppend Ytahoibjgojlpeaa.ctx (37 : Nat)
 (Sl.mk
 (some
 (Loc.mk
 (Array.size
 (Array.push
 (TV.put
 (newTV h_5
 (TV.bytes (32 : Nat)
 (Bs.zero (32 : Nat)))
 (37 : Nat))
 (Array.size h_5) (0 : Nat)
 (TV.bytes (32 : Nat) b))
 (row
 (TVs.cells
 [TV.bytes (32 : Nat)
 b_3])
 (37 : Nat))))
 (0 : Nat)))
 (0 : Nat) (0 : Nat))
 s.len new
 (Array.push
 (Array.push
 (TV.put
 (newTV h_5
 (TV.bytes (32 : Nat)
 (Bs.zero (32 : Nat)))
 (37 : Nat))
 (Array.size h_5) (0 : Nat)
 (TV.bytes (32 : Nat) b))
 (row
 (TVs.cells
 [TV.bytes (32 : Nat) b_3])
 (37 : Nat)))
 (row (TVs.cells []) (37 : Nat)))
 fun (s_20 : Sl) (h : Array Obj) ↦
 Ext
 (Array.push
 (Array.push
 (TV.put
 (newTV h_5
 (TV.bytes (32 : Nat)
 (Bs.zero (32 : Nat)))
 (37 : Nat))
 (Array.size h_5) (0 : Nat)
 (TV.bytes (32 : Nat) b))
 (row
 (TVs.cells
 [TV.bytes (32 : Nat) b_3])
 (37 : Nat)))
 (row (TVs.cells []) (37 : Nat)))
 h ∧
 ∃ (new : List Value),
 slAt h
 (Sl.mk
 (some
 (Loc.mk
 (Array.size
 (TV.put
 (newTV h_5
 (TV.bytes
 (32 : Nat)
 (Bs.zero
 (32 : Nat)))
 (37 : Nat))
 (Array.size h_5)
 (0 : Nat)
 (TV.bytes (32 : Nat)
 b)))
 (0 : Nat)))
 (1 : Nat) (1 : Nat))
 (32 : Nat) new ∧
 (∀ (v : Value),
 v ∈ new → isOne v = true) ∧
 vcAppend Ytahoibjgojlpeaa.ctx
 (37 : Nat) s_20 (1 : Nat)
 new h
 fun (s_21 : Sl)
 (h : Array Obj) ↦
 wok h (Array.size h_4)
 (0 : Nat) (1 : Nat) ∧
 J
 (Sl.mk
 (some
 (Loc.mk
 (Array.size
 (Array.push
 (TV.put
 (newTV h_5
 (TV.bytes
 (32 :
 Nat)
 (Bs.zero
 (32 :
 Nat)))
 (37 :
 Nat))
 (Array.size
 h_5)
 (0 : Nat)
 (TV.bytes
 (32 :
 Nat)
 b))
 (row
 (TVs.cells
 [TV.bytes
 (32 :
 Nat)
 b_3])
 (37 :
 Nat))))
 (0 : Nat)))
 (0 : Nat) (0 : Nat),
 s, s_20, b_3,
 Sl.mk
 (some
 (Loc.mk
 (Array.size
 (TV.put
 (newTV h_5
 (TV.bytes
 (32 :
 Nat)
 (Bs.zero
 (32 :
 Nat)))
 (37 :
 Nat))
 (Array.size
 h_5)
 (0 : Nat)
 (TV.bytes
 (32 : Nat)
 b)))
 (0 : Nat)))
 (1 : Nat) (1 : Nat),
 s_21)
 (TV.put h
 (Array.size h_4)
 (0 : Nat)
 (TV.slice s_21)))))
 fun (J : Bool → Array Obj → Prop) ↦
 CallsH Try.prog (28 : Nat) (TVs.vals [TV.slice parents, TV.slice targets, TV.slice stakes]) h fun (v : Value) (h : Heap) ↦
 ∃ (b : Bool),
 v = TV.val (TV.bool b) ∧
 If b (R (TV.val (TV.bool true)) h) (If (decide ((39 : Int) < (↑parents.len : Int))) (R (TV.val (TV.bool true)) h) (J false h)))

theorem tollerlaw20_GhostLeaves_calls (parents : Sl) (targets : Sl) (stakes : Sl) (h : Heap) (R : Value → Heap → Prop) (H : tollerlaw20_GhostLeaves_vc parents targets stakes h R) : CallsH Try.prog 11 (TVs.vals [TV.slice parents, TV.slice targets, TV.slice stakes]) h R :=
 vcFn_sound (C := ctx) ctx_ok (fn := Try.f11) Try.func11 ((by kernel_rfl : tollerlaw20_GhostLeaves_vc parents targets stakes h R = vcFn ctx Try.f11 [TV.slice parents, TV.slice targets, TV.slice stakes] h R) ▸ H)


end Go.Proofs.Ytahoibjgojlpeaa
