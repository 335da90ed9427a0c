/- The conditions of functions, as the generator reckons them out, each with the proof that it is that. -/
import Derived.Test.YtahoibjgojlpeaaCtx
namespace Go.Proofs.Ytahoibjgojlpeaa
open Go Go.Vc
set_option maxRecDepth 100000
set_option linter.unusedVariables false

def tollerlaw20_GhostShares_vc (parents : Sl) (targets : Sl) (stakes : Sl) (turn : Int) (cut : Int) (h : Heap) (R : Value → Heap → Prop) : Prop :=
 CallsH Try.prog (27 : Nat) (TVs.vals []) h fun (v : Value) (h : Heap) ↦
 ∃ (b : Bool),
 v = TV.val (TV.bool b) ∧
 If (!b) (R (TV.val (TV.bool false)) h)
 (Join
 (fun (s : Bool) (h : Array Obj) ↦
 CallsH Try.prog (29 : Nat) (TVs.vals [TV.slice parents, TV.slice targets, TV.slice stakes]) h fun (v : Value) (h : Array Obj) ↦
 ∃ (s_1 : Sl),
 ∃ (s_2 : Sl),
 ∃ (s_3 : Sl),
 ∃ (s_4 : Sl),
 v = TV.val (TV.agg [TV.slice s_1, TV.slice s_2, TV.slice s_3, TV.slice s_4]) ∧
 wok (newTV h (TV.agg [TV.slice Sl.nil, TV.slice Sl.nil, TV.slice Sl.nil, TV.slice Sl.nil]) (41 : Nat)) (Array.size h) (0 : Nat)
 (Nat.succ (Nat.add (1 : Nat) (Nat.add (1 : Nat) (1 : Nat)))) ∧
 ∃ (s_5 : Sl),
 ∃ (s_6 : Sl),
 ∃ (s_7 : Sl),
 ∃ (s_8 : Sl),
 (at1
 (TV.put (newTV h (TV.agg [TV.slice Sl.nil, TV.slice Sl.nil, TV.slice Sl.nil, TV.slice Sl.nil]) (41 : Nat))
 (Array.size h) (0 : Nat) (TV.agg [TV.slice s_1, TV.slice s_2, TV.slice s_3, TV.slice s_4]))
 (Array.size h) (0 : Nat) (slVal s_5) ∧
 at1
 (TV.put (newTV h (TV.agg [TV.slice Sl.nil, TV.slice Sl.nil, TV.slice Sl.nil, TV.slice Sl.nil]) (41 : Nat))
 (Array.size h) (0 : Nat) (TV.agg [TV.slice s_1, TV.slice s_2, TV.slice s_3, TV.slice s_4]))
 (Array.size h) (1 : Nat) (slVal s_6) ∧
 at1
 (TV.put (newTV h (TV.agg [TV.slice Sl.nil, TV.slice Sl.nil, TV.slice Sl.nil, TV.slice Sl.nil]) (41 : Nat))
 (Array.size h) (0 : Nat) (TV.agg [TV.slice s_1, TV.slice s_2, TV.slice s_3, TV.slice s_4]))
 (Array.size h) (2 : Nat) (slVal s_7) ∧
 at1
 (TV.put (newTV h (TV.agg [TV.slice Sl.nil, TV.slice Sl.nil, TV.slice Sl.nil, TV.slice Sl.nil]) (41 : Nat))
 (Array.size h) (0 : Nat) (TV.agg [TV.slice s_1, TV.slice s_2, TV.slice s_3, TV.slice s_4]))
 (Array.size h) (3 : Nat) (slVal s_8)) ∧
 CallsH Try.prog (30 : Nat) (TVs.vals [TV.agg [TV.slice s_5, TV.slice s_6, TV.slice s_7, TV.slice s_8]])
 (TV.put (newTV h (TV.agg [TV.slice Sl.nil, TV.slice Sl.nil, TV.slice Sl.nil, TV.slice Sl.nil]) (41 : Nat)) (Array.size h)
 (0 : Nat) (TV.agg [TV.slice s_1, TV.slice s_2, TV.slice s_3, TV.slice s_4]))
 fun (v : Value) (h_1 : Heap) ↦
 ∃ (b_1 : Bool),
 v = TV.val (TV.bool b_1) ∧
 If (!b_1) (R (TV.val (TV.bool true)) h_1)
 (IntKind.wrap IntKind.u64 (↑stakes.len : Int) ≠ (0 : Int) ∧
 ∃ (s_9 : Sl),
 ∃ (s_10 : Sl),
 ∃ (s_11 : Sl),
 ∃ (s_12 : Sl),
 (at1 h_1 (Array.size h) (0 : Nat) (slVal s_9) ∧
 at1 h_1 (Array.size h) (1 : Nat) (slVal s_10) ∧
 at1 h_1 (Array.size h) (2 : Nat) (slVal s_11) ∧ at1 h_1 (Array.size h) (3 : Nat) (slVal s_12)) ∧
 wok (newTV h_1 (TV.agg [TV.slice Sl.nil, TV.slice Sl.nil, TV.slice Sl.nil, TV.slice Sl.nil]) (41 : Nat))
 (Array.size h_1) (0 : Nat) (Nat.succ (Nat.add (1 : Nat) (Nat.add (1 : Nat) (1 : Nat)))) ∧
 wok
 (TV.put
 (newTV h_1 (TV.agg [TV.slice Sl.nil, TV.slice Sl.nil, TV.slice Sl.nil, TV.slice Sl.nil])
 (41 : Nat))
 (Array.size h_1) (0 : Nat) (TV.agg [TV.slice s_9, TV.slice s_10, TV.slice s_11, TV.slice s_12]))
 (Array.size h_1) (2 : Nat) (1 : Nat) ∧
 wok
 (TV.put
 (TV.put
 (newTV h_1 (TV.agg [TV.slice Sl.nil, TV.slice Sl.nil, TV.slice Sl.nil, TV.slice Sl.nil])
 (41 : Nat))
 (Array.size h_1) (0 : Nat)
 (TV.agg [TV.slice s_9, TV.slice s_10, TV.slice s_11, TV.slice s_12]))
 (Array.size h_1) (2 : Nat) (TV.slice Sl.nil))
 (Array.size h_1) (3 : Nat) (1 : Nat) ∧
 Go.Vc.Loop (0 : Int)
 (TV.put
 (TV.put
 (TV.put
 (newTV h_1 (TV.agg [TV.slice Sl.nil, TV.slice Sl.nil, TV.slice Sl.nil, TV.slice Sl.nil])
 (41 : Nat))
 (Array.size h_1) (0 : Nat)
 (TV.agg [TV.slice s_9, TV.slice s_10, TV.slice s_11, TV.slice s_12]))
 (Array.size h_1) (2 : Nat) (TV.slice Sl.nil))
 (Array.size h_1) (3 : Nat) (TV.slice Sl.nil))
 fun (s_13 : Int) (h_2 : Array Obj) (K : Int → Array Obj → Prop) ↦
 If (decide (s_13 < (↑stakes.len : Int)))
 ((↑stakes.len : Int) ≠ (0 : Int) ∧
 (0 : Int) ≤
 Int.tmod
 (IntKind.wrap IntKind.i64
 (s_13 +
 IntKind.wrap IntKind.i64
 (Int.tmod (IntKind.wrap IntKind.u64 turn)
 (IntKind.wrap IntKind.u64 (↑stakes.len : Int)))))
 (↑stakes.len : Int) ∧
 Int.tmod
 (IntKind.wrap IntKind.i64
 (s_13 +
 IntKind.wrap IntKind.i64
 (Int.tmod (IntKind.wrap IntKind.u64 turn)
 (IntKind.wrap IntKind.u64 (↑stakes.len : Int)))))
 (↑stakes.len : Int) <
 (↑stakes.len : Int) ∧
 Nn stakes.a fun (l : Go.Vc.Loc) ↦
 ∃ (n : Int),
 at1 h_2 l.b
 (l.o +
 Int.toNat
 (Int.tmod
 (IntKind.wrap IntKind.i64
 (s_13 +
 IntKind.wrap IntKind.i64
 (Int.tmod (IntKind.wrap IntKind.u64 turn)
 (IntKind.wrap IntKind.u64 (↑stakes.len : Int)))))
 (↑stakes.len : Int)) *
 (1 : Nat))
 (Value.int IntKind.i64 n) ∧
 ∃ (s : Sl),
 at1 h_2 (Array.size h_1) (2 : Nat) (slVal s) ∧
 ∃ (s_14 : Sl),
 at1 h_2 (Array.size h) (2 : Nat) (slVal s_14) ∧
 (0 : Int) ≤
 Int.tmod
 (IntKind.wrap IntKind.i64
 (s_13 +
 IntKind.wrap IntKind.i64
 (Int.tmod (IntKind.wrap IntKind.u64 turn)
 (IntKind.wrap IntKind.u64 (↑stakes.len : Int)))))
 (↑stakes.len : Int) ∧
 Int.tmod
 (IntKind.wrap IntKind.i64
 (s_13 +
 IntKind.wrap IntKind.i64
 (Int.tmod (IntKind.wrap IntKind.u64 turn)
 (IntKind.wrap IntKind.u64 (↑stakes.len : Int)))))
 (↑stakes.len : Int) <
 (↑s_14.len : Int) ∧
 Nn s_14.a fun (l : Go.Vc.Loc) ↦
 ∃ (b : Bs (32 : Nat)),
 atBytes h_2 l.b
 (l.o +
 Int.toNat
 (Int.tmod
 (IntKind.wrap IntKind.i64
 (s_13 +
 IntKind.wrap IntKind.i64
 (Int.tmod (IntKind.wrap IntKind.u64 turn)
 (IntKind.wrap IntKind.u64
 (↑stakes.len : Int)))))
 (↑stakes.len : Int)) *
 (32 : Nat))
 (32 : Nat) b ∧
 ∃ (s_15 : Sl),
 at1 h_2 (Array.size h) (2 : Nat) (slVal s_15) ∧
 (0 : Int) ≤
 Int.tmod
 (IntKind.wrap IntKind.i64
 (s_13 +
 IntKind.wrap IntKind.i64
 (Int.tmod (IntKind.wrap IntKind.u64 turn)
 (IntKind.wrap IntKind.u64
 (↑stakes.len : Int)))))
 (↑stakes.len : Int) ∧
 Int.tmod
 (IntKind.wrap IntKind.i64
 (s_13 +
 IntKind.wrap IntKind.i64
 (Int.tmod (IntKind.wrap IntKind.u64 turn)
 (IntKind.wrap IntKind.u64
 (↑stakes.len : Int)))))
 (↑stakes.len : Int) <
 (↑s_15.len : Int) ∧
 Nn s_15.a fun (l : Go.Vc.Loc) ↦
 ∃ (b_2 : Bs (32 : Nat)),
 atBytes h_2 l.b
 (l.o +
 Int.toNat
 (Int.tmod
 (IntKind.wrap IntKind.i64
 (s_13 +
 IntKind.wrap IntKind.i64
 (Int.tmod
 (IntKind.wrap IntKind.u64 turn)
 (IntKind.wrap IntKind.u64
 (↑stakes.len : Int)))))
 (↑stakes.len : Int)) *
 (32 : Nat))
 (32 : Nat) b_2 ∧
 Ext h_2
 (Array.push h_2
 (row
 (TVs.cells
 [TV.bytes (32 : Nat) b,
 TV.bytes (32 : Nat) b_2])
 (37 : Nat))) ∧
 ∃ (new : List Value),
 slAt
 (Array.push h_2
 (row
 (TVs.cells
 [TV.bytes (32 : Nat) b,
 TV.bytes (32 : Nat) b_2])
 (37 : Nat)))
 (Sl.mk
 (some
 (Loc.mk (Array.size h_2) (0 : Nat)))
 (2 : Nat) (2 : Nat))
 (32 : Nat) new ∧
 (∀ (v : Value), v ∈ new → isOne v = true) ∧
 vcAppend Ytahoibjgojlpeaa.ctx (37 : Nat) s
 (2 : Nat) new
 (Array.push h_2
 (row
 (TVs.cells
 [TV.bytes (32 : Nat) b,
 TV.bytes (32 : Nat) b_2])
 (37 : Nat)))
 fun (s : Sl) (h : Array Obj) ↦
 wok h (Array.size h_1) (2 : Nat)
 (1 : Nat) ∧
 ∃ (s_16 : Sl),
 at1
 (TV.put h (Array.size h_1)
 (2 : Nat) (TV.slice s))
 (Array.size h_1) (3 : Nat)
 (slVal s_16) ∧
 (0 : Int) ≤
 Int.tmod
 (IntKind.wrap IntKind.i64
 (s_13 +
 IntKind.wrap IntKind.i64
 (Int.tmod
 (IntKind.wrap
 IntKind.u64 turn)
 (IntKind.wrap
 IntKind.u64
 (↑stakes.len :
 Int)))))
 (↑stakes.len : Int) ∧
 Int.tmod
 (IntKind.wrap IntKind.i64
 (s_13 +
 IntKind.wrap
 IntKind.i64
 (Int.tmod
 (IntKind.wrap
 IntKind.u64
 turn)
 (IntKind.wrap
 IntKind.u64
 (↑stakes.len :
 Int)))))
 (↑stakes.len : Int) <
 (↑stakes.len : Int) ∧
 Nn stakes.a fun (l : Go.Vc.Loc) ↦
 ∃ (n_1 : Int),
 at1
 (TV.put h
 (Array.size h_1)
 (2 : Nat)
 (TV.slice s))
 l.b
 (l.o +
 Int.toNat
 (Int.tmod
 (IntKind.wrap
 IntKind.i64
 (s_13 +
 IntKind.wrap
 IntKind.i64
 (Int.tmod
 (IntKind.wrap
 IntKind.u64
 turn)
 (IntKind.wrap
 IntKind.u64
 (↑stakes.len :
 Int)))))
 (↑stakes.len :
 Int)) *
 (1 : Nat))
 (Value.int IntKind.i64
 n_1) ∧
 Ext
 (TV.put h
 (Array.size h_1)
 (2 : Nat)
 (TV.slice s))
 (Array.push
 (TV.put h
 (Array.size h_1)
 (2 : Nat)
 (TV.slice s))
 (row
 (TVs.cells
 [TV.int
 IntKind.i64
 (mn
 (mx cut
 (0 :
 Int))
 n),
 TV.int
 IntKind.i64
 (IntKind.wrap
 IntKind.i64
 (n_1 -
 mn
 (mx
 cut
 (0 :
 Int))
 n))])
 (3 : Nat))) ∧
 ∃ (new : List Value),
 slAt
 (Array.push
 (TV.put h
 (Array.size
 h_1)
 (2 : Nat)
 (TV.slice
 s))
 (row
 (TVs.cells
 [TV.int
 IntKind.i64
 (mn
 (mx
 cut
 (0 :
 Int))
 n),
 TV.int
 IntKind.i64
 (IntKind.wrap
 IntKind.i64
 (n_1 -
 mn
 (mx
 cut
 (0 :
 Int))
 n))])
 (3 : Nat)))
 (Sl.mk
 (some
 (Loc.mk
 (Array.size
 (TV.put
 h
 (Array.size
 h_1)
 (2 :
 Nat)
 (TV.slice
 s)))
 (0 :
 Nat)))
 (2 : Nat)
 (2 : Nat))
 (1 : Nat) new ∧
 (∀ (v : Value),
 v ∈ new →
 isOne v =
 true) ∧
 vcAppend
 Ytahoibjgojlpeaa.ctx
 (3 : Nat) s_16
 (2 : Nat) new
 (Array.push
 (TV.put h
 (Array.size
 h_1)
 (2 : Nat)
 (TV.slice
 s))
 (row
 (TVs.cells
 [TV.int
 IntKind.i64
 (mn
 (mx
 cut
 (0 :
 Int))
 n),
 TV.int
 IntKind.i64
 (IntKind.wrap
 IntKind.i64
 (n_1 -
 mn
 (mx
 cut
 (0 :
 Int))
 n))])
 (3 :
 Nat)))
 fun (s : Sl)
 (h :
 Array
 Obj) ↦
 wok h
 (Array.size
 h_1)
 (3 : Nat)
 (1 :
 Nat) ∧
 K
 (IntKind.wrap
 IntKind.i64
 (s_13 +
 (1 :
 Int)))
 (TV.put h
 (Array.size
 h_1)
 (3 :
 Nat)
 (TV.slice
 s)))
 (Join
 (fun (s_14 : Option Go.Vc.Loc × Option Go.Vc.Loc) (h_3 : Array Obj) ↦
 ∃ (s_15 : Sl),
 at1 h_3 (Array.size h) (0 : Nat) (slVal s_15) ∧
 Go.Vc.Loop (s, (0 : Int)) h_3
 fun (s_16 : Bool × Int) (h_4 : Array Obj) (K : Bool × Int → Array Obj → Prop) ↦
 If (decide (s_16.snd < (↑s_15.len : Int)))
 ((0 : Int) ≤ s_16.snd ∧
 s_16.snd < (↑s_15.len : Int) ∧
 Nn s_15.a fun (l : Go.Vc.Loc) ↦
 ∃ (b_2 : Bs (32 : Nat)),
 atBytes h_4 l.b (l.o + Int.toNat s_16.snd * (32 : Nat)) (32 : Nat) b_2 ∧
 wok (newTV h_4 (TV.bytes (32 : Nat) (Bs.zero (32 : Nat))) (37 : Nat))
 (Array.size h_4) (0 : Nat) (32 : Nat) ∧
 Nn s_14.fst fun (l : Go.Vc.Loc) ↦
 ∃ (s_17 : Sl),
 ∃ (s_18 : Sl),
 (at1
 (TV.put
 (newTV h_4 (TV.bytes (32 : Nat) (Bs.zero (32 : Nat)))
 (37 : Nat))
 (Array.size h_4) (0 : Nat) (TV.bytes (32 : Nat) b_2))
 l.b l.o (slVal s_17) ∧
 at1
 (TV.put
 (newTV h_4 (TV.bytes (32 : Nat) (Bs.zero (32 : Nat)))
 (37 : Nat))
 (Array.size h_4) (0 : Nat) (TV.bytes (32 : Nat) b_2))
 l.b (l.o + (1 : Nat)) (slVal s_18)) ∧
 ∃ (b_3 : Bs (32 : Nat)),
 atBytes
 (TV.put
 (newTV h_4 (TV.bytes (32 : Nat) (Bs.zero (32 : Nat)))
 (37 : Nat))
 (Array.size h_4) (0 : Nat) (TV.bytes (32 : Nat) b_2))
 (Array.size h_4) (0 : Nat) (32 : Nat) b_3 ∧
 Nn s_14.snd fun (l : Go.Vc.Loc) ↦
 ∃ (s_19 : Sl),
 ∃ (s_20 : Sl),
 (at1
 (TV.put
 (newTV h_4
 (TV.bytes (32 : Nat) (Bs.zero (32 : Nat)))
 (37 : Nat))
 (Array.size h_4) (0 : Nat)
 (TV.bytes (32 : Nat) b_2))
 l.b l.o (slVal s_19) ∧
 at1
 (TV.put
 (newTV h_4
 (TV.bytes (32 : Nat) (Bs.zero (32 : Nat)))
 (37 : Nat))
 (Array.size h_4) (0 : Nat)
 (TV.bytes (32 : Nat) b_2))
 l.b (l.o + (1 : Nat)) (slVal s_20)) ∧
 ∃ (b : Bs (32 : Nat)),
 atBytes
 (TV.put
 (newTV h_4
 (TV.bytes (32 : Nat)
 (Bs.zero (32 : Nat)))
 (37 : Nat))
 (Array.size h_4) (0 : Nat)
 (TV.bytes (32 : Nat) b_2))
 (Array.size h_4) (0 : Nat) (32 : Nat) b ∧
 CallsH Try.prog (33 : Nat)
 (TVs.vals
 [TV.agg [TV.slice s_17, TV.slice s_18],
 TV.bytes (32 : Nat) b_3])
 (TV.put
 (newTV h_4
 (TV.bytes (32 : Nat)
 (Bs.zero (32 : Nat)))
 (37 : Nat))
 (Array.size h_4) (0 : Nat)
 (TV.bytes (32 : Nat) b_2))
 fun (v : Value) (h : Heap) ↦
 ∃ (n : Int),
 v = TV.val (TV.int IntKind.i64 n) ∧
 Ext
 (TV.put
 (newTV h_4
 (TV.bytes (32 : Nat)
 (Bs.zero (32 : Nat)))
 (37 : Nat))
 (Array.size h_4) (0 : Nat)
 (TV.bytes (32 : Nat) b_2))
 h ∧
 CallsH Try.prog (33 : Nat)
 (TVs.vals
 [TV.agg
 [TV.slice s_19,
 TV.slice s_20],
 TV.bytes (32 : Nat) b])
 h fun (v : Value) (h : Heap) ↦
 ∃ (n_1 : Int),
 v =
 TV.val
 (TV.int IntKind.i64 n_1) ∧
 If (!decide (n = n_1))
 (R (TV.val (TV.bool false)) h)
 (K
 (s_16.fst,
 IntKind.wrap IntKind.i64
 (s_16.snd + (1 : Int)))
 h))
 (Nn s_14.fst fun (l : Go.Vc.Loc) ↦
 ∃ (s_17 : Sl),
 ∃ (s_18 : Sl),
 (at1 h_4 l.b l.o (slVal s_17) ∧
 at1 h_4 l.b (l.o + (1 : Nat)) (slVal s_18)) ∧
 Nn s_14.snd fun (l : Go.Vc.Loc) ↦
 ∃ (s : Sl),
 ∃ (s_19 : Sl),
 (at1 h_4 l.b l.o (slVal s) ∧
 at1 h_4 l.b (l.o + (1 : Nat)) (slVal s_19)) ∧
 CallsH Try.prog (34 : Nat)
 (TVs.vals [TV.agg [TV.slice s_17, TV.slice s_18]]) h_4
 fun (v : Value) (h : Array Obj) ↦
 ∃ (b : Bs (32 : Nat)),
 v = TV.val (TV.bytes (32 : Nat) b) ∧
 Ext h_4 h ∧
 CallsH Try.prog (34 : Nat)
 (TVs.vals [TV.agg [TV.slice s, TV.slice s_19]]) h
 fun (v : Value) (h : Array Obj) ↦
 ∃ (b_2 : Bs (32 : Nat)),
 v = TV.val (TV.bytes (32 : Nat) b_2) ∧
 R (TV.val (TV.bool (decide (b.1 = b_2.1)))) h))
 fun (J : Option Go.Vc.Loc × Option Go.Vc.Loc → Array Obj → Prop) ↦
 ∃ (s : Sl),
 ∃ (s_14 : Sl),
 ∃ (s_15 : Sl),
 ∃ (s_16 : Sl),
 (at1 h_2 (Array.size h) (0 : Nat) (slVal s) ∧
 at1 h_2 (Array.size h) (1 : Nat) (slVal s_14) ∧
 at1 h_2 (Array.size h) (2 : Nat) (slVal s_15) ∧
 at1 h_2 (Array.size h) (3 : Nat) (slVal s_16)) ∧
 ∃ (s_17 : Sl),
 ∃ (s_18 : Sl),
 ∃ (s_19 : Sl),
 ∃ (s_20 : Sl),
 (at1 h_2 (Array.size h_1) (0 : Nat) (slVal s_17) ∧
 at1 h_2 (Array.size h_1) (1 : Nat) (slVal s_18) ∧
 at1 h_2 (Array.size h_1) (2 : Nat) (slVal s_19) ∧
 at1 h_2 (Array.size h_1) (3 : Nat) (slVal s_20)) ∧
 (CallsH Try.prog (31 : Nat)
 (TVs.vals
 [TV.agg
 [TV.slice s, TV.slice s_14, TV.slice s_15, TV.slice s_16]])
 h_2 fun (v : Value) (h : Array Obj) ↦
 ∃ (s : Sl),
 ∃ (s_21 : Sl),
 v = TV.val (TV.agg [TV.slice s, TV.slice s_21]) ∧
 Ext h_2 h ∧
 (CallsH Try.prog (31 : Nat)
 (TVs.vals
 [TV.agg
 [TV.slice s_17, TV.slice s_18, TV.slice s_19,
 TV.slice s_20]])
 h fun (v : Value) (h : Array Obj) ↦
 ∃ (s_22 : Sl),
 ∃ (s_23 : Sl),
 v = TV.val (TV.agg [TV.slice s_22, TV.slice s_23]) ∧
 (Ext h
 (newTV h
 (TV.agg
 [TV.slice Sl.nil, TV.slice Sl.nil])
 (46 : Nat)) ∧
 Ext
 (newTV h
 (TV.agg
 [TV.slice Sl.nil, TV.slice Sl.nil])
 (46 : Nat))
 (newTV
 (newTV h
 (TV.agg
 [TV.slice Sl.nil, TV.slice Sl.nil])
 (46 : Nat))
 (TV.agg
 [TV.slice Sl.nil, TV.slice Sl.nil])
 (46 : Nat)) ∧
 wok
 (newTV
 (newTV h
 (TV.agg
 [TV.slice Sl.nil,
 TV.slice Sl.nil])
 (46 : Nat))
 (TV.agg
 [TV.slice Sl.nil, TV.slice Sl.nil])
 (46 : Nat))
 (Array.size h) (0 : Nat)
 (Nat.succ
 (Nat.add (1 : Nat) (0 : Nat))) ∧
 wok
 (TV.put
 (newTV
 (newTV h
 (TV.agg
 [TV.slice Sl.nil,
 TV.slice Sl.nil])
 (46 : Nat))
 (TV.agg
 [TV.slice Sl.nil,
 TV.slice Sl.nil])
 (46 : Nat))
 (Array.size h) (0 : Nat)
 (TV.agg
 [TV.slice s, TV.slice s_21]))
 (Array.size
 (newTV h
 (TV.agg
 [TV.slice Sl.nil,
 TV.slice Sl.nil])
 (46 : Nat)))
 (0 : Nat)
 (Nat.succ
 (Nat.add (1 : Nat) (0 : Nat))) ∧
 J
 (some
 (Loc.mk (Array.size h) (0 : Nat)),
 some
 (Loc.mk
 (Array.size
 (newTV h
 (TV.agg
 [TV.slice Sl.nil,
 TV.slice Sl.nil])
 (46 : Nat)))
 (0 : Nat)))
 (TV.put
 (TV.put
 (newTV
 (newTV h
 (TV.agg
 [TV.slice Sl.nil,
 TV.slice Sl.nil])
 (46 : Nat))
 (TV.agg
 [TV.slice Sl.nil,
 TV.slice Sl.nil])
 (46 : Nat))
 (Array.size h) (0 : Nat)
 (TV.agg
 [TV.slice s, TV.slice s_21]))
 (Array.size
 (newTV h
 (TV.agg
 [TV.slice Sl.nil,
 TV.slice Sl.nil])
 (46 : Nat)))
 (0 : Nat)
 (TV.agg
 [TV.slice s_22,
 TV.slice s_23]))) ∧
 Ext h
 (newTV h
 (TV.agg
 [TV.slice Sl.nil, TV.slice Sl.nil])
 (46 : Nat)) ∧
 Ext
 (newTV h
 (TV.agg
 [TV.slice Sl.nil, TV.slice Sl.nil])
 (46 : Nat))
 (newTV
 (newTV h
 (TV.agg
 [TV.slice Sl.nil, TV.slice Sl.nil])
 (46 : Nat))
 (TV.agg
 [TV.slice Sl.nil, TV.slice Sl.nil])
 (46 : Nat)) ∧
 wok
 (newTV
 (newTV h
 (TV.agg
 [TV.slice Sl.nil,
 TV.slice Sl.nil])
 (46 : Nat))
 (TV.agg
 [TV.slice Sl.nil, TV.slice Sl.nil])
 (46 : Nat))
 (Array.size
 (newTV h
 (TV.agg
 [TV.slice Sl.nil,
 TV.slice Sl.nil])
 (46 : Nat)))
 (0 : Nat)
 (Nat.succ
 (Nat.add (1 : Nat) (0 : Nat))) ∧
 wok
 (TV.put
 (newTV
 (newTV h
 (TV.agg
 [TV.slice Sl.nil,
 TV.slice Sl.nil])
 (46 : Nat))
 (TV.agg
 [TV.slice Sl.nil,
 TV.slice Sl.nil])
 (46 : Nat))
 (Array.size
 (newTV h
 (TV.agg
 [TV.slice Sl.nil,
 TV.slice Sl.nil])
 (46 : Nat)))
 (0 : Nat)
 (TV.agg
 [TV.slice s, TV.slice s_21]))
 (Array.size h) (0 : Nat)
 (Nat.succ
 (Nat.add (1 : Nat) (0 : Nat))) ∧
 J
 (some
 (Loc.mk
 (Array.size
 (newTV h
 (TV.agg
 [TV.slice Sl.nil,
 TV.slice Sl.nil])
 (46 : Nat)))
 (0 : Nat)),
 some
 (Loc.mk (Array.size h) (0 : Nat)))
 (TV.put
 (TV.put
 (newTV
 (newTV h
 (TV.agg
 [TV.slice Sl.nil,
 TV.slice Sl.nil])
 (46 : Nat))
 (TV.agg
 [TV.slice Sl.nil,
 TV.slice Sl.nil])
 (46 : Nat))
 (Array.size
 (newTV h
 (TV.agg
 [TV.slice Sl.nil,
 TV.slice Sl.nil])
 (46 : Nat)))
 (0 : Nat)
 (TV.agg
 [TV.slice s, TV.slice s_21]))
 (Array.size h) (0 : Nat)
 (TV.agg
 [TV.slice s_22,
 TV.slice s_23]))) ∧
 (Ext h
 (newTV h (TV.agg [TV.slice Sl.nil, TV.slice Sl.nil])
 (46 : Nat)) ∧
 (CallsH Try.prog (31 : Nat)
 (TVs.vals
 [TV.agg
 [TV.slice s_17, TV.slice s_18,
 TV.slice s_19, TV.slice s_20]])
 (newTV h
 (TV.agg [TV.slice Sl.nil, TV.slice Sl.nil])
 (46 : Nat))
 fun (v : Value) (h_3 : Heap) ↦
 ∃ (s_22 : Sl),
 ∃ (s_23 : Sl),
 v =
 TV.val
 (TV.agg
 [TV.slice s_22, TV.slice s_23]) ∧
 Ext h_3
 (newTV h_3
 (TV.agg
 [TV.slice Sl.nil, TV.slice Sl.nil])
 (46 : Nat)) ∧
 wok
 (newTV h_3
 (TV.agg
 [TV.slice Sl.nil,
 TV.slice Sl.nil])
 (46 : Nat))
 (Array.size h) (0 : Nat)
 (Nat.succ
 (Nat.add (1 : Nat) (0 : Nat))) ∧
 wok
 (TV.put
 (newTV h_3
 (TV.agg
 [TV.slice Sl.nil,
 TV.slice Sl.nil])
 (46 : Nat))
 (Array.size h) (0 : Nat)
 (TV.agg
 [TV.slice s, TV.slice s_21]))
 (Array.size h_3) (0 : Nat)
 (Nat.succ
 (Nat.add (1 : Nat) (0 : Nat))) ∧
 J
 (some
 (Loc.mk (Array.size h)
 (0 : Nat)),
 some
 (Loc.mk (Array.size h_3)
 (0 : Nat)))
 (TV.put
 (TV.put
 (newTV h_3
 (TV.agg
 [TV.slice Sl.nil,
 TV.slice Sl.nil])
 (46 : Nat))
 (Array.size h) (0 : Nat)
 (TV.agg
 [TV.slice s, TV.slice s_21]))
 (Array.size h_3) (0 : Nat)
 (TV.agg
 [TV.slice s_22,
 TV.slice s_23]))) ∧
 Ext
 (newTV h
 (TV.agg [TV.slice Sl.nil, TV.slice Sl.nil])
 (46 : Nat))
 (newTV
 (newTV h
 (TV.agg [TV.slice Sl.nil, TV.slice Sl.nil])
 (46 : Nat))
 (TV.agg [TV.slice Sl.nil, TV.slice Sl.nil])
 (46 : Nat)) ∧
 CallsH Try.prog (31 : Nat)
 (TVs.vals
 [TV.agg
 [TV.slice s_17, TV.slice s_18,
 TV.slice s_19, TV.slice s_20]])
 (newTV
 (newTV h
 (TV.agg [TV.slice Sl.nil, TV.slice Sl.nil])
 (46 : Nat))
 (TV.agg [TV.slice Sl.nil, TV.slice Sl.nil])
 (46 : Nat))
 fun (v : Value) (h_3 : Heap) ↦
 ∃ (s_22 : Sl),
 ∃ (s_23 : Sl),
 v =
 TV.val
 (TV.agg
 [TV.slice s_22, TV.slice s_23]) ∧
 wok h_3 (Array.size h) (0 : Nat)
 (Nat.succ
 (Nat.add (1 : Nat) (0 : Nat))) ∧
 wok
 (TV.put h_3 (Array.size h) (0 : Nat)
 (TV.agg
 [TV.slice s, TV.slice s_21]))
 (Array.size
 (newTV h
 (TV.agg
 [TV.slice Sl.nil,
 TV.slice Sl.nil])
 (46 : Nat)))
 (0 : Nat)
 (Nat.succ
 (Nat.add (1 : Nat) (0 : Nat))) ∧
 J
 (some
 (Loc.mk (Array.size h)
 (0 : Nat)),
 some
 (Loc.mk
 (Array.size
 (newTV h
 (TV.agg
 [TV.slice Sl.nil,
 TV.slice Sl.nil])
 (46 : Nat)))
 (0 : Nat)))
 (TV.put
 (TV.put h_3 (Array.size h)
 (0 : Nat)
 (TV.agg
 [TV.slice s, TV.slice s_21]))
 (Array.size
 (newTV h
 (TV.agg
 [TV.slice Sl.nil,
 TV.slice Sl.nil])
 (46 : Nat)))
 (0 : Nat)
 (TV.agg
 [TV.slice s_22,
 TV.slice s_23]))) ∧
 Ext h
 (newTV h (TV.agg [TV.slice Sl.nil, TV.slice Sl.nil])
 (46 : Nat)) ∧
 (CallsH Try.prog (31 : Nat)
 (TVs.vals
 [TV.agg
 [TV.slice s_17, TV.slice s_18,
 TV.slice s_19, TV.slice s_20]])
 (newTV h
 (TV.agg [TV.slice Sl.nil, TV.slice Sl.nil])
 (46 : Nat))
 fun (v : Value) (h_3 : Heap) ↦
 ∃ (s_22 : Sl),
 ∃ (s_23 : Sl),
 v =
 TV.val
 (TV.agg
 [TV.slice s_22, TV.slice s_23]) ∧
 Ext h_3
 (newTV h_3
 (TV.agg
 [TV.slice Sl.nil, TV.slice Sl.nil])
 (46 : Nat)) ∧
 wok
 (newTV h_3
 (TV.agg
 [TV.slice Sl.nil,
 TV.slice Sl.nil])
 (46 : Nat))
 (Array.size h_3) (0 : Nat)
 (Nat.succ
 (Nat.add (1 : Nat) (0 : Nat))) ∧
 wok
 (TV.put
 (newTV h_3
 (TV.agg
 [TV.slice Sl.nil,
 TV.slice Sl.nil])
 (46 : Nat))
 (Array.size h_3) (0 : Nat)
 (TV.agg
 [TV.slice s, TV.slice s_21]))
 (Array.size h) (0 : Nat)
 (Nat.succ
 (Nat.add (1 : Nat) (0 : Nat))) ∧
 J
 (some
 (Loc.mk (Array.size h_3)
 (0 : Nat)),
 some
 (Loc.mk (Array.size h)
 (0 : Nat)))
 (TV.put
 (TV.put
 (newTV h_3
 (TV.agg
 [TV.slice Sl.nil,
 TV.slice Sl.nil])
 (46 : Nat))
 (Array.size h_3) (0 : Nat)
 (TV.agg
 [TV.slice s, TV.slice s_21]))
 (Array.size h) (0 : Nat)
 (TV.agg
 [TV.slice s_22,
 TV.slice s_23]))) ∧
 Ext
 (newTV h
 (TV.agg [TV.slice Sl.nil, TV.slice Sl.nil])
 (46 : Nat))
 (newTV
 (newTV h
 (TV.agg [TV.slice Sl.nil, TV.slice Sl.nil])
 (46 : Nat))
 (TV.agg [TV.slice Sl.nil, TV.slice Sl.nil])
 (46 : Nat)) ∧
 CallsH Try.prog (31 : Nat)
 (TVs.vals
 [TV.agg
 [TV.slice s_17, TV.slice s_18,
 TV.slice s_19, TV.slice s_20]])
 (newTV
 (newTV h
 (TV.agg [TV.slice Sl.nil, TV.slice Sl.nil])
 (46 : Nat))
 (TV.agg [TV.slice Sl.nil, TV.slice Sl.nil])
 (46 : Nat))
 fun (v : Value) (h_3 : Heap) ↦
 ∃ (s_22 : Sl),
 ∃ (s_23 : Sl),
 v =
 TV.val
 (TV.agg
 [TV.slice s_22, TV.slice s_23]) ∧
 wok h_3
 (Array.size
 (newTV h
 (TV.agg
 [TV.slice Sl.nil,
 TV.slice Sl.nil])
 (46 : Nat)))
 (0 : Nat)
 (Nat.succ
 (Nat.add (1 : Nat) (0 : Nat))) ∧
 wok
 (TV.put h_3
 (Array.size
 (newTV h
 (TV.agg
 [TV.slice Sl.nil,
 TV.slice Sl.nil])
 (46 : Nat)))
 (0 : Nat)
 (TV.agg
 [TV.slice s, TV.slice s_21]))
 (Array.size h) (0 : Nat)
 (Nat.succ
 (Nat.add (1 : Nat) (0 : Nat))) ∧
 J
 (some
 (Loc.mk
 (Array.size
 (newTV h
 (TV.agg
 [TV.slice Sl.nil,
 TV.slice Sl.nil])
 (46 : Nat)))
 (0 : Nat)),
 some
 (Loc.mk (Array.size h)
 (0 : Nat)))
 (TV.put
 (TV.put h_3
 (Array.size
 (newTV h
 (TV.agg
 [TV.slice Sl.nil,
 TV.slice Sl.nil])
 (46 : Nat)))
 (0 : Nat)
 (TV.agg
 [TV.slice s, TV.slice s_21]))
 (Array.size h) (0 : Nat)
 (TV.agg
 [TV.slice s_22,
 TV.slice s_23]))) ∧
 (Ext h_2
 (newTV h_2 (TV.agg [TV.slice Sl.nil, TV.slice Sl.nil])
 (46 : Nat)) ∧
 (CallsH Try.prog (31 : Nat)
 (TVs.vals
 [TV.agg
 [TV.slice s, TV.slice s_14, TV.slice s_15,
 TV.slice s_16]])
 (newTV h_2 (TV.agg [TV.slice Sl.nil, TV.slice Sl.nil])
 (46 : Nat))
 fun (v : Value) (h : Heap) ↦
 ∃ (s : Sl),
 ∃ (s_21 : Sl),
 v = TV.val (TV.agg [TV.slice s, TV.slice s_21]) ∧
 Ext
 (newTV h_2
 (TV.agg [TV.slice Sl.nil, TV.slice Sl.nil])
 (46 : Nat))
 h ∧
 (CallsH Try.prog (31 : Nat)
 (TVs.vals
 [TV.agg
 [TV.slice s_17, TV.slice s_18,
 TV.slice s_19, TV.slice s_20]])
 h fun (v : Value) (h : Heap) ↦
 ∃ (s_22 : Sl),
 ∃ (s_23 : Sl),
 v =
 TV.val
 (TV.agg
 [TV.slice s_22, TV.slice s_23]) ∧
 Ext h
 (newTV h
 (TV.agg
 [TV.slice Sl.nil, TV.slice Sl.nil])
 (46 : Nat)) ∧
 wok
 (newTV h
 (TV.agg
 [TV.slice Sl.nil,
 TV.slice Sl.nil])
 (46 : Nat))
 (Array.size h_2) (0 : Nat)
 (Nat.succ
 (Nat.add (1 : Nat) (0 : Nat))) ∧
 wok
 (TV.put
 (newTV h
 (TV.agg
 [TV.slice Sl.nil,
 TV.slice Sl.nil])
 (46 : Nat))
 (Array.size h_2) (0 : Nat)
 (TV.agg
 [TV.slice s, TV.slice s_21]))
 (Array.size h) (0 : Nat)
 (Nat.succ
 (Nat.add (1 : Nat) (0 : Nat))) ∧
 J
 (some
 (Loc.mk (Array.size h_2)
 (0 : Nat)),
 some
 (Loc.mk (Array.size h)
 (0 : Nat)))
 (TV.put
 (TV.put
 (newTV h
 (TV.agg
 [TV.slice Sl.nil,
 TV.slice Sl.nil])
 (46 : Nat))
 (Array.size h_2) (0 : Nat)
 (TV.agg
 [TV.slice s, TV.slice s_21]))
 (Array.size h) (0 : Nat)
 (TV.agg
 [TV.slice s_22,
 TV.slice s_23]))) ∧
 Ext h
 (newTV h
 (TV.agg [TV.slice Sl.nil, TV.slice Sl.nil])
 (46 : Nat)) ∧
 CallsH Try.prog (31 : Nat)
 (TVs.vals
 [TV.agg
 [TV.slice s_17, TV.slice s_18,
 TV.slice s_19, TV.slice s_20]])
 (newTV h
 (TV.agg [TV.slice Sl.nil, TV.slice Sl.nil])
 (46 : Nat))
 fun (v : Value) (h_3 : Heap) ↦
 ∃ (s_22 : Sl),
 ∃ (s_23 : Sl),
 v =
 TV.val
 (TV.agg
 [TV.slice s_22, TV.slice s_23]) ∧
 wok h_3 (Array.size h_2) (0 : Nat)
 (Nat.succ
 (Nat.add (1 : Nat) (0 : Nat))) ∧
 wok
 (TV.put h_3 (Array.size h_2)
 (0 : Nat)
 (TV.agg
 [TV.slice s, TV.slice s_21]))
 (Array.size h) (0 : Nat)
 (Nat.succ
 (Nat.add (1 : Nat) (0 : Nat))) ∧
 J
 (some
 (Loc.mk (Array.size h_2)
 (0 : Nat)),
 some
 (Loc.mk (Array.size h)
 (0 : Nat)))
 (TV.put
 (TV.put h_3 (Array.size h_2)
 (0 : Nat)
 (TV.agg
 [TV.slice s, TV.slice s_21]))
 (Array.size h) (0 : Nat)
 (TV.agg
 [TV.slice s_22,
 TV.slice s_23]))) ∧
 Ext
 (newTV h_2 (TV.agg [TV.slice Sl.nil, TV.slice Sl.nil])
 (46 : Nat))
 (newTV
 (newTV h_2 (TV.agg [TV.slice Sl.nil, TV.slice Sl.nil])
 (46 : Nat))
 (TV.agg [TV.slice Sl.nil, TV.slice Sl.nil]) (46 : Nat)) ∧
 CallsH Try.prog (31 : Nat)
 (TVs.vals
 [TV.agg
 [TV.slice s, TV.slice s_14, TV.slice s_15,
 TV.slice s_16]])
 (newTV
 (newTV h_2 (TV.agg [TV.slice Sl.nil, TV.slice Sl.nil])
 (46 : Nat))
 (TV.agg [TV.slice Sl.nil, TV.slice Sl.nil]) (46 : Nat))
 fun (v : Value) (h : Heap) ↦
 ∃ (s : Sl),
 ∃ (s_21 : Sl),
 v = TV.val (TV.agg [TV.slice s, TV.slice s_21]) ∧
 Ext
 (newTV
 (newTV h_2
 (TV.agg [TV.slice Sl.nil, TV.slice Sl.nil])
 (46 : Nat))
 (TV.agg [TV.slice Sl.nil, TV.slice Sl.nil])
 (46 : Nat))
 h ∧
 CallsH Try.prog (31 : Nat)
 (TVs.vals
 [TV.agg
 [TV.slice s_17, TV.slice s_18,
 TV.slice s_19, TV.slice s_20]])
 h fun (v : Value) (h : Heap) ↦
 ∃ (s_22 : Sl),
 ∃ (s_23 : Sl),
 v =
 TV.val
 (TV.agg
 [TV.slice s_22, TV.slice s_23]) ∧
 wok h (Array.size h_2) (0 : Nat)
 (Nat.succ
 (Nat.add (1 : Nat) (0 : Nat))) ∧
 wok
 (TV.put h (Array.size h_2) (0 : Nat)
 (TV.agg
 [TV.slice s, TV.slice s_21]))
 (Array.size
 (newTV h_2
 (TV.agg
 [TV.slice Sl.nil,
 TV.slice Sl.nil])
 (46 : Nat)))
 (0 : Nat)
 (Nat.succ
 (Nat.add (1 : Nat) (0 : Nat))) ∧
 J
 (some
 (Loc.mk (Array.size h_2)
 (0 : Nat)),
 some
 (Loc.mk
 (Array.size
 (newTV h_2
 (TV.agg
 [TV.slice Sl.nil,
 TV.slice Sl.nil])
 (46 : Nat)))
 (0 : Nat)))
 (TV.put
 (TV.put h (Array.size h_2) (0 : Nat)
 (TV.agg
 [TV.slice s, TV.slice s_21]))
 (Array.size
 (newTV h_2
 (TV.agg
 [TV.slice Sl.nil,
 TV.slice Sl.nil])
 (46 : Nat)))
 (0 : Nat)
 (TV.agg
 [TV.slice s_22,
 TV.slice s_23]))) ∧
 Ext h_2
 (newTV h_2 (TV.agg [TV.slice Sl.nil, TV.slice Sl.nil])
 (46 : Nat)) ∧
 (CallsH Try.prog (31 : Nat)
 (TVs.vals
 [TV.agg
 [TV.slice s, TV.slice s_14, TV.slice s_15,
 TV.slice s_16]])
 (newTV h_2 (TV.agg [TV.slice Sl.nil, TV.slice Sl.nil])
 (46 : Nat))
 fun (v : Value) (h : Heap) ↦
 ∃ (s : Sl),
 ∃ (s_21 : Sl),
 v = TV.val (TV.agg [TV.slice s, TV.slice s_21]) ∧
 Ext
 (newTV h_2
 (TV.agg [TV.slice Sl.nil, TV.slice Sl.nil])
 (46 : Nat))
 h ∧
 (CallsH Try.prog (31 : Nat)
 (TVs.vals
 [TV.agg
 [TV.slice s_17, TV.slice s_18,
 TV.slice s_19, TV.slice s_20]])
 h fun (v : Value) (h : Heap) ↦
 ∃ (s_22 : Sl),
 ∃ (s_23 : Sl),
 v =
 TV.val
 (TV.agg
 [TV.slice s_22, TV.slice s_23]) ∧
 Ext h
 (newTV h
 (TV.agg
 [TV.slice Sl.nil, TV.slice Sl.nil])
 (46 : Nat)) ∧
 wok
 (newTV h
 (TV.agg
 [TV.slice Sl.nil,
 TV.slice Sl.nil])
 (46 : Nat))
 (Array.size h) (0 : Nat)
 (Nat.succ
 (Nat.add (1 : Nat) (0 : Nat))) ∧
 wok
 (TV.put
 (newTV h
 (TV.agg
 [TV.slice Sl.nil,
 TV.slice Sl.nil])
 (46 : Nat))
 (Array.size h) (0 : Nat)
 (TV.agg
 [TV.slice s, TV.slice s_21]))
 (Array.size h_2) (0 : Nat)
 (Nat.succ
 (Nat.add (1 : Nat) (0 : Nat))) ∧
 J
 (some
 (Loc.mk (Array.size h)
 (0 : Nat)),
 some
 (Loc.mk (Array.size h_2)
 (0 : Nat)))
 (TV.put
 (TV.put
 (newTV h
 (TV.agg
 [TV.slice Sl.nil,
 TV.slice Sl.nil])
 (46 : Nat))
 (Array.size h) (0 : Nat)
 (TV.agg
 [TV.slice s, TV.slice s_21]))
 (Array.size h_2) (0 : Nat)
 (TV.agg
 [TV.slice s_22,
 TV.slice s_23]))) ∧
 Ext h
 (newTV h
 (TV.agg [TV.slice Sl.nil, TV.slice Sl.nil])
 (46 : Nat)) ∧
 CallsH Try.prog (31 : Nat)
 (TVs.vals
 [TV.agg
 [TV.slice s_17, TV.slice s_18,
 TV.slice s_19, TV.slice s_20]])
 (newTV h
 (TV.agg [TV.slice Sl.nil, TV.slice Sl.nil])
 (46 : Nat))
 fun (v : Value) (h_3 : Heap) ↦
 ∃ (s_22 : Sl),
 ∃ (s_23 : Sl),
 v =
 TV.val
 (TV.agg
 [TV.slice s_22, TV.slice s_23]) ∧
 wok h_3 (Array.size h) (0 : Nat)
 (Nat.succ
 (Nat.add (1 : Nat) (0 : Nat))) ∧
 wok
 (TV.put h_3 (Array.size h) (0 : Nat)
 (TV.agg
 [TV.slice s, TV.slice s_21]))
 (Array.size h_2) (0 : Nat)
 (Nat.succ
 (Nat.add (1 : Nat) (0 : Nat))) ∧
 J
 (some
 (Loc.mk (Array.size h)
 (0 : Nat)),
 some
 (Loc.mk (Array.size h_2)
 (0 : Nat)))
 (TV.put
 (TV.put h_3 (Array.size h)
 (0 : Nat)
 (TV.agg
 [TV.slice s, TV.slice s_21]))
 (Array.size h_2) (0 : Nat)
 (TV.agg
 [TV.slice s_22,
 TV.slice s_23]))) ∧
 Ext
 (newTV h_2 (TV.agg [TV.slice Sl.nil, TV.slice Sl.nil])
 (46 : Nat))
 (newTV
 (newTV h_2 (TV.agg [TV.slice Sl.nil, TV.slice Sl.nil])
 (46 : Nat))
 (TV.agg [TV.slice Sl.nil, TV.slice Sl.nil]) (46 : Nat)) ∧
 CallsH Try.prog (31 : Nat)
 (TVs.vals
 [TV.agg
 [TV.slice s, TV.slice s_14, TV.slice s_15,
 TV.slice s_16]])
 (newTV
 (newTV h_2 (TV.agg [TV.slice Sl.nil, TV.slice Sl.nil])
 (46 : Nat))
 (TV.agg [TV.slice Sl.nil, TV.slice Sl.nil]) (46 : Nat))
 fun (v : Value) (h : Heap) ↦
 ∃ (s : Sl),
 ∃ (s_21 : Sl),
 v = TV.val (TV.agg [TV.slice s, TV.slice s_21]) ∧
 Ext
 (newTV
 (newTV h_2
 (TV.agg [TV.slice Sl.nil, TV.slice Sl.nil])
 (46 : Nat))
 (TV.agg [TV.slice Sl.nil, TV.slice Sl.nil])
 (46 : Nat))
 h ∧
 CallsH Try.prog (31 : Nat)
 (TVs.vals
 [TV.agg
 [TV.slice s_17, TV.slice s_18,
 TV.slice s_19, TV.slice s_20]])
 h fun (v : Value) (h : Heap) ↦
 ∃ (s_22 : Sl),
 ∃ (s_23 : Sl),
 v =
 TV.val
 (TV.agg
 [TV.slice s_22, TV.slice s_23]) ∧
 wok h
 (Array.size
 (newTV h_2
 (TV.agg
 [TV.slice Sl.nil,
 TV.slice Sl.nil])
 (46 : Nat)))
 (0 : Nat)
 (Nat.succ
 (Nat.add (1 : Nat) (0 : Nat))) ∧
 wok
 (TV.put h
 (Array.size
 (newTV h_2
 (TV.agg
 [TV.slice Sl.nil,
 TV.slice Sl.nil])
 (46 : Nat)))
 (0 : Nat)
 (TV.agg
 [TV.slice s, TV.slice s_21]))
 (Array.size h_2) (0 : Nat)
 (Nat.succ
 (Nat.add (1 : Nat) (0 : Nat))) ∧
 J
 (some
 (Loc.mk
 (Array.size
 (newTV h_2
 (TV.agg
 [TV.slice Sl.nil,
 TV.slice Sl.nil])
 (46 : Nat)))
 (0 : Nat)),
 some
 (Loc.mk (Array.size h_2)
 (0 : Nat)))
 (TV.put
 (TV.put h
 (Array.size
 (newTV h_2
 (TV.agg
 [TV.slice Sl.nil,
 TV.slice Sl.nil])
 (46 : Nat)))
 (0 : Nat)
 (TV.agg
 [TV.slice s, TV.slice s_21]))
 (Array.size h_2) (0 : Nat)
 (TV.agg
 [TV.slice s_22,
 TV.slice s_23])))))
 fun (J : Bool → Array Obj → Prop) ↦
 CallsH Try.prog (28 : Nat) (TVs.vals [TV.slice parents, TV.slice targets, TV.slice stakes]) h fun (v : Value) (h : Heap) ↦
 ∃ (b : Bool),
 v = TV.val (TV.bool b) ∧
 If b (R (TV.val (TV.bool true)) h) (If (decide ((↑stakes.len : Int) = (0 : Int))) (R (TV.val (TV.bool true)) h) (J false h)))

theorem tollerlaw20_GhostShares_calls (parents : Sl) (targets : Sl) (stakes : Sl) (turn : Int) (cut : Int) (h : Heap) (R : Value → Heap → Prop) (H : tollerlaw20_GhostShares_vc parents targets stakes turn cut h R) : CallsH Try.prog 8 (TVs.vals [TV.slice parents, TV.slice targets, TV.slice stakes, TV.int IntKind.i64 turn, TV.int IntKind.i64 cut]) h R :=
 vcFn_sound (C := ctx) ctx_ok (fn := Try.f8) Try.func8 ((by kernel_rfl : tollerlaw20_GhostShares_vc parents targets stakes turn cut h R = vcFn ctx Try.f8 [TV.slice parents, TV.slice targets, TV.slice stakes, TV.int IntKind.i64 turn, TV.int IntKind.i64 cut] h R) ▸ H)


end Go.Proofs.Ytahoibjgojlpeaa
