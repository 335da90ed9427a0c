/- The conditions of functions, as the generator reckons them out, each with the proof that it is that. -/
import Derived.Test.YtahoibjgojlpeaaCtx
namespace Go.Proofs.Ytahoibjgojlpeaa
open Go Go.Vc
set_option maxRecDepth 100000
set_option linter.unusedVariables false

def tollerlaw20_GhostSums_vc (parents : Sl) (targets : Sl) (stakes : Sl) (h : Heap) (R : Value → Heap → Prop) : Prop :=
 CallsH Try.prog (27 : Nat) (TVs.vals []) h fun (v : Value) (h : Heap) ↦
 ∃ (b : Bool),
 v = TV.val (TV.bool b) ∧
 If (!b) (R (TV.val (TV.bool false)) h)
 (CallsH Try.prog (28 : Nat) (TVs.vals [TV.slice parents, TV.slice targets, TV.slice stakes]) h fun (v : Value) (h : Heap) ↦
 ∃ (b_1 : Bool),
 v = TV.val (TV.bool b_1) ∧
 If b_1 (R (TV.val (TV.bool true)) h)
 (CallsH Try.prog (29 : Nat) (TVs.vals [TV.slice parents, TV.slice targets, TV.slice stakes]) h fun (v : Value) (h : Heap) ↦
 ∃ (s : Sl),
 ∃ (s_1 : Sl),
 ∃ (s_2 : Sl),
 ∃ (s_3 : Sl),
 v = TV.val (TV.agg [TV.slice s, TV.slice s_1, TV.slice s_2, TV.slice s_3]) ∧
 wok (newTV h (TV.agg [TV.slice Sl.nil, TV.slice Sl.nil, TV.slice Sl.nil, TV.slice Sl.nil]) (41 : Nat)) (Array.size h) (0 : Nat)
 (Nat.succ (Nat.add (1 : Nat) (Nat.add (1 : Nat) (1 : Nat)))) ∧
 ∃ (s_4 : Sl),
 ∃ (s_5 : Sl),
 ∃ (s_6 : Sl),
 ∃ (s_7 : Sl),
 (at1
 (TV.put (newTV h (TV.agg [TV.slice Sl.nil, TV.slice Sl.nil, TV.slice Sl.nil, TV.slice Sl.nil]) (41 : Nat))
 (Array.size h) (0 : Nat) (TV.agg [TV.slice s, TV.slice s_1, TV.slice s_2, TV.slice s_3]))
 (Array.size h) (0 : Nat) (slVal s_4) ∧
 at1
 (TV.put (newTV h (TV.agg [TV.slice Sl.nil, TV.slice Sl.nil, TV.slice Sl.nil, TV.slice Sl.nil]) (41 : Nat))
 (Array.size h) (0 : Nat) (TV.agg [TV.slice s, TV.slice s_1, TV.slice s_2, TV.slice s_3]))
 (Array.size h) (1 : Nat) (slVal s_5) ∧
 at1
 (TV.put (newTV h (TV.agg [TV.slice Sl.nil, TV.slice Sl.nil, TV.slice Sl.nil, TV.slice Sl.nil]) (41 : Nat))
 (Array.size h) (0 : Nat) (TV.agg [TV.slice s, TV.slice s_1, TV.slice s_2, TV.slice s_3]))
 (Array.size h) (2 : Nat) (slVal s_6) ∧
 at1
 (TV.put (newTV h (TV.agg [TV.slice Sl.nil, TV.slice Sl.nil, TV.slice Sl.nil, TV.slice Sl.nil]) (41 : Nat))
 (Array.size h) (0 : Nat) (TV.agg [TV.slice s, TV.slice s_1, TV.slice s_2, TV.slice s_3]))
 (Array.size h) (3 : Nat) (slVal s_7)) ∧
 CallsH Try.prog (30 : Nat) (TVs.vals [TV.agg [TV.slice s_4, TV.slice s_5, TV.slice s_6, TV.slice s_7]])
 (TV.put (newTV h (TV.agg [TV.slice Sl.nil, TV.slice Sl.nil, TV.slice Sl.nil, TV.slice Sl.nil]) (41 : Nat))
 (Array.size h) (0 : Nat) (TV.agg [TV.slice s, TV.slice s_1, TV.slice s_2, TV.slice s_3]))
 fun (v : Value) (h_1 : Heap) ↦
 ∃ (b_2 : Bool),
 v = TV.val (TV.bool b_2) ∧
 If (!b_2) (R (TV.val (TV.bool true)) h_1)
 (∃ (s_8 : Sl),
 ∃ (s_9 : Sl),
 ∃ (s_10 : Sl),
 ∃ (s_11 : Sl),
 (at1 h_1 (Array.size h) (0 : Nat) (slVal s_8) ∧
 at1 h_1 (Array.size h) (1 : Nat) (slVal s_9) ∧
 at1 h_1 (Array.size h) (2 : Nat) (slVal s_10) ∧ at1 h_1 (Array.size h) (3 : Nat) (slVal s_11)) ∧
 CallsH Try.prog (31 : Nat)
 (TVs.vals [TV.agg [TV.slice s_8, TV.slice s_9, TV.slice s_10, TV.slice s_11]]) h_1
 fun (v : Value) (h_2 : Heap) ↦
 ∃ (s_12 : Sl),
 ∃ (s_13 : Sl),
 v = TV.val (TV.agg [TV.slice s_12, TV.slice s_13]) ∧
 wok (newTV h_2 (TV.agg [TV.slice Sl.nil, TV.slice Sl.nil]) (46 : Nat)) (Array.size h_2)
 (0 : Nat) (Nat.succ (Nat.add (1 : Nat) (0 : Nat))) ∧
 ∃ (s_14 : Sl),
 at1
 (TV.put (newTV h_2 (TV.agg [TV.slice Sl.nil, TV.slice Sl.nil]) (46 : Nat))
 (Array.size h_2) (0 : Nat) (TV.agg [TV.slice s_12, TV.slice s_13]))
 (Array.size h) (2 : Nat) (slVal s_14) ∧
 Go.Vc.Loop ((0 : Int), (0 : Int))
 (TV.put (newTV h_2 (TV.agg [TV.slice Sl.nil, TV.slice Sl.nil]) (46 : Nat))
 (Array.size h_2) (0 : Nat) (TV.agg [TV.slice s_12, TV.slice s_13]))
 fun (s_15 : Int × Int) (h_3 : Array Obj) (K : Int × Int → Array Obj → Prop) ↦
 If (decide (s_15.snd < (↑s_14.len : Int)))
 ((0 : Int) ≤ s_15.snd ∧
 s_15.snd < (↑s_14.len : Int) ∧
 Nn s_14.a fun (l : Go.Vc.Loc) ↦
 ∃ (b : Bs (32 : Nat)),
 atBytes h_3 l.b (l.o + Int.toNat s_15.snd * (32 : Nat)) (32 : Nat) b ∧
 wok (newTV h_3 (TV.bytes (32 : Nat) (Bs.zero (32 : Nat))) (37 : Nat))
 (Array.size h_3) (0 : Nat) (32 : Nat) ∧
 ∃ (s : Sl),
 ∃ (s_16 : Sl),
 ∃ (s_17 : Sl),
 ∃ (s_18 : Sl),
 (at1
 (TV.put
 (newTV h_3 (TV.bytes (32 : Nat) (Bs.zero (32 : Nat)))
 (37 : Nat))
 (Array.size h_3) (0 : Nat) (TV.bytes (32 : Nat) b))
 (Array.size h) (0 : Nat) (slVal s) ∧
 at1
 (TV.put
 (newTV h_3 (TV.bytes (32 : Nat) (Bs.zero (32 : Nat)))
 (37 : Nat))
 (Array.size h_3) (0 : Nat) (TV.bytes (32 : Nat) b))
 (Array.size h) (1 : Nat) (slVal s_16) ∧
 at1
 (TV.put
 (newTV h_3
 (TV.bytes (32 : Nat) (Bs.zero (32 : Nat)))
 (37 : Nat))
 (Array.size h_3) (0 : Nat) (TV.bytes (32 : Nat) b))
 (Array.size h) (2 : Nat) (slVal s_17) ∧
 at1
 (TV.put
 (newTV h_3
 (TV.bytes (32 : Nat) (Bs.zero (32 : Nat)))
 (37 : Nat))
 (Array.size h_3) (0 : Nat) (TV.bytes (32 : Nat) b))
 (Array.size h) (3 : Nat) (slVal s_18)) ∧
 ∃ (b_3 : Bs (32 : Nat)),
 atBytes
 (TV.put
 (newTV h_3 (TV.bytes (32 : Nat) (Bs.zero (32 : Nat)))
 (37 : Nat))
 (Array.size h_3) (0 : Nat) (TV.bytes (32 : Nat) b))
 (Array.size h_3) (0 : Nat) (32 : Nat) b_3 ∧
 CallsH Try.prog (36 : Nat)
 (TVs.vals
 [TV.agg
 [TV.slice s, TV.slice s_16, TV.slice s_17,
 TV.slice s_18],
 TV.bytes (32 : Nat) b_3])
 (TV.put
 (newTV h_3 (TV.bytes (32 : Nat) (Bs.zero (32 : Nat)))
 (37 : Nat))
 (Array.size h_3) (0 : Nat) (TV.bytes (32 : Nat) b))
 fun (v : Value) (h : Heap) ↦
 ∃ (n : Int),
 v = TV.val (TV.int IntKind.i64 n) ∧
 If (decide ((0 : Int) ≤ n))
 ((0 : Int) ≤ s_15.snd ∧
 s_15.snd < (↑stakes.len : Int) ∧
 Nn stakes.a fun (l : Go.Vc.Loc) ↦
 ∃ (n : Int),
 at1 h l.b
 (l.o + Int.toNat s_15.snd * (1 : Nat))
 (Value.int IntKind.i64 n) ∧
 K
 (IntKind.wrap IntKind.i64
 (s_15.fst + n),
 IntKind.wrap IntKind.i64
 (s_15.snd + (1 : Int)))
 h)
 (K
 (s_15.fst,
 IntKind.wrap IntKind.i64
 (s_15.snd + (1 : Int)))
 h))
 (Go.Vc.Loop (false, (1 : Int)) h_3
 fun (s_16 : Bool × Int) (h_4 : Array Obj) (K : Bool × Int → Array Obj → Prop) ↦
 ∃ (s_17 : Sl),
 at1 h_4 (Array.size h) (0 : Nat) (slVal s_17) ∧
 If (decide (s_16.snd < (↑s_17.len : Int)))
 (∃ (s_18 : Sl),
 ∃ (s_19 : Sl),
 (at1 h_4 (Array.size h_2) (0 : Nat) (slVal s_18) ∧
 at1 h_4 (Array.size h_2) (1 : Nat) (slVal s_19)) ∧
 ∃ (s_20 : Sl),
 at1 h_4 (Array.size h) (0 : Nat) (slVal s_20) ∧
 (0 : Int) ≤ s_16.snd ∧
 s_16.snd < (↑s_20.len : Int) ∧
 Nn s_20.a fun (l : Go.Vc.Loc) ↦
 ∃ (b_3 : Bs (32 : Nat)),
 atBytes h_4 l.b (l.o + Int.toNat s_16.snd * (32 : Nat))
 (32 : Nat) b_3 ∧
 ∃ (s_21 : Sl),
 ∃ (s_22 : Sl),
 (at1 h_4 (Array.size h_2) (0 : Nat) (slVal s_21) ∧
 at1 h_4 (Array.size h_2) (1 : Nat)
 (slVal s_22)) ∧
 ∃ (s_23 : Sl),
 at1 h_4 (Array.size h) (1 : Nat) (slVal s_23) ∧
 (0 : Int) ≤ s_16.snd ∧
 s_16.snd < (↑s_23.len : Int) ∧
 Nn s_23.a fun (l : Go.Vc.Loc) ↦
 ∃ (b_4 : Bs (32 : Nat)),
 atBytes h_4 l.b
 (l.o +
 Int.toNat s_16.snd * (32 : Nat))
 (32 : Nat) b_4 ∧
 CallsH Try.prog (33 : Nat)
 (TVs.vals
 [TV.agg
 [TV.slice s_18,
 TV.slice s_19],
 TV.bytes (32 : Nat) b_3])
 h_4
 fun (v : Value)
 (h_5 : Array Obj) ↦
 ∃ (n : Int),
 v =
 TV.val
 (TV.int IntKind.i64 n) ∧
 Ext h_4 h_5 ∧
 CallsH Try.prog (33 : Nat)
 (TVs.vals
 [TV.agg
 [TV.slice s_21,
 TV.slice s_22],
 TV.bytes (32 : Nat)
 b_4])
 h_5
 fun (v : Value)
 (h_6 : Array Obj) ↦
 ∃ (n_1 : Int),
 v =
 TV.val
 (TV.int
 IntKind.i64
 n_1) ∧
 If (decide (n_1 < n))
 (R
 (TV.val
 (TV.bool false))
 h_6)
 (K
 (s_16.fst,
 IntKind.wrap
 IntKind.i64
 (s_16.snd +
 (1 : Int)))
 h_6))
 (∃ (s : Sl),
 ∃ (s_18 : Sl),
 (at1 h_4 (Array.size h_2) (0 : Nat) (slVal s) ∧
 at1 h_4 (Array.size h_2) (1 : Nat) (slVal s_18)) ∧
 ∃ (s_19 : Sl),
 at1 h_4 (Array.size h) (0 : Nat) (slVal s_19) ∧
 (0 : Int) ≤ (0 : Int) ∧
 (0 : Int) < (↑s_19.len : Int) ∧
 Nn s_19.a fun (l : Go.Vc.Loc) ↦
 ∃ (b : Bs (32 : Nat)),
 atBytes h_4 l.b (l.o + Int.toNat (0 : Int) * (32 : Nat))
 (32 : Nat) b ∧
 CallsH Try.prog (33 : Nat)
 (TVs.vals
 [TV.agg [TV.slice s, TV.slice s_18],
 TV.bytes (32 : Nat) b])
 h_4 fun (v : Value) (h : Array Obj) ↦
 ∃ (n : Int),
 v = TV.val (TV.int IntKind.i64 n) ∧
 Ext h_4 h ∧
 R (TV.val (TV.bool (decide (n = s_15.fst))))
 h)))))

theorem tollerlaw20_GhostSums_calls (parents : Sl) (targets : Sl) (stakes : Sl) (h : Heap) (R : Value → Heap → Prop) (H : tollerlaw20_GhostSums_vc parents targets stakes h R) : CallsH Try.prog 10 (TVs.vals [TV.slice parents, TV.slice targets, TV.slice stakes]) h R :=
 vcFn_sound (C := ctx) ctx_ok (fn := Try.f10) Try.func10 ((by kernel_rfl : tollerlaw20_GhostSums_vc parents targets stakes h R = vcFn ctx Try.f10 [TV.slice parents, TV.slice targets, TV.slice stakes] h R) ▸ H)


end Go.Proofs.Ytahoibjgojlpeaa
