/- The conditions of functions, as the generator reckons them out, each with the proof that it is that. -/
import Derived.Test.YtahoibjgojlpeaaCtx
namespace Go.Proofs.Ytahoibjgojlpeaa
open Go Go.Vc
set_option maxRecDepth 100000
set_option linter.unusedVariables false

def tollerlaw20_GhostTies_vc (parents : Sl) (h : Heap) (R : Value → Heap → Prop) : Prop :=
 CallsH Try.prog (27 : Nat) (TVs.vals []) h fun (v : Value) (h : Heap) ↦
 ∃ (b : Bool),
 v = TV.val (TV.bool b) ∧
 If (!b) (R (TV.val (TV.bool false)) h)
 (If (decide ((40 : Int) < (↑parents.len : Int))) (R (TV.val (TV.bool true)) h)
 (CallsH Try.prog (29 : Nat) (TVs.vals [TV.slice parents, TV.slice Sl.nil, TV.slice Sl.nil]) h fun (v : Value) (h : Heap) ↦
 ∃ (s : Sl),
 ∃ (s_1 : Sl),
 ∃ (s_2 : Sl),
 ∃ (s_3 : Sl),
 v = TV.val (TV.agg [TV.slice s, TV.slice s_1, TV.slice s_2, TV.slice s_3]) ∧
 wok (newTV h (TV.agg [TV.slice Sl.nil, TV.slice Sl.nil, TV.slice Sl.nil, TV.slice Sl.nil]) (41 : Nat)) (Array.size h) (0 : Nat)
 (Nat.succ (Nat.add (1 : Nat) (Nat.add (1 : Nat) (1 : Nat)))) ∧
 Go.Vc.Loop ((0 : Int), (0 : Int))
 (TV.put (newTV h (TV.agg [TV.slice Sl.nil, TV.slice Sl.nil, TV.slice Sl.nil, TV.slice Sl.nil]) (41 : Nat)) (Array.size h) (0 : Nat)
 (TV.agg [TV.slice s, TV.slice s_1, TV.slice s_2, TV.slice s_3]))
 fun (s_4 : Int × Int) (h_1 : Array Obj) (K : Int × Int → Array Obj → Prop) ↦
 If (decide (s_4.snd < (50 : Int)))
 (Go.Vc.Loop ((-1 : Int), IntKind.wrap IntKind.i64 (s_4.fst + (1 : Int))) h_1
 fun (s_5 : Int × Int) (h_2 : Array Obj) (K_1 : Int × Int → Array Obj → Prop) ↦
 ∃ (s_6 : Sl),
 at1 h_2 (Array.size h) (0 : Nat) (slVal s_6) ∧
 If (decide (s_5.snd < (↑s_6.len : Int)))
 (∃ (s_7 : Sl),
 at1 h_2 (Array.size h) (1 : Nat) (slVal s_7) ∧
 (0 : Int) ≤ s_5.snd ∧
 s_5.snd < (↑s_7.len : Int) ∧
 Nn s_7.a fun (l : Go.Vc.Loc) ↦
 ∃ (b_1 : Bs (32 : Nat)),
 atBytes h_2 l.b (l.o + Int.toNat s_5.snd * (32 : Nat)) (32 : Nat) b_1 ∧
 ∃ (s_8 : Sl),
 at1 h_2 (Array.size h) (0 : Nat) (slVal s_8) ∧
 (0 : Int) ≤ s_4.fst ∧
 s_4.fst < (↑s_8.len : Int) ∧
 Nn s_8.a fun (l : Go.Vc.Loc) ↦
 ∃ (b_2 : Bs (32 : Nat)),
 atBytes h_2 l.b (l.o + Int.toNat s_4.fst * (32 : Nat)) (32 : Nat) b_2 ∧
 If (decide (b_1.1 = b_2.1))
 (If (decide (s_5.fst < (0 : Int)))
 (K_1 (s_5.snd, IntKind.wrap IntKind.i64 (s_5.snd + (1 : Int))) h_2)
 (∃ (s_9 : Sl),
 at1 h_2 (Array.size h) (0 : Nat) (slVal s_9) ∧
 (0 : Int) ≤ s_5.fst ∧
 s_5.fst < (↑s_9.len : Int) ∧
 Nn s_9.a fun (l : Go.Vc.Loc) ↦
 ∃ (b_3 : Bs (32 : Nat)),
 atBytes h_2 l.b (l.o + Int.toNat s_5.fst * (32 : Nat)) (32 : Nat) b_3 ∧
 ∃ (s_10 : Sl),
 at1 h_2 (Array.size h) (0 : Nat) (slVal s_10) ∧
 (0 : Int) ≤ s_5.snd ∧
 s_5.snd < (↑s_10.len : Int) ∧
 Nn s_10.a fun (l : Go.Vc.Loc) ↦
 ∃ (b_4 : Bs (32 : Nat)),
 atBytes h_2 l.b (l.o + Int.toNat s_5.snd * (32 : Nat)) (32 : Nat)
 b_4 ∧
 CallsH Try.prog (38 : Nat)
 (TVs.vals [TV.bytes (32 : Nat) b_3, TV.bytes (32 : Nat) b_4])
 h_2 fun (v : Value) (h : Array Obj) ↦
 ∃ (b_5 : Bool),
 v = TV.val (TV.bool b_5) ∧
 If b_5
 (K_1
 (s_5.snd,
 IntKind.wrap IntKind.i64 (s_5.snd + (1 : Int)))
 h)
 (K_1
 (s_5.fst,
 IntKind.wrap IntKind.i64 (s_5.snd + (1 : Int)))
 h)))
 (K_1 (s_5.fst, IntKind.wrap IntKind.i64 (s_5.snd + (1 : Int))) h_2))
 (If (decide (s_5.fst < (0 : Int)))
 (∃ (s_7 : Sl),
 ∃ (s_8 : Sl),
 ∃ (s_9 : Sl),
 ∃ (s_10 : Sl),
 (at1 h_2 (Array.size h) (0 : Nat) (slVal s_7) ∧
 at1 h_2 (Array.size h) (1 : Nat) (slVal s_8) ∧
 at1 h_2 (Array.size h) (2 : Nat) (slVal s_9) ∧ at1 h_2 (Array.size h) (3 : Nat) (slVal s_10)) ∧
 ∃ (s_11 : Sl),
 at1 h_2 (Array.size h) (0 : Nat) (slVal s_11) ∧
 (0 : Int) ≤ s_4.fst ∧
 s_4.fst < (↑s_11.len : Int) ∧
 Nn s_11.a fun (l : Go.Vc.Loc) ↦
 ∃ (b_1 : Bs (32 : Nat)),
 atBytes h_2 l.b (l.o + Int.toNat s_4.fst * (32 : Nat)) (32 : Nat) b_1 ∧
 CallsH Try.prog (31 : Nat)
 (TVs.vals [TV.agg [TV.slice s_7, TV.slice s_8, TV.slice s_9, TV.slice s_10]]) h_2
 fun (v : Value) (h : Array Obj) ↦
 ∃ (s : Sl),
 ∃ (s_12 : Sl),
 v = TV.val (TV.agg [TV.slice s, TV.slice s_12]) ∧
 Ext h_2 h ∧
 CallsH Try.prog (34 : Nat) (TVs.vals [TV.agg [TV.slice s, TV.slice s_12]]) h
 fun (v : Value) (h_3 : Array Obj) ↦
 ∃ (b : Bs (32 : Nat)),
 v = TV.val (TV.bytes (32 : Nat) b) ∧
 Ext h h_3 ∧ R (TV.val (TV.bool (decide (b.1 = b_1.1)))) h_3)
 (K (s_5.fst, IntKind.wrap IntKind.i64 (s_4.snd + (1 : Int))) h_2)))
 (∃ (s_5 : Sl),
 ∃ (s_6 : Sl),
 ∃ (s_7 : Sl),
 ∃ (s_8 : Sl),
 (at1 h_1 (Array.size h) (0 : Nat) (slVal s_5) ∧
 at1 h_1 (Array.size h) (1 : Nat) (slVal s_6) ∧
 at1 h_1 (Array.size h) (2 : Nat) (slVal s_7) ∧ at1 h_1 (Array.size h) (3 : Nat) (slVal s_8)) ∧
 ∃ (s_9 : Sl),
 at1 h_1 (Array.size h) (0 : Nat) (slVal s_9) ∧
 (0 : Int) ≤ s_4.fst ∧
 s_4.fst < (↑s_9.len : Int) ∧
 Nn s_9.a fun (l : Go.Vc.Loc) ↦
 ∃ (b_1 : Bs (32 : Nat)),
 atBytes h_1 l.b (l.o + Int.toNat s_4.fst * (32 : Nat)) (32 : Nat) b_1 ∧
 CallsH Try.prog (31 : Nat) (TVs.vals [TV.agg [TV.slice s_5, TV.slice s_6, TV.slice s_7, TV.slice s_8]]) h_1
 fun (v : Value) (h : Array Obj) ↦
 ∃ (s : Sl),
 ∃ (s_10 : Sl),
 v = TV.val (TV.agg [TV.slice s, TV.slice s_10]) ∧
 Ext h_1 h ∧
 CallsH Try.prog (34 : Nat) (TVs.vals [TV.agg [TV.slice s, TV.slice s_10]]) h
 fun (v : Value) (h_2 : Array Obj) ↦
 ∃ (b : Bs (32 : Nat)),
 v = TV.val (TV.bytes (32 : Nat) b) ∧
 Ext h h_2 ∧ R (TV.val (TV.bool (decide (b.1 = b_1.1)))) h_2)))

theorem tollerlaw20_GhostTies_calls (parents : Sl) (h : Heap) (R : Value → Heap → Prop) (H : tollerlaw20_GhostTies_vc parents h R) : CallsH Try.prog 12 (TVs.vals [TV.slice parents]) h R :=
 vcFn_sound (C := ctx) ctx_ok (fn := Try.f12) Try.func12 ((by kernel_rfl : tollerlaw20_GhostTies_vc parents h R = vcFn ctx Try.f12 [TV.slice parents] h R) ▸ H)


end Go.Proofs.Ytahoibjgojlpeaa
