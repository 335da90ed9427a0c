/- The conditions of functions, as the generator reckons them out, each with the proof that it is that. -/
import Derived.Test.YtahoibjgojlpeaaCtx
namespace Go.Proofs.Ytahoibjgojlpeaa
open Go Go.Vc
set_option maxRecDepth 100000
set_option linter.unusedVariables false

def tollerref20_Chain_Head_vc (c_Roots : Sl) (c_Parents : Sl) (c_Targets : Sl) (c_Stakes : Sl) (h : Heap) (R : Value → Heap → Prop) : Prop :=
 ∃ (s : Sl),
 at1
 (newTV (newTV h (TV.agg [TV.slice c_Roots, TV.slice c_Parents, TV.slice c_Targets, TV.slice c_Stakes]) (41 : Nat))
 (TV.bytes (32 : Nat) (Bs.zero (32 : Nat))) (37 : Nat))
 (Array.size h) (0 : Nat) (slVal s) ∧
 If (decide ((↑s.len : Int) = (0 : Int)))
 (wok
 (newTV (newTV h (TV.agg [TV.slice c_Roots, TV.slice c_Parents, TV.slice c_Targets, TV.slice c_Stakes]) (41 : Nat))
 (TV.bytes (32 : Nat) (Bs.zero (32 : Nat))) (37 : Nat))
 (Array.size (newTV h (TV.agg [TV.slice c_Roots, TV.slice c_Parents, TV.slice c_Targets, TV.slice c_Stakes]) (41 : Nat))) (0 : Nat) (32 : Nat) ∧
 ∃ (b : Bs (32 : Nat)),
 atBytes
 (TV.put
 (newTV (newTV h (TV.agg [TV.slice c_Roots, TV.slice c_Parents, TV.slice c_Targets, TV.slice c_Stakes]) (41 : Nat))
 (TV.bytes (32 : Nat) (Bs.zero (32 : Nat))) (37 : Nat))
 (Array.size (newTV h (TV.agg [TV.slice c_Roots, TV.slice c_Parents, TV.slice c_Targets, TV.slice c_Stakes]) (41 : Nat))) (0 : Nat)
 (TV.bytes (32 : Nat) (Bs.zero (32 : Nat))))
 (Array.size (newTV h (TV.agg [TV.slice c_Roots, TV.slice c_Parents, TV.slice c_Targets, TV.slice c_Stakes]) (41 : Nat))) (0 : Nat) (32 : Nat) b ∧
 R (TV.val (TV.bytes (32 : Nat) b))
 (TV.put
 (newTV (newTV h (TV.agg [TV.slice c_Roots, TV.slice c_Parents, TV.slice c_Targets, TV.slice c_Stakes]) (41 : Nat))
 (TV.bytes (32 : Nat) (Bs.zero (32 : Nat))) (37 : Nat))
 (Array.size (newTV h (TV.agg [TV.slice c_Roots, TV.slice c_Parents, TV.slice c_Targets, TV.slice c_Stakes]) (41 : Nat))) (0 : Nat)
 (TV.bytes (32 : Nat) (Bs.zero (32 : Nat)))))
 (∃ (s_1 : Sl),
 ∃ (s_2 : Sl),
 ∃ (s_3 : Sl),
 ∃ (s_4 : Sl),
 (at1
 (newTV (newTV h (TV.agg [TV.slice c_Roots, TV.slice c_Parents, TV.slice c_Targets, TV.slice c_Stakes]) (41 : Nat))
 (TV.bytes (32 : Nat) (Bs.zero (32 : Nat))) (37 : Nat))
 (Array.size h) (0 : Nat) (slVal s_1) ∧
 at1
 (newTV (newTV h (TV.agg [TV.slice c_Roots, TV.slice c_Parents, TV.slice c_Targets, TV.slice c_Stakes]) (41 : Nat))
 (TV.bytes (32 : Nat) (Bs.zero (32 : Nat))) (37 : Nat))
 (Array.size h) (1 : Nat) (slVal s_2) ∧
 at1
 (newTV (newTV h (TV.agg [TV.slice c_Roots, TV.slice c_Parents, TV.slice c_Targets, TV.slice c_Stakes]) (41 : Nat))
 (TV.bytes (32 : Nat) (Bs.zero (32 : Nat))) (37 : Nat))
 (Array.size h) (2 : Nat) (slVal s_3) ∧
 at1
 (newTV (newTV h (TV.agg [TV.slice c_Roots, TV.slice c_Parents, TV.slice c_Targets, TV.slice c_Stakes]) (41 : Nat))
 (TV.bytes (32 : Nat) (Bs.zero (32 : Nat))) (37 : Nat))
 (Array.size h) (3 : Nat) (slVal s_4)) ∧
 CallsH Try.prog (32 : Nat) (TVs.vals [TV.agg [TV.slice s_1, TV.slice s_2, TV.slice s_3, TV.slice s_4]])
 (newTV (newTV h (TV.agg [TV.slice c_Roots, TV.slice c_Parents, TV.slice c_Targets, TV.slice c_Stakes]) (41 : Nat))
 (TV.bytes (32 : Nat) (Bs.zero (32 : Nat))) (37 : Nat))
 fun (v : Value) (h_1 : Heap) ↦
 ∃ (s_5 : Sl),
 v = TV.val (TV.slice s_5) ∧
 Go.Vc.Loop (0 : Int) h_1 fun (s_6 : Int) (h_2 : Array Obj) (K : Int → Array Obj → Prop) ↦
 Go.Vc.Loop ((-1 : Int), IntKind.wrap IntKind.i64 (s_6 + (1 : Int))) h_2
 fun (s_7 : Int × Int) (h_3 : Array Obj) (K_1 : Int × Int → Array Obj → Prop) ↦
 ∃ (s_8 : Sl),
 at1 h_3 (Array.size h) (0 : Nat) (slVal s_8) ∧
 If (decide (s_7.snd < (↑s_8.len : Int)))
 (∃ (s_9 : Sl),
 at1 h_3 (Array.size h) (1 : Nat) (slVal s_9) ∧
 (0 : Int) ≤ s_7.snd ∧
 s_7.snd < (↑s_9.len : Int) ∧
 Nn s_9.a fun (l : Go.Vc.Loc) ↦
 ∃ (b : Bs (32 : Nat)),
 atBytes h_3 l.b (l.o + Int.toNat s_7.snd * (32 : Nat)) (32 : Nat) b ∧
 ∃ (s_10 : Sl),
 at1 h_3 (Array.size h) (0 : Nat) (slVal s_10) ∧
 (0 : Int) ≤ s_6 ∧
 s_6 < (↑s_10.len : Int) ∧
 Nn s_10.a fun (l : Go.Vc.Loc) ↦
 ∃ (b_1 : Bs (32 : Nat)),
 atBytes h_3 l.b (l.o + Int.toNat s_6 * (32 : Nat)) (32 : Nat) b_1 ∧
 If (decide (b.1 = b_1.1))
 (If (decide (s_7.fst < (0 : Int)))
 (K_1 (s_7.snd, IntKind.wrap IntKind.i64 (s_7.snd + (1 : Int))) h_3)
 ((0 : Int) ≤ s_7.snd ∧
 s_7.snd < (↑s_5.len : Int) ∧
 Nn s_5.a fun (l : Go.Vc.Loc) ↦
 ∃ (n : Int),
 at1 h_3 l.b (l.o + Int.toNat s_7.snd * (1 : Nat)) (Value.int IntKind.i64 n) ∧
 (0 : Int) ≤ s_7.fst ∧
 s_7.fst < (↑s_5.len : Int) ∧
 Nn s_5.a fun (l : Go.Vc.Loc) ↦
 ∃ (n_1 : Int),
 at1 h_3 l.b (l.o + Int.toNat s_7.fst * (1 : Nat))
 (Value.int IntKind.i64 n_1) ∧
 If (decide (n_1 < n))
 (K_1 (s_7.snd, IntKind.wrap IntKind.i64 (s_7.snd + (1 : Int))) h_3)
 ((0 : Int) ≤ s_7.snd ∧
 s_7.snd < (↑s_5.len : Int) ∧
 Nn s_5.a fun (l : Go.Vc.Loc) ↦
 ∃ (n : Int),
 at1 h_3 l.b (l.o + Int.toNat s_7.snd * (1 : Nat))
 (Value.int IntKind.i64 n) ∧
 (0 : Int) ≤ s_7.fst ∧
 s_7.fst < (↑s_5.len : Int) ∧
 Nn s_5.a fun (l : Go.Vc.Loc) ↦
 ∃ (n_2 : Int),
 at1 h_3 l.b (l.o + Int.toNat s_7.fst * (1 : Nat))
 (Value.int IntKind.i64 n_2) ∧
 If (decide (n = n_2))
 (∃ (s_11 : Sl),
 at1 h_3 (Array.size h) (0 : Nat) (slVal s_11) ∧
 (0 : Int) ≤ s_7.fst ∧
 s_7.fst < (↑s_11.len : Int) ∧
 Nn s_11.a fun (l : Go.Vc.Loc) ↦
 ∃ (b : Bs (32 : Nat)),
 atBytes h_3 l.b
 (l.o +
 Int.toNat s_7.fst * (32 : Nat))
 (32 : Nat) b ∧
 ∃ (s_12 : Sl),
 at1 h_3 (Array.size h) (0 : Nat)
 (slVal s_12) ∧
 (0 : Int) ≤ s_7.snd ∧
 s_7.snd < (↑s_12.len : Int) ∧
 Nn s_12.a fun (l : Go.Vc.Loc) ↦
 ∃ (b_2 : Bs (32 : Nat)),
 atBytes h_3 l.b
 (l.o +
 Int.toNat s_7.snd *
 (32 : Nat))
 (32 : Nat) b_2 ∧
 CallsH Try.prog
 (38 : Nat)
 (TVs.vals
 [TV.bytes (32 : Nat)
 b,
 TV.bytes
 (32 : Nat) b_2])
 h_3
 fun (v : Value)
 (h_4 : Array Obj) ↦
 ∃ (b : Bool),
 v =
 TV.val
 (TV.bool b) ∧
 If b
 (K_1
 (s_7.snd,
 IntKind.wrap
 IntKind.i64
 (s_7.snd +
 (1 :
 Int)))
 h_4)
 (K_1
 (s_7.fst,
 IntKind.wrap
 IntKind.i64
 (s_7.snd +
 (1 :
 Int)))
 h_4))
 (K_1
 (s_7.fst,
 IntKind.wrap IntKind.i64 (s_7.snd + (1 : Int)))
 h_3))))
 (K_1 (s_7.fst, IntKind.wrap IntKind.i64 (s_7.snd + (1 : Int))) h_3))
 (If (decide (s_7.fst < (0 : Int)))
 (∃ (s : Sl),
 at1 h_3 (Array.size h) (0 : Nat) (slVal s) ∧
 (0 : Int) ≤ s_6 ∧
 s_6 < (↑s.len : Int) ∧
 Nn s.a fun (l : Go.Vc.Loc) ↦
 ∃ (b : Bs (32 : Nat)),
 atBytes h_3 l.b (l.o + Int.toNat s_6 * (32 : Nat)) (32 : Nat) b ∧
 wok h_3
 (Array.size
 (newTV h (TV.agg [TV.slice c_Roots, TV.slice c_Parents, TV.slice c_Targets, TV.slice c_Stakes])
 (41 : Nat)))
 (0 : Nat) (32 : Nat) ∧
 ∃ (b_1 : Bs (32 : Nat)),
 atBytes
 (TV.put h_3
 (Array.size
 (newTV h (TV.agg [TV.slice c_Roots, TV.slice c_Parents, TV.slice c_Targets, TV.slice c_Stakes])
 (41 : Nat)))
 (0 : Nat) (TV.bytes (32 : Nat) b))
 (Array.size
 (newTV h (TV.agg [TV.slice c_Roots, TV.slice c_Parents, TV.slice c_Targets, TV.slice c_Stakes])
 (41 : Nat)))
 (0 : Nat) (32 : Nat) b_1 ∧
 R (TV.val (TV.bytes (32 : Nat) b_1))
 (TV.put h_3
 (Array.size
 (newTV h (TV.agg [TV.slice c_Roots, TV.slice c_Parents, TV.slice c_Targets, TV.slice c_Stakes])
 (41 : Nat)))
 (0 : Nat) (TV.bytes (32 : Nat) b)))
 (K s_7.fst h_3)))

theorem tollerref20_Chain_Head_calls (c_Roots : Sl) (c_Parents : Sl) (c_Targets : Sl) (c_Stakes : Sl) (h : Heap) (R : Value → Heap → Prop) (H : tollerref20_Chain_Head_vc c_Roots c_Parents c_Targets c_Stakes h R) : CallsH Try.prog 35 (TVs.vals [TV.agg [TV.slice c_Roots, TV.slice c_Parents, TV.slice c_Targets, TV.slice c_Stakes]]) h R :=
 vcFn_sound (C := ctx) ctx_ok (fn := Try.f35) Try.func35 ((by kernel_rfl : tollerref20_Chain_Head_vc c_Roots c_Parents c_Targets c_Stakes h R = vcFn ctx Try.f35 [TV.agg [TV.slice c_Roots, TV.slice c_Parents, TV.slice c_Targets, TV.slice c_Stakes]] h R) ▸ H)


end Go.Proofs.Ytahoibjgojlpeaa
