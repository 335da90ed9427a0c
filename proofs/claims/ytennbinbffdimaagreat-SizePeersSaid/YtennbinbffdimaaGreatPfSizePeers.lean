/- tollerlaw22.SizePeers returns true whatever is handed in, and leaves what stood as it was. -/
import Derived.Test.YtennbinbffdimaaGreatRows
import Derived.WalkKit
import Derived.ProofKit
import Derived.OpenShut
import Derived.ShutString
import Derived.ChangeOld
import Derived.Below
import Derived.Test.YtennbinbffdimaaGreatPkF
namespace Go.Proofs.YtennbinbffdimaaGreat.sizePeers
open Go.Vc
open Go.ChangeShapes Go.WideShapes Go.ChangeAt Go.RowKit
open Go.ChangeMaps (open_string shut_string)
set_option linter.unusedVariables false

theorem own : ownKnob Tryz.prog.godebug = none := by kernel_rfl
theorem laidOut : laidOutB Tryz.prog = true := by kernel_rfl

set_option maxRecDepth 100000 in
theorem lifted (os : Os) (started : os.Started) (H : Type) (enc : TypeId × Value → H) :
    ReturnsInHanded {} Tryz.checked os 3 .any (Rows.sizePeersSpec.pre6 enc Tryz.prog Tryz.f3 Rows.sizePeersRow.domain false) (Rows.sizePeersSpec.post enc Tryz.prog Tryz.f3 false true false false) := by
  refine returnsInHanded_of_change (C := Tryz.checked) own started (by kernel_rfl) Tryz.func3
    (ChangeSpec.witness6 (enc := enc) (C := Tryz.checked) false ⟨#[], #[.agg #[.slice none 0 0, .int .i64 0, .int .i64 0, .int .i64 0, .int .i64 0, .int .i64 0, .int .i64 0, .int .i64 0, .int .i64 0, .int .i64 0, .int .i64 0, .int .i64 0], .int .i64 0, .string ⟨#[]⟩], []⟩ 8 (by kernel_rfl) (by kernel_rfl) (by kernel_rfl) (by kernel_rfl)) ?_
  intro W base args ds gs before hval0 hW hcnd _
  have hval : ∀ (j : Nat) t v, Tryz.f3.params[j]? = some t → args[j]? = some v → Value.okWide Tryz.prog W .any base t v := hval0
  have hW' := hW
  obtain ⟨p, q, hA0, hV, rfl, hfz, hnd⟩ := hW
  have hA : DataW.TrodAll enc Tryz.prog W 0 (fun _ => true) true Tryz.f3.params.toList args.toList ds p := hA0
  rw [Tryz.params3] at hA hval
  obtain ⟨v0, vs0, d0, ds0, p0, q0, hargs, rfl, rfl, h0, r0⟩ := trodAll_cons hA
  obtain ⟨v1, vs1, d1, ds1, p1, q1, rfl, rfl, rfl, h1, r1⟩ := trodAll_cons r0
  obtain ⟨v2, vs2, d2, ds2, p2, q2, rfl, rfl, rfl, h2, r2⟩ := trodAll_cons r1
  obtain ⟨rfl, rfl, rfl⟩ := trodAll_nil r2
  obtain rfl : args = #[v0, v1, v2] := by cases args; simp_all
  obtain ⟨rfl, rfl⟩ := trodVars_none hV
  obtain ⟨c0, i0, rfl⟩ := Go.Proofs.YtennbinbffdimaaGreat.Board.cf_in (hval 0 24 v0 rfl rfl) h0
  have k0 := h0
  have lt0 : ∀ x ∈ p0, x.block < W.heap.size := by obtain ⟨m, hm⟩ := k0; exact DataW.trod_lt m _ _ _ hm
  obtain ⟨a1, rfl, rfl, rfl, w1⟩ := open_int Tryz.underlying3 (hval 1 3 v1 rfl rfl) h1
  obtain ⟨a2, rfl, rfl, rfl, w2⟩ := open_string Tryz.underlying9 (hval 2 9 v2 rfl rfl) h2
  clear hA0 hval0
  have main : Calls Tryz.prog 3 #[c0.tv.val, Value.int .i64 a1, Value.string a2] W fun e w' => e = .returned (.bool true) ∧ Below W.heap.size W w' := by
    exact (CallsH.fin (args := TVs.vals [c0.tv, .int .i64 a1, .str a2.data.toList]) (Go.Proofs.YtennbinbffdimaaGreat.Gate.sizePeers_whole i0 fun h' e => ⟨rfl, e⟩))
  refine main.mono fun e W' ⟨he, bel⟩ => ?_
  subst he
  exact ⟨_, rfl, _, _, _, [], _, [], hW', trodAll_mk1 (shut_bool Tryz.underlying4 _), (trodAll_cons_mk (Below.trod laidOut (by kernel_rfl) (of_decide_eq_true (by kernel_rfl)) k0 bel lt0) (trodAll_cons_mk (shut_int Tryz.underlying3 w1) (trodAll_cons_mk (shut_string Tryz.underlying9 w2) trodAll_mk0))), rfl, bel.frame _, fun h => by cases h⟩

theorem j1 : Rows.sizePeersRow.wf (OpenSpec.ofChange Rows.sizePeersSpec) = true := by kernel_rfl
theorem j4 : Tryz.f3.params.all (Tryz.prog.readableRec ·) = true := by kernel_rfl
theorem j5 : namedTie Tryz.prog Rows.sizePeersRow.named Rows.sizePeersSpec.vars = true := by kernel_rfl
theorem j6 : (Rows.sizePeersRow.stops == []) = true := by kernel_rfl
theorem j8 : (Rows.sizePeersRow.knobs == []) = true := by kernel_rfl
theorem j10 : (Rows.sizePeersRow.inPlace == Tryz.prog.inPlace 3) = true := by kernel_rfl
theorem j11 : (Rows.sizePeersRow.unfollowed == Tryz.prog.unfollowed 3) = true := by kernel_rfl
theorem j12 : (Rows.sizePeersRow.recurses == Tryz.prog.recurses 3) = true := by kernel_rfl
theorem j13 : (Rows.sizePeersRow.named == Tryz.prog.varsNamed 3) = true := by kernel_rfl
theorem j14 : (Rows.sizePeersRow.maps == (Tryz.f3.params.toList ++ Rows.sizePeersSpec.plain.varTypes Tryz.prog).any (Tryz.prog.mapsRec ·)) = true := by kernel_rfl
theorem j15 : (Rows.sizePeersRow.ifaces == (Tryz.f3.params.toList ++ Rows.sizePeersSpec.plain.varTypes Tryz.prog).any (Tryz.prog.ifacesRec ·)) = true := by kernel_rfl
theorem j16 : (Rows.sizePeersRow.mapsOut == Tryz.prog.mapsAmong Tryz.f3.resultTypes.toList) = true := by kernel_rfl
theorem j17 : (Rows.sizePeersRow.loops == (Tryz.f3.params.toList ++ Rows.sizePeersSpec.plain.varTypes Tryz.prog).any (Tryz.prog.loopsFrom ·)) = true := by kernel_rfl
theorem j18 : (Rows.sizePeersRow.wideKeys == (Tryz.f3.params.toList ++ Rows.sizePeersSpec.plain.varTypes Tryz.prog ++ Tryz.f3.resultTypes.toList).any (Tryz.prog.wideKeysFrom ·)) = true := by kernel_rfl
theorem j19 : Rows.sizePeersSpec.vars.all (Tryz.prog.varReadable ·) = true := by kernel_rfl
theorem j20 : Tryz.f3.resultTypes.all (fun t => Tryz.prog.readableRec t && decide (t < Tryz.prog.types.size)) = true := by kernel_rfl
theorem j21 : (Rows.sizePeersRow.ifacesOut == Tryz.f3.resultTypes.toList.any (Tryz.prog.ifacesRec ·)) = true := by kernel_rfl
theorem j22 : (Rows.sizePeersRow.loopsOut == Tryz.f3.resultTypes.toList.any (Tryz.prog.loopsFrom ·)) = true := by kernel_rfl
theorem j24 : Rows.sizePeersRow.shortTexts.isNone = true := by kernel_rfl
theorem j29 : (Rows.sizePeersRow.kinds == (if Rows.sizePeersRow.domain.isEmpty then [] else Tryz.f3.params.toList.map fun t => match Tryz.prog.underlying t with | some (.int k) => some k | _ => none)) = true := by kernel_rfl
theorem j30 : (Rows.sizePeersRow.pinned == Rows.sizePeersRow.pinnedBy) = true := by kernel_rfl
theorem j31 : (Rows.sizePeersRow.veiled == (Tryz.f3.params.toList ++ Rows.sizePeersSpec.plain.varTypes Tryz.prog ++ Tryz.f3.resultTypes.toList).any (Tryz.prog.veiledRec ·)) = true := by kernel_rfl
theorem j32 : Rows.sizePeersRow.veiledFits Tryz.prog Tryz.f3.params.toList (Tryz.f3.params.toList ++ Rows.sizePeersSpec.plain.varTypes Tryz.prog ++ Tryz.f3.resultTypes.toList) = true := by kernel_rfl
theorem j23 : (Rows.sizePeersRow.plainKeys == Tryz.prog.plainKeys) = true := by rw [fp_plain]; rfl
theorem j27 : (Rows.sizePeersRow.lifted == Tryz.prog.liftsFinal) = true := by rw [fp_lifts]; rfl
theorem j28 : (Tryz.prog.make == some Rows.sizePeersRow.make) = true := fp_make
set_option maxRecDepth 100000 in
theorem closed : joinedFacts Tryz.prog 3 Tryz.f3 Rows.sizePeersSpec Rows.sizePeersRow = true := joined_of j1 fp_laid fp_rowed j4 j5 j6 fp_stops j8 fp_knobs j10 j11 j12 j13 j14 j15 j16 j17 j18 j19 j20 j21 j22 j23 j24 fp_heard fp_may j27 j28 j29 j30 j31 j32
theorem fnamed : Tryz.pinned.checked.prog.funcNamed Rows.sizePeersRow.func = some 3 := by kernel_rfl
theorem inst : Tryz.f3.isInstance Tryz.pinned.checked.prog Rows.sizePeersRow.origin Rows.sizePeersRow.targs := of_decide_eq_true (by kernel_rfl)
theorem wrapper : Tryz.f3.isWrapper Tryz.pinned.checked.prog Rows.sizePeersRow.wrapper Rows.sizePeersRow.mainSum := by unfold Func.isWrapper; first | (rw [if_pos (by decide +kernel)]; kernel_rfl) | (rw [if_neg (by decide +kernel)]; exact ⟨rfl, rfl⟩)

theorem over : Rows.sizePeersRow.holds Tryz.pinned (OpenSpec.ofChange Rows.sizePeersSpec) :=
  OpenClaim.holds_of_wide 3 Tryz.f3 rfl rfl rfl rfl rfl rfl rfl ⟨rfl, rfl, rfl, rfl, rfl⟩ rfl rfl rfl rfl rfl fnamed Tryz.func3 closed
    inst wrapper
    (fun os started H enc _ => lifted os started H enc)

theorem proved : Rows.SizePeersSaid := over
end Go.Proofs.YtennbinbffdimaaGreat.sizePeers
