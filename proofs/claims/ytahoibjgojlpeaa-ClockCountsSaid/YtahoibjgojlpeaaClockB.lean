/- The four laws of the clock return true and leave what stood as it was. -/
import Derived.Test.YtahoibjgojlpeaaClockA
import Derived.Test.YtahoibjgojlpeaaVsClockL
namespace Go.Proofs.Ytahoibjgojlpeaa.Clock
open Go Go.Vc

section
variable {R : Value → Heap → Prop} {h : Heap}

theorem clockIs_spec {win ticks final : Int} {slots : Sl} {zs : List Int} (hz : Ints .i64 h slots zs) (hr : ∀ h', Ext h h' → R (TV.bool true).val h') :
    CallsH Try.prog 3 (TVs.vals [.int .i64 win, .int .i64 ticks, .int .i64 final, .slice slots]) h R := by
  apply tollerlaw09_ClockIs_calls
  refine alive_spec fun h1 e1 => ⟨_, rfl, If.no ?_⟩
  intro J hJ
  refine If.dec.2 ⟨fun _ => hr _ e1, fun g1 => If.dec.2 ⟨fun _ => hr _ e1, fun g2 => If.dec.2 ⟨fun _ => hr _ e1, fun g3 => hJ _ _ ?_⟩⟩⟩
  intro J2 hJ2
  refine now_nil ⟨_, rfl, If.no ?_⟩
  refine tick_nil ⟨_, rfl, If.no ?_⟩
  refine first_nil ⟨_, rfl, If.no ?_⟩
  refine block_nil ⟨_, rfl, If.no ?_⟩
  refine vote_nil ⟨_, rfl, If.no ?_⟩
  refine ripe_nil ⟨_, rfl, If.no ?_⟩
  refine hJ2 _ _ ?_
  obtain ⟨hw0, hw1⟩ := clampW_le win
  refine new_spec fun h2 c2 e2 s2 => ⟨_, rfl, ?_⟩
  refine rnew_spec fun h3 d3 e3 s3 => ⟨_, rfl, ?_⟩
  have c3 := c2.ext e3
  have e03 := e1.trans (e2.trans e3)
  generalize hb : h1.size = b at *
  generalize hb' : h2.size = b' at *
  have l0 := e1.size
  have hne : b' ≠ b := by omega
  refine ⟨fun s hh => 0 ≤ s.2 ∧ s.2 ≤ ticks ∧ CI 58 hh b s.2 (clampW win) ∧ CI 32 hh b' s.2 (clampW win) ∧ Ext h hh, fun s _ => (ticks - s.2).toNat, ⟨by simp, by simp; omega, c3, d3, e03⟩, ?_⟩
  rintro ⟨x, k⟩ hh ⟨k0, k1, c, d, e⟩
  simp only at k0 k1 c d ⊢
  refine If.dec.2 ⟨fun hk => ?_, fun hk => ?_⟩
  · refine tick_spec c (by omega) k0 fun h4 c4 o4 s4 => ⟨_, rfl, ?_⟩
    refine rtick_spec (d.only o4 hne) (by omega) k0 fun h5 d5 o5 s5 => ⟨_, rfl, If.no ?_⟩
    rw [wrap_i64 (by omega) (by omega)]
    refine ⟨⟨by omega, by omega, c4.only o5 (Ne.symm hne), d5, ?_⟩, by omega⟩
    refine Only.cut e ((o4.mono (S' := fun i => i = b ∨ i = b') fun i hi => .inl hi).trans (o5.mono fun i hi => .inr hi)) ?_
    intro i hi
    omega
  · have ek : k = ticks := by omega
    subst ek
    have hz' := hz.ext e
    refine ⟨fun s h' => 0 ≤ s.2 ∧ s.2 ≤ slots.len ∧ h' = hh, fun s _ => ((slots.len : Int) - s.2).toNat, ⟨by simp, by simp, rfl⟩, ?_⟩
    rintro ⟨y, i⟩ h' ⟨i0, i1, rfl⟩
    simp only at i0 i1 ⊢
    refine If.dec.2 ⟨fun hi => ⟨i0, hi, ?_⟩, fun hi => ?_⟩
    · refine hz'.read i0 hi fun l _ n hn hat _ => ⟨n, hat, ?_⟩
      have hn := byte_i64 hn
      refine If.dec.2 ⟨fun _ => hr _ e, fun _ => ?_⟩
      refine block_spec c ⟨_, rfl, ?_⟩
      refine rblock_spec d ⟨_, rfl, ?_⟩
      refine If.split (fun hx => absurd hx (by cases blockB k final n <;> simp)) (fun _ => ?_)
      refine vote_spec c k0 (by omega) hw0 hw1 ⟨_, rfl, ?_⟩
      refine rvote_spec d k0 (by omega) hw0 hw1 hn.2 ⟨_, rfl, ?_⟩
      refine If.split (fun hx => absurd hx (by cases voteB k (clampW win) n <;> simp)) (fun _ => ?_)
      refine ripe_spec c ⟨_, rfl, ?_⟩
      refine rripe_spec d ⟨_, rfl, ?_⟩
      refine If.split (fun hx => absurd hx (by cases decide (n < k) <;> simp)) (fun _ => ?_)
      rw [wrap_i64 (by omega) (by omega)]
      exact ⟨⟨by omega, by omega, rfl⟩, by omega⟩
    · refine ex_int d.now ?_
      refine now_spec c ⟨_, rfl, Ext.refl _, ?_⟩
      rw [decide_eq_true rfl]
      refine If.yes ?_
      refine first_spec c k0 (by omega) hw0 hw1 ⟨_, rfl, Ext.refl _, ?_⟩
      refine rfirst_spec d k0 (by omega) hw0 hw1 ⟨_, rfl, Ext.refl _, ?_⟩
      rw [decide_eq_true rfl]
      exact hr _ e

theorem clockRipens_spec {win ticks slot : Int} (hr : ∀ h', Ext h h' → R (TV.bool true).val h') :
    CallsH Try.prog 4 (TVs.vals [.int .i64 win, .int .i64 ticks, .int .i64 slot]) h R := by
  apply tollerlaw09_ClockRipens_calls
  refine alive_spec fun h1 e1 => ⟨_, rfl, If.no ?_⟩
  intro J hJ
  refine If.dec.2 ⟨fun _ => hr _ e1, fun g1 => If.dec.2 ⟨fun _ => hr _ e1, fun g2 => hJ _ _ ?_⟩⟩
  obtain ⟨hw0, hw1⟩ := clampW_le win
  refine new_spec fun h2 c2 e2 s2 => ⟨_, rfl, ?_⟩
  have e02 := e1.trans e2
  generalize hb : h1.size = b at *
  have l0 := e1.size
  refine ⟨fun s hh => 0 ≤ s ∧ s ≤ ticks ∧ CI 58 hh b s (clampW win) ∧ Ext h hh, fun s _ => (ticks - s).toNat, ⟨by simp, by omega, c2, e02⟩, ?_⟩
  rintro k hh ⟨k0, k1, c, e⟩
  refine If.dec.2 ⟨fun hk => ?_, fun hk => ?_⟩
  · refine tick_spec c (by omega) k0 fun h4 c4 o4 s4 => ⟨_, rfl, ?_⟩
    rw [wrap_i64 (by omega) (by omega)]
    exact ⟨⟨by omega, by omega, c4, Only.cut e o4 (fun i hi => by omega)⟩, by dsimp only; omega⟩
  · have ek : k = ticks := by omega
    subst ek
    refine vote_spec c k0 (by omega) hw0 hw1 ⟨_, rfl, ?_⟩
    refine ripe_spec c ⟨_, rfl, ?_⟩
    refine tick_spec c (by omega) k0 fun h4 c4 o4 s4 => ⟨_, rfl, ?_⟩
    have e4 := Only.cut e o4 (fun i hi => by omega)
    intro J2 hJ2
    have hrest : ∀ s, J2 s h4 := fun s => by
      refine hJ2 _ _ ?_
      refine vote_spec c4 (by omega) (by omega) hw0 hw1 ⟨_, rfl, ?_⟩
      refine first_spec c4 (by omega) (by omega) hw0 hw1 ⟨_, rfl, ?_⟩
      refine If.dec.2 ⟨fun hx => ?_, fun hx => ?_⟩
      · refine now_spec c4 ⟨_, rfl, ?_⟩
        rw [wrap_i64 (by omega) (by omega)]
        have e : (voteB (k + 1) (clampW win) slot == decide (slot ≤ k + 1 + 1)) = true := by
          unfold voteB
          rw [decide_eq_true hx, Bool.true_and, beq_iff_eq]
          exact decide_eq_decide.2 (by unfold mn; omega)
        rw [e]
        exact hr _ e4
      · have e : voteB (k + 1) (clampW win) slot = false := by
          unfold voteB
          rw [decide_eq_false hx, Bool.false_and]
        rw [e]
        exact hr _ e4
    have hb1 : decide (slot < k) = true → (If true (CallsH Try.prog 19 (TVs.vals [TV.ptr (some ⟨b, 0⟩), TV.int IntKind.i64 slot]) h4 fun v h => ∃ b, v = TV.val (TV.bool b) ∧ If (!b) (R (TV.val (TV.bool false)) h) (J2 false h)) (J2 false h4)) := fun hx => by
      refine If.yes ?_
      refine ripe_spec c4 ⟨_, rfl, ?_⟩
      have hy : decide (slot < k + 1) = true := by simp at hx ⊢; omega
      rw [hy]
      exact hrest _
    refine If.split (fun hv => ?_) (fun hv => ?_)
    · refine ripe_spec c4 ⟨_, rfl, ?_⟩
      refine If.split (fun hy => ?_) (fun hy => ?_)
      · refine vote_spec c4 (by omega) (by omega) hw0 hw1 ⟨_, rfl, ?_⟩
        have e : voteB (k + 1) (clampW win) slot = true := by
          unfold voteB at hv ⊢
          simp only [Bool.and_eq_true, decide_eq_true_eq, Bool.not_eq_true', decide_eq_false_iff_not] at hv hy ⊢
          unfold mx mn at *
          omega
        rw [e]
        refine If.no ?_
        refine If.split (fun hx => ?_) (fun hx => hrest _)
        have := hb1 hx
        exact this
      · refine If.split (fun hx => ?_) (fun hx => hrest _)
        exact hb1 hx
    · refine If.split (fun hx => ?_) (fun hx => hrest _)
      exact hb1 hx

theorem clockCounts_spec {win ticks final : Int} (hr : ∀ h', Ext h h' → R (TV.bool true).val h') :
    CallsH Try.prog 5 (TVs.vals [.int .i64 win, .int .i64 ticks, .int .i64 final]) h R := by
  apply tollerlaw09_ClockCounts_calls
  refine alive_spec fun h1 e1 => ⟨_, rfl, If.no ?_⟩
  intro J hJ
  refine If.dec.2 ⟨fun _ => hr _ e1, fun g1 => If.dec.2 ⟨fun _ => hr _ e1, fun g2 => If.dec.2 ⟨fun _ => hr _ e1, fun g3 => If.dec.2 ⟨fun _ => hr _ e1, fun g4 => hJ _ _ ?_⟩⟩⟩⟩
  obtain ⟨hw0, hw1⟩ := clampW_le win
  refine new_spec fun h2 c2 e2 s2 => ⟨_, rfl, ?_⟩
  have e02 := e1.trans e2
  generalize hb : h1.size = b at *
  have l0 := e1.size
  refine ⟨fun s hh => 0 ≤ s ∧ s ≤ ticks ∧ CI 58 hh b s (clampW win) ∧ Ext h hh, fun s _ => (ticks - s).toNat, ⟨by simp, by omega, c2, e02⟩, ?_⟩
  rintro k hh ⟨k0, k1, c, e⟩
  refine If.dec.2 ⟨fun hk => ?_, fun hk => ?_⟩
  · refine tick_spec c (by omega) k0 fun h4 c4 o4 s4 => ⟨_, rfl, ?_⟩
    rw [wrap_i64 (by omega) (by omega)]
    exact ⟨⟨by omega, by omega, c4, Only.cut e o4 (fun i hi => by omega)⟩, by dsimp only; omega⟩
  · have ek : k = ticks := by omega
    subst ek
    have hwd : mn (mx win 1) 64 = clampW win := rfl
    rw [hwd]
    generalize clampW win = W at *
    -- votes below slot i: those from first to i-1 that are at most k+1; blocks: those above final that are at most k
    refine ⟨fun s h' => h' = hh ∧ 0 ≤ s.2.2 ∧ s.2.2 ≤ 701 ∧ s.1 = max 0 (min s.2.2 (k + 2) - max (k - W) 0) ∧ s.2.1 = max 0 (min s.2.2 (k + 1) - (final + 1)), fun s _ => (701 - s.2.2).toNat, ⟨rfl, by simp, by simp, by simp; omega, by simp; omega⟩, ?_⟩
    rintro ⟨x, y, i⟩ h' ⟨rfl, i0, i1, hx, hy⟩
    simp only at i0 i1 hx hy ⊢
    refine If.dec.2 ⟨fun hi => ?_, fun hi => ?_⟩
    · refine vote_spec c k0 (by omega) hw0 hw1 ⟨_, rfl, ?_⟩
      rw [wrap_i64 (n := x + 1) (by omega) (by omega), wrap_i64 (n := y + 1) (by omega) (by omega), wrap_i64 (n := i + 1) (by omega) (by omega)]
      refine If.split (fun hv => ?_) (fun hv => ?_) <;> refine block_spec c ⟨_, rfl, ?_⟩ <;> refine If.split (fun hb => ?_) (fun hb => ?_) <;>
        (simp only [voteB, blockB, Bool.and_eq_true, decide_eq_true_eq, Bool.and_eq_false_iff, decide_eq_false_iff_not, mn_eq, mx_eq] at hv hb
         exact ⟨⟨rfl, by omega, by omega, by omega, by omega⟩, by omega⟩)
    · have h1 : decide (x = IntKind.wrap .i64 (mn k W + 2)) = true := by
        rw [mn_eq, wrap_i64 (by omega) (by omega)]
        simp only [decide_eq_true_eq]
        omega
      have h2 : decide (y = mx (IntKind.wrap .i64 (k - final)) 0) = true := by
        rw [mx_eq, wrap_i64 (by omega) (by omega)]
        simp only [decide_eq_true_eq]
        omega
      rw [h1, h2]
      refine If.yes (If.yes ?_)
      refine now_spec c ⟨_, rfl, ?_⟩
      rw [decide_eq_true rfl]
      refine If.yes ?_
      refine first_spec c k0 (by omega) hw0 hw1 ⟨_, rfl, ?_⟩
      rw [wrap_i64 (by omega) (by omega), decide_eq_true rfl]
      exact hr _ e

theorem clockStays_spec {win ticks more final slot : Int} (hr : ∀ h', Ext h h' → R (TV.bool true).val h') :
    CallsH Try.prog 6 (TVs.vals [.int .i64 win, .int .i64 ticks, .int .i64 more, .int .i64 final, .int .i64 slot]) h R := by
  apply tollerlaw09_ClockStays_calls
  refine alive_spec fun h1 e1 => ⟨_, rfl, If.no ?_⟩
  intro J hJ
  refine If.dec.2 ⟨fun _ => hr _ e1, fun g1 => If.dec.2 ⟨fun _ => hr _ e1, fun g2 => If.dec.2 ⟨fun _ => hr _ e1, fun g3 => If.dec.2 ⟨fun _ => hr _ e1, fun g4 => hJ _ _ ?_⟩⟩⟩⟩
  obtain ⟨hw0, hw1⟩ := clampW_le win
  refine new_spec fun h2 c2 e2 s2 => ⟨_, rfl, ?_⟩
  have e02 := e1.trans e2
  generalize hb : h1.size = b at *
  have l0 := e1.size
  refine ⟨fun s hh => 0 ≤ s ∧ s ≤ ticks ∧ CI 58 hh b s (clampW win) ∧ Ext h hh, fun s _ => (ticks - s).toNat, ⟨by simp, by omega, c2, e02⟩, ?_⟩
  rintro k hh ⟨k0, k1, c, e⟩
  refine If.dec.2 ⟨fun hk => ?_, fun hk => ?_⟩
  · refine tick_spec c (by omega) k0 fun h4 c4 o4 s4 => ⟨_, rfl, ?_⟩
    rw [wrap_i64 (by omega) (by omega)]
    exact ⟨⟨by omega, by omega, c4, Only.cut e o4 (fun i hi => by omega)⟩, by dsimp only; omega⟩
  · have ek : k = ticks := by omega
    subst ek
    refine block_spec c ⟨_, rfl, ?_⟩
    refine ⟨fun s hh => 0 ≤ s ∧ s ≤ more ∧ CI 58 hh b (k + s) (clampW win) ∧ Ext h hh, fun s _ => (more - s).toNat, ⟨by simp, by omega, by simpa using c, e⟩, ?_⟩
    rintro j h' ⟨j0, j1, c', e'⟩
    refine If.dec.2 ⟨fun hk => ?_, fun hk => ?_⟩
    · refine tick_spec c' (by omega) (by omega) fun h4 c4 o4 s4 => ⟨_, rfl, ?_⟩
      rw [wrap_i64 (by omega) (by omega)]
      rw [Int.add_assoc] at c4
      exact ⟨⟨by omega, by omega, c4, Only.cut e' o4 (fun i hi => by omega)⟩, by dsimp only; omega⟩
    · have hself : blockB (k + j) slot slot = false := by simp [blockB]
      have hd : CallsH Try.prog 17 (TVs.vals [TV.ptr (some ⟨b, 0⟩), TV.int IntKind.i64 slot, TV.int IntKind.i64 slot]) h' fun v h => ∃ b, v = TV.val (TV.bool b) ∧ R (TV.val (TV.bool !b)) h := by
        refine block_spec c' ⟨_, rfl, ?_⟩
        rw [hself]
        exact hr _ e'
      refine If.split (fun hx => hd) (fun hx => ?_)
      refine block_spec c' ⟨_, rfl, ?_⟩
      have : blockB (k + j) final slot = true := by
        simp only [blockB, Bool.not_eq_false', Bool.and_eq_true, decide_eq_true_eq] at hx ⊢
        omega
      rw [this]
      exact If.yes hd

end
end Go.Proofs.Ytahoibjgojlpeaa.Clock
