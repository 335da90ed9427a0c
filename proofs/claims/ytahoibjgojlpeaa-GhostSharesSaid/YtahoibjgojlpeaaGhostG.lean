/- Without shares the head is reached by the greatest names. -/
import Derived.Test.YtahoibjgojlpeaaGhostF
import Derived.Test.YtahoibjgojlpeaaVsGhostT
namespace Go.Proofs.Ytahoibjgojlpeaa.Ghost
open Go Go.Vc

def tieStep (bl : List (Rt × Rt)) (a : Int) (i : Nat) : Int := if a < 0 ∨ Op.bytesLess (rootAt bl a.toNat) (rootAt bl i) = true then (i : Int) else a

theorem wt_none {bl : List (Rt × Rt)} : ∀ (f k : Nat), wt bl [] f k = 0
  | 0, _ => rfl
  | f + 1, k => by
    simp only [wt, own, List.map_nil, List.sum_nil, Int.zero_add]
    have : (kidsOf bl k).map (wt bl [] f) = (kidsOf bl k).map (fun _ => (0 : Int)) := List.map_congr_left fun i _ => wt_none f i
    rw [this]
    induction kidsOf bl k with
    | nil => rfl
    | cons x xs ih => simpa using ih

theorem wgt_none {bl : List (Rt × Rt)} (k : Nat) : wgt bl [] k = 0 := by
  unfold wgt weightOf
  rw [wt_none]
  rfl

theorem tie_fold {bl : List (Rt × Rt)} : ∀ (l : List Nat) (a : Int), l.foldl (bestStep bl []) (a, 0) = (l.foldl (tieStep bl) a, 0)
  | [], _ => rfl
  | i :: l, a => by
    have : bestStep bl [] (a, 0) i = (tieStep bl a i, 0) := by
      unfold bestStep tieStep
      rw [wgt_none]
      simp only [Int.lt_irrefl, false_or, true_and]
      split <;> rfl
    simp only [List.foldl_cons, this, tie_fold l]

theorem tie_best {bl : List (Rt × Rt)} (k : Nat) : bestOf bl [] k = (kidsOf bl k).foldl (tieStep bl) (-1) := by
  unfold bestOf
  rw [tie_fold]

theorem tie_in {bl : List (Rt × Rt)} {l : List Nat} (n : Nat) (h : ∀ i ∈ l, i < n) : ∀ a : Int, a < n → -1 ≤ a → l.foldl (tieStep bl) a < n ∧ -1 ≤ l.foldl (tieStep bl) a := by
  induction l with
  | nil => intro a h1 h2; exact ⟨h1, h2⟩
  | cons i l ih =>
    intro a h1 h2
    have hi := h i (List.mem_cons_self ..)
    refine ih (fun j hj => h j (List.mem_cons_of_mem _ hj)) _ ?_ ?_ <;> (unfold tieStep; split <;> omega)

theorem Ints.none (h : Heap) : Ints .i64 h Sl.nil [] := ⟨rfl, fun _ => rfl, (fun l hl => by cases hl), (fun n hn => by cases hn), (fun l hl => by cases hl)⟩

section
variable {R : Value → Heap → Prop} {h : Heap}

theorem bl_at {d : Doc} {i : Nat} {r p : Rt} (hr : d.roots[i]? = some r) (hp : d.pars[i]? = some p) : d.bl[i]? = some (r, p) := by
  unfold Doc.bl
  rw [List.getElem?_zip_eq_some]
  exact ⟨hr, hp⟩

theorem plain_lens (ps ts ks : List Int) : (plainDoc ps ts ks).roots.length = ps.length + 1 ∧ (plainDoc ps ts ks).pars.length = ps.length + 1 ∧ (plainDoc ps ts ks).tgs.length = ts.length ∧ (plainDoc ps ts ks).bl.length = ps.length + 1 := by
  simp [plainDoc, Doc.bl]

theorem ghostTies_spec {sp : Sl} {ps : List Int} (hp : Ints .i64 h sp ps) (hr : ∀ h', Ext h h' → R (TV.bool true).val h') : CallsH Try.prog 12 (TVs.vals [.slice sp]) h R := by
  apply tollerlaw20_GhostTies_calls
  refine alive_spec fun h1 x1 => ⟨_, rfl, If.no ?_⟩
  have lp := hp.len
  refine If.dec.2 ⟨fun _ => hr _ x1, fun hlen => ?_⟩
  refine plain_spec (ts := []) (ks := []) (hp.ext x1) (Ints.none _) (Ints.none _) (by omega) (by decide) (by decide) fun h2 A P T c x2 => ⟨A, P, T, Sl.nil, rfl, ?_⟩
  obtain ⟨w3, h3, e3, v3, x3, s3⟩ := newput_spec h2 (.agg [.slice Sl.nil, .slice Sl.nil, .slice Sl.nil, .slice Sl.nil]) (.agg [.slice A, .slice P, .slice T, .slice Sl.nil]) 41 rfl
  refine ⟨w3, ?_⟩
  rw [e3]
  have c3 := c.ext x3
  have xx := (x1.trans x2).trans x3
  obtain ⟨l1, l2, _, l4⟩ := plain_lens ps [] []
  have hsh : (plainDoc ps [] []).sh = [] := rfl
  generalize hd : plainDoc ps [] [] = d at *
  have lA := names_len c3.a
  have lP := names_len c3.p
  refine ⟨fun s hh => 0 ≤ s.2 ∧ s.2 ≤ s.1 ∧ s.1 < ps.length + 1 ∧ headFrom d.bl [] d.bl.length s.1.toNat = headOf d.bl [] ∧ Ext h3 hh, fun s _ => ((50 : Int) - s.2).toNat, ⟨by simp, by simp, by simp, rfl, Ext.refl _⟩, ?_⟩
  rintro ⟨k, n⟩ hh ⟨n0, n1, k1, hk, x⟩
  simp only at n0 n1 k1 hk ⊢
  have cc := c3.ext x
  refine If.dec.2 ⟨fun hn => ?_, fun hn => by omega⟩
  rw [wrap_i64 (n := k + 1) (by omega) (by omega)]
  refine ⟨fun s h' => k + 1 ≤ s.2 ∧ s.2 ≤ ps.length + 1 ∧ s.1 = (kidsTo d.bl k.toNat s.2.toNat).foldl (tieStep d.bl) (-1) ∧ Ext h3 h', fun s _ => ((ps.length + 1 : Int) - s.2).toNat, ⟨by simp, by simp; omega, ?_, x⟩, ?_⟩
  · have : (k + 1).toNat = k.toNat + 1 := by omega
    simp only [this, kidsTo_le]
    rfl
  rintro ⟨b, i⟩ h4 ⟨i0, i1, hb, x4⟩
  simp only at i0 i1 hb ⊢
  have c4 := c3.ext x4
  have v4 := v3.ext x4
  have hbr := tie_in (bl := d.bl) (l := kidsTo d.bl k.toNat i.toNat) (ps.length + 1) (fun j hj => by
    have := List.mem_range.1 (List.mem_filter.1 hj).1; omega) (-1) (by omega) (by omega)
  rw [← hb] at hbr
  refine ⟨A, v4.at1 rfl, ?_⟩
  refine If.dec.2 ⟨fun hi => ?_, fun hi => ?_⟩
  · refine ⟨P, v4.at1 rfl, ?_⟩
    refine names_at c4.p (i := i) (by omega) (by omega) fun l p hp' hat => ⟨p, hat, A, v4.at1 rfl, ?_⟩
    refine names_at c4.a (i := k) (by omega) (by omega) fun l' r hr' hat' => ⟨r, hat', ?_⟩
    obtain ⟨ri, hri⟩ : ∃ ri, d.roots[i.toNat]? = some ri := ⟨_, List.getElem?_eq_getElem (by omega)⟩
    obtain ⟨pk, hpk⟩ : ∃ pk, d.pars[k.toNat]? = some pk := ⟨_, List.getElem?_eq_getElem (by omega)⟩
    have hbi := bl_at hri hp'
    have hbk := bl_at hr' hpk
    have hi' : (i + 1).toNat = i.toNat + 1 := by omega
    rw [wrap_i64 (n := i + 1) (by omega) (by omega)]
    refine If.dec.2 ⟨fun he => ?_, fun he => ?_⟩
    · have hkid : kid d.bl k.toNat i.toNat = true := by
        simp only [kid, parAt_of hbi, rootAt_of hbk, Bool.and_eq_true, decide_eq_true_eq]
        exact ⟨by omega, he⟩
      have hnext : (kidsTo d.bl k.toNat (i + 1).toNat).foldl (tieStep d.bl) (-1) = tieStep d.bl b i.toNat := by
        rw [hi', kidsTo_succ, hkid, List.foldl_append, ← hb]
        rfl
      refine If.dec.2 ⟨fun h0 => ⟨⟨by omega, by omega, ?_, x4⟩, by omega⟩, fun h0 => ?_⟩
      · rw [hnext]
        unfold tieStep
        rw [if_pos (.inl h0)]
        omega
      · refine ⟨A, v4.at1 rfl, ?_⟩
        refine names_at c4.a (i := b) (by omega) (by omega) fun l1 rb hrb hat1 => ⟨rb, hat1, A, v4.at1 rfl, ?_⟩
        refine names_at c4.a (i := i) (by omega) (by omega) fun l2 ri2 hri2 hat2 => ⟨ri2, hat2, ?_⟩
        obtain rfl : ri = ri2 := by rw [hri] at hri2; exact Option.some.inj hri2
        obtain ⟨pb, hpb⟩ : ∃ pb, d.pars[b.toNat]? = some pb := ⟨_, List.getElem?_eq_getElem (by omega)⟩
        have hbb := bl_at hrb hpb
        refine Less_spec fun h5 x5 => ⟨_, rfl, ?_⟩
        refine If.split (fun hl => ⟨⟨by omega, by omega, ?_, x4.trans x5⟩, by omega⟩) (fun hl => ⟨⟨by omega, by omega, ?_, x4.trans x5⟩, by omega⟩)
        · rw [hnext]
          unfold tieStep
          rw [if_pos (.inr (by rw [rootAt_of hbb, rootAt_of hbi]; exact hl))]
          omega
        · rw [hnext]
          unfold tieStep
          rw [if_neg]
          rintro (a | a)
          · exact h0 a
          · rw [rootAt_of hbb, rootAt_of hbi, hl] at a; cases a
    · have hkid : kid d.bl k.toNat i.toNat = false := by
        simp only [kid, parAt_of hbi, rootAt_of hbk, Bool.and_eq_false_iff, decide_eq_false_iff_not]
        exact .inr he
      refine ⟨⟨by omega, by omega, ?_, x4⟩, by omega⟩
      rw [hi', kidsTo_succ, hkid]
      simpa using hb
  · have hie : i.toNat = d.bl.length := by omega
    rw [hie] at hb
    have hbest : b = bestOf d.bl [] k.toNat := by rw [tie_best]; exact hb
    refine If.dec.2 ⟨fun h0 => ?_, fun h0 => ?_⟩
    · rw [hbest] at h0
      rw [headFrom_end (by omega) h0] at hk
      refine ⟨A, P, T, Sl.nil, ⟨v4.at1 rfl, v4.at1 rfl, v4.at1 rfl, v4.at1 rfl⟩, A, v4.at1 rfl, ?_⟩
      refine names_at c4.a (i := k) (by omega) (by omega) fun l' r hr' hat' => ⟨r, hat', ?_⟩
      obtain ⟨pk, hpk⟩ : ∃ pk, d.pars[k.toNat]? = some pk := ⟨_, List.getElem?_eq_getElem (by omega)⟩
      refine chain_spec c4 (by omega) (by rw [← hd]; exact Nat.le_refl _) fun h5 B S c5 x5 => ⟨B, S, rfl, x5, ?_⟩
      rw [hsh] at c5
      refine Head_spec c5 fun h6 r6 x6 _ hroot => ⟨r6, rfl, x6, ?_⟩
      have h9 := hroot (by intro hn; rw [hn] at l4; simp at l4)
      rw [← hk, rootAt_of (bl_at hr' hpk)] at h9
      have h10 : decide (r6.1 = r.1) = true := by rw [decide_eq_true_eq]; exact h9
      rw [h10]
      exact hr _ (((xx.trans x4).trans x5).trans x6)
    · rw [hbest] at h0
      have hg := bestOf_gt h0
      rw [headFrom_step (by omega) h0] at hk
      rw [wrap_i64 (n := n + 1) (by omega) (by omega), hbest]
      exact ⟨⟨by omega, by omega, by omega, hk, x4⟩, by omega⟩

end
end Go.Proofs.Ytahoibjgojlpeaa.Ghost
