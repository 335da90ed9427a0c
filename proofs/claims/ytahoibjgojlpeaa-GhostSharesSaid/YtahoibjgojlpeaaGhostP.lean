/- Plain laws of the head, continued: a block more behind it; and that the document's test of a chain ends, of all chains. -/
import Derived.Test.YtahoibjgojlpeaaGhostO
import Derived.Test.YtahoibjgojlpeaaVcS2
namespace Go.Proofs.Ytahoibjgojlpeaa.Ghost
open Go Go.Vc

section
variable {bl : List (Rt × Rt)} {sh : List (Rt × Int)} {par : Nat → Nat}

def parMore (bl : List (Rt × Rt)) (par : Nat → Nat) (H : Nat) (i : Nat) : Nat := if i = bl.length then H else par i

theorem root_left {x : Rt × Rt} {i : Nat} (hi : i < bl.length) : rootAt (bl ++ [x]) i = rootAt bl i := by
  unfold rootAt
  rw [List.getElem?_append_left hi]
theorem par_left {x : Rt × Rt} {i : Nat} (hi : i < bl.length) : parAt (bl ++ [x]) i = parAt bl i := by
  unfold parAt
  rw [List.getElem?_append_left hi]
theorem root_last {x : Rt × Rt} : rootAt (bl ++ [x]) bl.length = x.1.l := rootAt_of (by simp)
theorem par_last {x : Rt × Rt} : parAt (bl ++ [x]) bl.length = x.2.l := parAt_of (by simp)

theorem kid_left {x : Rt × Rt} {k i : Nat} (hk : k < bl.length) (hi : i < bl.length) : kid (bl ++ [x]) k i = kid bl k i := by
  unfold kid
  rw [root_left hk, par_left hi]

theorem tree_more (t : Tree bl par) {H : Nat} (hH : H < bl.length) {r p : Rt} (hr : ∀ i, i < bl.length → r.l ≠ rootAt bl i) (hp : p.l = rootAt bl H) : Tree (bl ++ [(r, p)]) (parMore bl par H) := by
  have hl : (bl ++ [(r, p)]).length = bl.length + 1 := by simp
  refine ⟨fun i h0 hi => ?_, fun k i hk hi => ?_, fun i j hi hj h => ?_⟩
  · unfold parMore
    split
    · omega
    · exact t.lt i h0 (by omega)
  · rw [hl] at hk hi
    unfold parMore
    by_cases ei : i = bl.length
    · subst ei
      rw [if_pos rfl]
      by_cases ek : k = bl.length
      · subst ek
        simp only [kid, Nat.lt_irrefl, decide_false, Bool.false_and]
        constructor
        · intro h; cases h
        · rintro ⟨_, h⟩; omega
      · simp only [kid, par_last, root_left (show k < bl.length by omega), Bool.and_eq_true, decide_eq_true_eq, hp]
        constructor
        · rintro ⟨_, h⟩
          exact ⟨by omega, t.one _ _ hH (by omega) h⟩
        · rintro ⟨_, h⟩
          exact ⟨by omega, by rw [h]⟩
    · rw [if_neg ei]
      by_cases ek : k = bl.length
      · subst ek
        constructor
        · intro h
          simp only [kid, Bool.and_eq_true, decide_eq_true_eq] at h
          omega
        · rintro ⟨h0, h⟩
          have := t.lt i h0 (by omega)
          omega
      · rw [kid_left (by omega) (by omega)]
        exact t.kid k i (by omega) (by omega)
  · rw [hl] at hi hj
    by_cases ei : i = bl.length <;> by_cases ej : j = bl.length
    · omega
    · subst ei
      rw [root_last, root_left (by omega)] at h
      exact absurd h (hr j (by omega))
    · subst ej
      rw [root_last, root_left (by omega)] at h
      exact absurd h.symm (hr i (by omega))
    · rw [root_left (by omega), root_left (by omega)] at h
      exact t.one i j (by omega) (by omega) h

/-- What a block more behind H weighs counts as a share more at H. -/
theorem weight_block (t : Tree bl par) {H : Nat} (hH : H < bl.length) {r p : Rt} (hr : ∀ i, i < bl.length → r.l ≠ rootAt bl i) (hp : p.l = rootAt bl H) : ∀ (n i : Nat), bl.length - i ≤ n → i < bl.length →
    weightOf (bl ++ [(r, p)]) sh i = weightOf bl (sh ++ [(p, own sh r.l)]) i
  | 0, i, h, hi => by omega
  | n + 1, i, h, hi => by
    have t' := tree_more t hH hr hp
    have hl : (bl ++ [(r, p)]).length = bl.length + 1 := by simp
    rw [weight_sum t' (by omega), weight_sum t hi, hl, S_succ]
    have hlast : weightOf (bl ++ [(r, p)]) sh bl.length = own sh r.l := by
      rw [weight_sum t' (by omega), S_zero]
      · unfold ownAt
        rw [root_last]
        exact Int.add_zero _
      · intro j hj
        rw [if_neg]
        rintro ⟨h0, h1⟩
        have := t'.lt j h0 hj
        omega
    have hS : ∀ j, j < bl.length → (if 0 < j ∧ parMore bl par H j = i then weightOf (bl ++ [(r, p)]) sh j else 0) = if 0 < j ∧ par j = i then weightOf bl (sh ++ [(p, own sh r.l)]) j else 0 := fun j hj => by
      have e : parMore bl par H j = par j := if_neg (by omega)
      rw [e]
      by_cases hc : 0 < j ∧ par j = i
      · have := t.lt j hc.1 hj
        rw [if_pos hc, if_pos hc, weight_block t hH hr hp n j (by omega) hj]
      · rw [if_neg hc, if_neg hc]
    rw [S_congr _ hS, hlast]
    have hown : ownAt bl (sh ++ [(p, own sh r.l)]) i = ownAt bl sh i + if i = H then own sh r.l else 0 := by
      unfold ownAt
      rw [own_append]
      congr 1
      unfold own
      simp only [List.map_cons, List.map_nil, List.sum_cons, List.sum_nil, Int.add_zero, hp]
      by_cases e : i = H
      · rw [if_pos e, if_pos (by rw [e])]
      · rw [if_neg e, if_neg (fun hx => e (t.one _ _ hi hH hx.symm))]
    have ho : ownAt (bl ++ [(r, p)]) sh i = ownAt bl sh i := by
      unfold ownAt
      rw [root_left hi]
    rw [hown, ho]
    have e : parMore bl par H bl.length = H := if_pos rfl
    rw [e]
    by_cases hc : i = H
    · rw [if_pos hc, if_pos ⟨by omega, hc.symm⟩]
      omega
    · rw [if_neg hc, if_neg (fun hx => hc hx.2.symm)]
      omega

theorem kids_left {x : Rt × Rt} {k : Nat} (hk : k < bl.length) : kidsOf (bl ++ [x]) k = kidsOf bl k ++ if kid (bl ++ [x]) k bl.length then [bl.length] else [] := by
  have hl : (bl ++ [x]).length = bl.length + 1 := by simp
  unfold kidsOf
  rw [hl, kidsTo_succ]
  congr 1
  unfold kidsTo
  refine List.filter_congr fun i hi => ?_
  exact kid_left hk (List.mem_range.1 hi)

theorem own_le (h : ∀ x ∈ sh, 0 ≤ x.2) (r : List UInt8) : own sh r ≤ (sh.map fun x => x.2).sum := by
  induction sh with
  | nil => simp [own]
  | cons x xs ih =>
    have h1 := ih (fun y hy => h y (List.mem_cons_of_mem _ hy))
    have h2 := h x (List.mem_cons_self ..)
    unfold own at h1 ⊢
    simp only [List.map_cons, List.sum_cons]
    split <;> omega

theorem wgt_eq {bl' : List (Rt × Rt)} {sh' : List (Rt × Int)} {i : Nat} (h : weightOf bl sh i = weightOf bl' sh' i) : wgt bl sh i = wgt bl' sh' i := by
  unfold wgt
  rw [h]

theorem best_congr {bl' : List (Rt × Rt)} {sh' : List (Rt × Int)} {k : Nat} (hk : kidsOf bl k = kidsOf bl' k) (h : ∀ i ∈ kidsOf bl k, wgt bl sh i = wgt bl' sh' i ∧ rootAt bl i = rootAt bl' i) : bestOf bl sh k = bestOf bl' sh' k := by
  unfold bestOf
  rw [← hk]
  have key : ∀ (l : List Nat) (a : Int × Int), (∀ i ∈ l, wgt bl sh i = wgt bl' sh' i ∧ rootAt bl i = rootAt bl' i) → (0 ≤ a.1 → rootAt bl a.1.toNat = rootAt bl' a.1.toNat) → l.foldl (bestStep bl sh) a = l.foldl (bestStep bl' sh') a := by
    intro l
    induction l with
    | nil => intro a _ _; rfl
    | cons i l ih =>
      intro a h ha
      obtain ⟨h1, h2⟩ := h i (List.mem_cons_self ..)
      have e : bestStep bl sh a i = bestStep bl' sh' a i := by
        unfold bestStep
        rw [h1, h2]
        by_cases h0 : a.1 < 0
        · rw [if_pos (.inl h0), if_pos (.inl h0)]
        · rw [ha (by omega)]
      simp only [List.foldl_cons, e]
      refine ih _ (fun j hj => h j (List.mem_cons_of_mem _ hj)) ?_
      unfold bestStep
      split
      · intro _; simpa using h2
      · exact ha
  rw [key _ _ h (fun h => absurd h (by decide))]

theorem leaf_head (t : Tree bl par) (hpos : 0 < bl.length) {r p : Rt} (hr : ∀ i, i < bl.length → r.l ≠ rootAt bl i) (hp : p.l = rootAt bl (headOf bl sh)) (hn : ∀ x ∈ sh, 0 ≤ x.2) (hs : (sh.map fun x => x.2).sum < 4611686018427387904)
    (hw : ∀ i, i < bl.length → 0 ≤ weightOf bl sh i ∧ weightOf bl sh i < 4611686018427387904) : rootAt (bl ++ [(r, p)]) (headOf (bl ++ [(r, p)]) sh) = r.l := by
  have hl : (bl ++ [(r, p)]).length = bl.length + 1 := by simp
  have hH := headOf_lt (sh := sh) hpos
  have t' := tree_more t hH hr hp
  have hv := own_nonneg hn r.l
  have hv1 := own_le hn r.l
  have hend := headOf_end (sh := sh) hpos
  have hwb : ∀ i, i < bl.length → wgt (bl ++ [(r, p)]) sh i = wgt bl (sh ++ [(p, own sh r.l)]) i := fun i hi => wgt_eq (weight_block t hH hr hp _ i (Nat.le_refl _) hi)
  have hsame := same_head (sh := sh) t (bl' := bl ++ [(r, p)]) (sh' := sh) (by omega) hpos fun q hq _ hb hn' => ?_
  · -- the head's only child is the new one
    have hkid : kid (bl ++ [(r, p)]) (headOf bl sh) bl.length = true := (t'.kid _ _ (by omega) (by omega)).2 ⟨by omega, if_pos rfl⟩
    have hk : kidsOf (bl ++ [(r, p)]) (headOf bl sh) = [bl.length] := by
      rw [kids_left hH, hkid, if_pos rfl]
      have : kidsOf bl (headOf bl sh) = [] := by
        rcases best_char (sh := sh) t (headOf bl sh) with ⟨h1, _⟩ | ⟨b, _, h2, _⟩
        · exact h1
        · omega
      rw [this]
      rfl
    have hb1 : bestOf (bl ++ [(r, p)]) sh (headOf bl sh) = (bl.length : Int) := best_eq t' (by rw [hk]; simp) (fun i hi => by rw [hk] at hi; exact .inl (List.mem_singleton.1 hi))
    rw [headFrom_step (by omega) (by omega), hb1, Int.toNat_natCast] at hsame
    have hb2 : bestOf (bl ++ [(r, p)]) sh bl.length < 0 := by
      rcases bestOf_in (bl := bl ++ [(r, p)]) (sh := sh) bl.length with h1 | ⟨i, hi, _⟩
      · omega
      · have := mem_kids hi
        omega
    rw [headFrom_end (by omega) hb2] at hsame
    rw [hsame, root_last]
  · have hqH : q ≠ headOf bl sh := by rintro rfl; exact hb hend
    have hkid : kid (bl ++ [(r, p)]) q bl.length = false := by
      cases hc : kid (bl ++ [(r, p)]) q bl.length with
      | false => rfl
      | true =>
        have := ((t'.kid q bl.length (by omega) (by omega)).1 hc).2
        unfold parMore at this
        rw [if_pos rfl] at this
        exact absurd this.symm hqH
    have hk : kidsOf (bl ++ [(r, p)]) q = kidsOf bl q := by
      rw [kids_left hq, hkid]
      simp
    rw [best_congr (bl' := bl) (sh' := sh ++ [(p, own sh r.l)]) hk fun i hi => ?_]
    · exact more_best t hH hp .here hv (by omega) hw hq hb hn'
    · rw [hk] at hi
      have := (mem_kids hi).2.1
      exact ⟨hwb i this, root_left this⟩

end

section
variable {R : Value → Heap → Prop} {h : Heap}

/-- The document's test of a chain ends. -/
theorem Good_any {A P T K : Sl} {d : Doc} (hpr : d.roots.length ≤ d.pars.length) (c : RCh h A P T K d) (hr : ∀ h' b, Ext h h' → R (TV.bool b).val h') :
    CallsH Try.prog 30 (TVs.vals [.agg [.slice A, .slice P, .slice T, .slice K]]) h R := by
  apply tollerref20_Chain_Good_calls
  unfold tollerref20_Chain_Good_vc
  obtain ⟨h1, e1, v1, x1, s1⟩ := newTV_spec h (.agg [.slice A, .slice P, .slice T, .slice K]) 41
  rw [e1]
  have c1 := c.ext x1
  have lA := names_len c.a
  have lP := names_len c.p
  have lT := names_len c.t
  have lK := ints_len c.k
  have fr := c.few
  have fk := c.fewk
  refine ⟨A, v1.at1 rfl, ?_⟩
  refine ⟨fun s hh => 0 ≤ s.2 ∧ s.2 ≤ d.roots.length ∧ Ext h1 hh, fun s _ => ((d.roots.length : Int) - s.2).toNat, ⟨by simp, by simp, Ext.refl _⟩, ?_⟩
  rintro ⟨u, i⟩ hh ⟨i0, i1, x⟩
  simp only at i0 i1 ⊢
  have cc := c1.ext x
  have vv := v1.ext x
  refine If.dec.2 ⟨fun hi => ?_, fun hi => ?_⟩
  · refine names_at cc.a i0 (by omega) fun l y hy hat => ⟨y, hat, ?_⟩
    obtain ⟨w2, h2, e2, v2, x2, s2⟩ := newput_spec hh (.bytes 32 (Bs.zero 32)) (.bytes 32 y) 37 rfl
    refine ⟨w2, ?_⟩
    rw [e2]
    have v3 := vv.ext x2
    have c3 := cc.ext x2
    refine ⟨A, P, T, K, ⟨v3.at1 rfl, v3.at1 rfl, v3.at1 rfl, v3.at1 rfl⟩, y, v2.bytes, ?_⟩
    refine Place_spec c3 fun h4 x4 => ⟨_, rfl, x4, ?_⟩
    have x14 := (x.trans x2).trans x4
    refine If.split (fun _ => hr _ _ (x1.trans x14)) (fun _ => ?_)
    have hnext : ∀ h', Ext h1 h' → (0 ≤ i + 1 ∧ i + 1 ≤ (d.roots.length : Int) ∧ Ext h1 h') ∧ (((d.roots.length : Int) - (i + 1)).toNat < ((d.roots.length : Int) - i).toNat) := fun h' hx => ⟨⟨by omega, by omega, hx⟩, by omega⟩
    rw [wrap_i64 (n := i + 1) (by omega) (by omega)]
    refine If.dec.2 ⟨fun hpos => ?_, fun hz => hnext _ x14⟩
    have v4 := v3.ext x4
    have c4 := c3.ext x4
    refine ⟨A, P, T, K, ⟨v4.at1 rfl, v4.at1 rfl, v4.at1 rfl, v4.at1 rfl⟩, P, v4.at1 rfl, ?_⟩
    refine names_at c4.p i0 (by omega) fun l2 p hp hat2 => ⟨p, hat2, ?_⟩
    refine Place_spec c4 fun h5 x5 => ⟨_, rfl, ?_⟩
    have v5 := v4.ext x5
    have c5 := c4.ext x5
    refine If.split (fun _ => hr _ _ (x1.trans (x14.trans x5))) (fun _ => ?_)
    refine ⟨A, P, T, K, ⟨v5.at1 rfl, v5.at1 rfl, v5.at1 rfl, v5.at1 rfl⟩, P, v5.at1 rfl, ?_⟩
    refine names_at c5.p i0 (by omega) fun l3 p3 hp3 hat3 => ⟨p3, hat3, ?_⟩
    refine Place_spec c5 fun h6 x6 => ⟨_, rfl, x6, ?_⟩
    refine If.split (fun _ => hr _ _ (x1.trans ((x14.trans x5).trans x6))) (fun _ => hnext _ ((x14.trans x5).trans x6))
  · refine ⟨K, vv.at1 rfl, ?_⟩
    refine ⟨fun s h' => h' = hh ∧ 0 ≤ s.2.2 ∧ s.2.2 ≤ d.sts.length, fun s _ => ((d.sts.length : Int) - s.2.2).toNat, ⟨rfl, by simp, by simp⟩, ?_⟩
    rintro ⟨u2, n, j⟩ h' ⟨rfl, j0, j1⟩
    simp only at j0 j1 ⊢
    refine If.dec.2 ⟨fun hj => ?_, fun hj => ?_⟩
    · refine ints_at cc.k j0 (by omega) fun l y hy hat => ⟨y, hat, ?_⟩
      refine If.split (fun _ => hr _ _ (x1.trans x)) (fun _ => ?_)
      rw [wrap_i64 (n := j + 1) (by omega) (by omega)]
      refine If.split (fun _ => hr _ _ (x1.trans x)) (fun _ => ⟨⟨by trivial, by omega, by omega⟩, by omega⟩)
    · refine ⟨P, vv.at1 rfl, A, vv.at1 rfl, ?_⟩
      refine If.split (fun _ => ?_) (fun _ => hr _ _ (x1.trans x))
      exact ⟨K, vv.at1 rfl, T, vv.at1 rfl, hr _ _ (x1.trans x)⟩

end
end Go.Proofs.Ytahoibjgojlpeaa.Ghost
