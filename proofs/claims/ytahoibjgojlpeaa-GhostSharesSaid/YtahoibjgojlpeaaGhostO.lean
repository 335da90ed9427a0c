/- Plain laws of the head: who is best; what stays so with a share, or a block, more. -/
import Derived.Test.YtahoibjgojlpeaaGhostK
namespace Go.Proofs.Ytahoibjgojlpeaa.Ghost
open Go Go.Vc

theorem less_irrefl : ∀ a : List UInt8, Op.bytesLess a a = false
  | [] => rfl
  | x :: xs => by simp [Op.bytesLess, less_irrefl xs, UInt8.lt_irrefl]

theorem less_asymm : ∀ a b : List UInt8, Op.bytesLess a b = true → Op.bytesLess b a = false
  | [], [], h => by cases h
  | [], y :: ys, _ => rfl
  | x :: xs, [], h => by cases h
  | x :: xs, y :: ys, h => by
    simp only [Op.bytesLess, Bool.or_eq_true, Bool.and_eq_true, decide_eq_true_eq, beq_iff_eq] at h
    simp only [Op.bytesLess, Bool.or_eq_false_iff, Bool.and_eq_false_iff, decide_eq_false_iff_not, beq_eq_false_iff_ne]
    rw [UInt8.lt_iff_toNat_lt] at h
    rw [UInt8.lt_iff_toNat_lt]
    rcases h with h | ⟨h, h1⟩
    · refine ⟨by omega, .inl ?_⟩
      rintro rfl
      omega
    · subst h
      exact ⟨by omega, .inr (less_asymm xs ys h1)⟩

theorem less_trans : ∀ a b c : List UInt8, Op.bytesLess a b = true → Op.bytesLess b c = true → Op.bytesLess a c = true
  | [], [], _, h, _ => by cases h
  | _ :: _, [], _, h, _ => by cases h
  | _, _ :: _, [], _, k => by cases k
  | [], _ :: _, _ :: _, _, _ => rfl
  | x :: xs, y :: ys, z :: zs, h, k => by
    simp only [Op.bytesLess, Bool.or_eq_true, Bool.and_eq_true, decide_eq_true_eq, beq_iff_eq] at h k ⊢
    rw [UInt8.lt_iff_toNat_lt] at h k ⊢
    rcases h with h | ⟨h, h1⟩
    · rcases k with k | ⟨k, k1⟩
      · left; omega
      · left; rw [← k]; exact h
    · rcases k with k | ⟨k, k1⟩
      · left; rw [h]; exact k
      · right; exact ⟨h.trans k, less_trans xs ys zs h1 k1⟩

theorem less_total : ∀ a b : List UInt8, a ≠ b → Op.bytesLess a b = true ∨ Op.bytesLess b a = true
  | [], [], h => absurd rfl h
  | [], y :: ys, _ => .inl rfl
  | x :: xs, [], _ => .inr rfl
  | x :: xs, y :: ys, h => by
    simp only [Op.bytesLess, Bool.or_eq_true, Bool.and_eq_true, decide_eq_true_eq, beq_iff_eq]
    rw [UInt8.lt_iff_toNat_lt, UInt8.lt_iff_toNat_lt]
    by_cases e : x = y
    · subst e
      rcases less_total xs ys (fun hx => h (by rw [hx])) with h1 | h1
      · exact .inl (.inr ⟨rfl, h1⟩)
      · exact .inr (.inr ⟨rfl, h1⟩)
    · have : x.toNat ≠ y.toNat := fun hx => e (UInt8.toNat_inj.1 hx)
      rcases Nat.lt_or_ge x.toNat y.toNat with h1 | h1
      · exact .inl (.inl h1)
      · exact .inr (.inl (by omega))

section
variable {bl : List (Rt × Rt)} {sh : List (Rt × Int)} {par : Nat → Nat}

def Beats (bl : List (Rt × Rt)) (sh : List (Rt × Int)) (b i : Nat) : Prop := wgt bl sh i < wgt bl sh b ∨ (wgt bl sh i = wgt bl sh b ∧ Op.bytesLess (rootAt bl i) (rootAt bl b) = true)

theorem Beats.trans {a b c : Nat} (h : Beats bl sh a b) (k : Beats bl sh b c) : Beats bl sh a c := by
  unfold Beats at *
  rcases h with h | ⟨h, h1⟩ <;> rcases k with k | ⟨k, k1⟩
  · left; omega
  · left; omega
  · left; omega
  · exact .inr ⟨by omega, less_trans _ _ _ k1 h1⟩

theorem Beats.asymm {a b : Nat} (h : Beats bl sh a b) (k : Beats bl sh b a) : False := by
  unfold Beats at *
  rcases h with h | ⟨h, h1⟩ <;> rcases k with k | ⟨k, k1⟩
  · omega
  · omega
  · omega
  · rw [less_asymm _ _ h1] at k1; cases k1

theorem best_fold (t : Tree bl par) : ∀ (l : List Nat) (b : Nat), b < bl.length → (∀ i ∈ l, i < bl.length) →
    ∃ b' : Nat, l.foldl (bestStep bl sh) ((b : Int), wgt bl sh b) = ((b' : Int), wgt bl sh b') ∧ (b' = b ∨ b' ∈ l ∧ Beats bl sh b' b) ∧ ∀ i ∈ l, i = b' ∨ Beats bl sh b' i
  | [], b, _, _ => ⟨b, rfl, .inl rfl, fun i hi => by cases hi⟩
  | i :: l, b, hb, hl => by
    have hi := hl i (List.mem_cons_self ..)
    have hl' : ∀ j ∈ l, j < bl.length := fun j hj => hl j (List.mem_cons_of_mem _ hj)
    simp only [List.foldl_cons]
    by_cases hc : wgt bl sh b < wgt bl sh i ∨ (wgt bl sh i = wgt bl sh b ∧ Op.bytesLess (rootAt bl b) (rootAt bl i) = true)
    · have e : bestStep bl sh ((b : Int), wgt bl sh b) i = ((i : Int), wgt bl sh i) := by
        unfold bestStep
        rw [if_pos (.inr (by simpa using hc))]
      rw [e]
      have hib : Beats bl sh i b := by
        rcases hc with h | ⟨h, h1⟩
        · exact .inl h
        · exact .inr ⟨h.symm, h1⟩
      obtain ⟨b', h1, h2, h3⟩ := best_fold t l i hi hl'
      refine ⟨b', h1, ?_, ?_⟩
      · rcases h2 with rfl | ⟨h4, h5⟩
        · exact .inr ⟨List.mem_cons_self .., hib⟩
        · exact .inr ⟨List.mem_cons_of_mem _ h4, h5.trans hib⟩
      · intro j hj
        rcases List.mem_cons.1 hj with rfl | hj
        · rcases h2 with rfl | ⟨_, h5⟩
          · exact .inl rfl
          · exact .inr h5
        · exact h3 j hj
    · have e : bestStep bl sh ((b : Int), wgt bl sh b) i = ((b : Int), wgt bl sh b) := by
        unfold bestStep
        rw [if_neg]
        rintro (h | h)
        · simp only at h; omega
        · exact hc (by simpa using h)
      rw [e]
      have hbi : i = b ∨ Beats bl sh b i := by
        by_cases hr : rootAt bl i = rootAt bl b
        · exact .inl (t.one _ _ hi hb hr)
        · right
          by_cases hw : wgt bl sh i = wgt bl sh b
          · rcases less_total _ _ hr with h | h
            · exact .inr ⟨hw, h⟩
            · exact absurd (.inr ⟨hw, h⟩) hc
          · left
            have : ¬ wgt bl sh b < wgt bl sh i := fun h => hc (.inl h)
            omega
      obtain ⟨b', h1, h2, h3⟩ := best_fold t l b hb hl'
      refine ⟨b', h1, ?_, ?_⟩
      · rcases h2 with rfl | ⟨h4, h5⟩
        · exact .inl rfl
        · exact .inr ⟨List.mem_cons_of_mem _ h4, h5⟩
      · intro j hj
        rcases List.mem_cons.1 hj with rfl | hj
        · rcases h2 with rfl | ⟨_, h5⟩
          · exact hbi
          · rcases hbi with rfl | h6
            · exact .inr h5
            · exact .inr (h5.trans h6)
        · exact h3 j hj

theorem best_char (t : Tree bl par) (k : Nat) : (kidsOf bl k = [] ∧ bestOf bl sh k = -1) ∨ ∃ b : Nat, b ∈ kidsOf bl k ∧ bestOf bl sh k = (b : Int) ∧ ∀ i ∈ kidsOf bl k, i = b ∨ Beats bl sh b i := by
  have hl : ∀ i ∈ kidsOf bl k, i < bl.length := fun i hi => (mem_kids hi).2.1
  unfold bestOf
  cases hk : kidsOf bl k with
  | nil => exact .inl ⟨rfl, rfl⟩
  | cons i l =>
    right
    rw [hk] at hl
    have e : bestStep bl sh (-1, 0) i = ((i : Int), wgt bl sh i) := by
      unfold bestStep
      rw [if_pos (.inl (by decide))]
    simp only [List.foldl_cons, e]
    obtain ⟨b', h1, h2, h3⟩ := best_fold (sh := sh) t l i (hl i (List.mem_cons_self ..)) (fun j hj => hl j (List.mem_cons_of_mem _ hj))
    refine ⟨b', ?_, by rw [h1], ?_⟩
    · rcases h2 with rfl | ⟨h4, _⟩
      · exact List.mem_cons_self ..
      · exact List.mem_cons_of_mem _ h4
    · intro j hj
      rcases List.mem_cons.1 hj with rfl | hj
      · rcases h2 with rfl | ⟨_, h5⟩
        · exact .inl rfl
        · exact .inr h5
      · exact h3 j hj

theorem best_eq (t : Tree bl par) {k b : Nat} (hb : b ∈ kidsOf bl k) (h : ∀ i ∈ kidsOf bl k, i = b ∨ Beats bl sh b i) : bestOf bl sh k = (b : Int) := by
  rcases best_char (sh := sh) t k with ⟨h1, _⟩ | ⟨b', h1, h2, h3⟩
  · rw [h1] at hb; cases hb
  · rw [h2]
    rcases h b' h1 with h4 | h4
    · rw [h4]
    · rcases h3 b hb with h5 | h5
      · rw [h5]
      · exact (h4.asymm h5).elim

theorem best_none (t : Tree bl par) {k i : Nat} (h : bestOf bl sh k < 0) : i ∉ kidsOf bl k := by
  rcases best_char (sh := sh) t k with ⟨h1, _⟩ | ⟨b', h1, h2, h3⟩
  · rw [h1]; simp
  · omega

theorem head_end : ∀ (f k : Nat), bl.length ≤ f + k + 1 → k < bl.length → bestOf bl sh (headFrom bl sh f k) < 0
  | 0, k, h, hk => by
    unfold headFrom
    by_cases hb : bestOf bl sh k < 0
    · exact hb
    · have := bestOf_gt hb
      omega
  | f + 1, k, h, hk => by
    unfold headFrom
    split
    · assumption
    · rename_i hb
      have := bestOf_gt hb
      exact head_end f _ (by omega) this.2

theorem headOf_end (h : 0 < bl.length) : bestOf bl sh (headOf bl sh) < 0 := head_end _ _ (by omega) h
theorem headOf_lt (h : 0 < bl.length) : headOf bl sh < bl.length := headFrom_lt _ _ h

theorem Anc.down {c k : Nat} (h : Anc par c k) (h0 : 0 < c) : Anc par (par c) k := by
  induction h with
  | here => exact .up h0 .here
  | up h1 _ ih => exact .up h1 ih

theorem Anc.trans {i j k : Nat} (h : Anc par i j) (h' : Anc par j k) : Anc par i k := by
  induction h' with
  | here => exact h
  | up h1 _ ih => exact .up h1 ih

theorem best_par (t : Tree bl par) {k : Nat} (hk : k < bl.length) (hb : ¬ bestOf bl sh k < 0) : 0 < (bestOf bl sh k).toNat ∧ par (bestOf bl sh k).toNat = k := by
  rcases best_char (sh := sh) t k with ⟨_, h1⟩ | ⟨b, h1, h2, _⟩
  · omega
  · rw [h2, Int.toNat_natCast]
    obtain ⟨q1, q2, q3⟩ := mem_kids h1
    have := (t.kid k b hk q2).1 (by
      unfold kidsOf kidsTo at h1
      exact (List.mem_filter.1 h1).2)
    exact this

theorem head_way (t : Tree bl par) : ∀ (f k : Nat), k < bl.length → Anc par k (headFrom bl sh f k)
  | 0, k, _ => .here
  | f + 1, k, hk => by
    unfold headFrom
    split
    · exact .here
    · rename_i hb
      have hg := bestOf_gt hb
      obtain ⟨h0, h1⟩ := best_par t hk hb
      have := (head_way t f _ hg.2).down h0
      rw [h1] at this
      exact this

theorem same_head (t : Tree bl par) {bl' : List (Rt × Rt)} {sh' : List (Rt × Int)} (hlen : bl.length ≤ bl'.length) (hpos : 0 < bl.length)
    (h : ∀ p, p < bl.length → Anc par p (headOf bl sh) → ¬ bestOf bl sh p < 0 → Anc par (bestOf bl sh p).toNat (headOf bl sh) → bestOf bl' sh' p = bestOf bl sh p) : headOf bl' sh' = headFrom bl' sh' bl'.length (headOf bl sh) := by
  have key : ∀ f k, k < bl.length → headFrom bl sh f k = headOf bl sh → headFrom bl' sh' bl'.length k = headFrom bl' sh' bl'.length (headOf bl sh) := by
    intro f
    induction f with
    | zero => intro k _ e; rw [← e]; rfl
    | succ f ih =>
      intro k hk e
      have hw := head_way (sh := sh) t (f + 1) k hk
      rw [e] at hw
      unfold headFrom at e
      split at e
      · rw [e]
      · rename_i hb
        have hg := bestOf_gt hb
        have hw2 := head_way (sh := sh) t f _ hg.2
        rw [e] at hw2
        have := h k hk hw hb hw2
        rw [headFrom_step (bl := bl') (by omega) (by rw [this]; exact hb), this]
        exact ih _ hg.2 e
  exact key bl.length 0 hpos rfl

/-- A share more at the head, or above it. -/
theorem more_best (t : Tree bl par) {r : Rt} {v : Int} {at' : Nat} (hat : at' < bl.length) (hr : r.l = rootAt bl at') (ha : Anc par at' (headOf bl sh)) (hv : 0 ≤ v) (hv1 : v < 4611686018427387904)
    (hw : ∀ i, i < bl.length → 0 ≤ weightOf bl sh i ∧ weightOf bl sh i < 4611686018427387904) {p : Nat} (hp : p < bl.length) (hb : ¬ bestOf bl sh p < 0)
    (hn : Anc par (bestOf bl sh p).toNat (headOf bl sh)) : bestOf bl (sh ++ [(r, v)]) p = bestOf bl sh p := by
  have hpos : 0 < bl.length := by omega
  have hH := headOf_lt (sh := sh) hpos
  have hw' : ∀ i, i < bl.length → wgt bl (sh ++ [(r, v)]) i = wgt bl sh i + counts par i at' v ∧ 0 ≤ counts par i at' v := fun i hi => by
    have h1 := hw i hi
    have h2 := weight_append (bl := bl) sh [(r, v)] i
    have h3 := weight_one (v := v) t hat hr _ i (Nat.le_refl _) hi
    have h4 : 0 ≤ counts par i at' v ∧ counts par i at' v ≤ v := by
      unfold counts
      split <;> omega
    refine ⟨?_, h4.1⟩
    unfold wgt
    rw [h2, h3, wrap_i64 (by omega) (by omega), wrap_i64 (by omega) (by omega)]
  rcases best_char (sh := sh) t p with ⟨_, h1⟩ | ⟨b, h1, h2, h3⟩
  · omega
  · rw [h2] at hn ⊢
    rw [Int.toNat_natCast] at hn
    refine best_eq t h1 fun i hi => ?_
    rcases h3 i hi with h4 | h4
    · exact .inl h4
    · right
      obtain ⟨_, qb, _⟩ := mem_kids h1
      obtain ⟨_, qi, _⟩ := mem_kids hi
      have hib : i ≠ b := by rintro rfl; exact h4.asymm h4
      have kb := (t.kid p b hp qb).1 (List.mem_filter.1 h1).2
      have ki := (t.kid p i hp qi).1 (List.mem_filter.1 hi).2
      have lb := t.lt b kb.1 qb
      have li := t.lt i ki.1 qi
      have hz : counts par i at' v = 0 := by
        unfold counts
        rw [if_neg]
        intro hx
        have hx2 := hx.trans ha
        rcases Nat.lt_or_ge i b with h5 | h5
        · have := Anc.le t (Anc.chain t h5 hn hH hx2) (by omega)
          omega
        · have := Anc.le t (Anc.chain t (show b < i by omega) hx2 hH hn) (by omega)
          omega
      obtain ⟨e1, _⟩ := hw' i qi
      obtain ⟨e2, e3⟩ := hw' b qb
      rw [hz] at e1
      unfold Beats at h4 ⊢
      rcases h4 with h4 | ⟨h4, h5⟩
      · left; omega
      · by_cases hc : counts par b at' v = 0
        · exact .inr ⟨by omega, h5⟩
        · left; omega

theorem more_head (t : Tree bl par) {r : Rt} {v : Int} {at' : Nat} (hat : at' < bl.length) (hr : r.l = rootAt bl at') (ha : Anc par at' (headOf bl sh)) (hv : 0 ≤ v) (hv1 : v < 4611686018427387904)
    (hw : ∀ i, i < bl.length → 0 ≤ weightOf bl sh i ∧ weightOf bl sh i < 4611686018427387904) : headOf bl (sh ++ [(r, v)]) = headOf bl sh := by
  have hpos : 0 < bl.length := by omega
  rw [same_head t (bl' := bl) (sh' := sh ++ [(r, v)]) (Nat.le_refl _) hpos fun p hp _ hb hn => more_best t hat hr ha hv hv1 hw hp hb hn]
  refine headFrom_end (headOf_lt hpos) ?_
  have := headOf_end (sh := sh) hpos
  rcases best_char (sh := sh) t (headOf bl sh) with ⟨h1, _⟩ | ⟨b, h1, h2, _⟩
  · rcases best_char (sh := sh ++ [(r, v)]) t (headOf bl sh) with ⟨_, h3⟩ | ⟨b, h3, _⟩
    · omega
    · rw [h1] at h3; cases h3
  · omega

end
end Go.Proofs.Ytahoibjgojlpeaa.Ghost
