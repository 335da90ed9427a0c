/- Plain laws of weights: the first block weighs all; none weighs less than one below. -/
import Derived.Test.YtahoibjgojlpeaaGhostH
namespace Go.Proofs.Ytahoibjgojlpeaa.Ghost
open Go Go.Vc

/-- A sum over the first n numbers. -/
def S (n : Nat) (f : Nat → Int) : Int := ((List.range n).map f).sum

theorem S_succ (n : Nat) (f : Nat → Int) : S (n + 1) f = S n f + f n := by
  unfold S
  rw [List.range_succ, List.map_append, List.sum_append]
  simp

theorem S_add (n : Nat) (f g : Nat → Int) : S n (fun i => f i + g i) = S n f + S n g := by
  induction n with
  | zero => rfl
  | succ n ih => rw [S_succ, S_succ, S_succ, ih]; omega

theorem S_congr (n : Nat) {f g : Nat → Int} (h : ∀ i, i < n → f i = g i) : S n f = S n g := by
  induction n with
  | zero => rfl
  | succ n ih => rw [S_succ, S_succ, ih (fun i hi => h i (by omega)), h n (by omega)]

theorem S_zero (n : Nat) {f : Nat → Int} (h : ∀ i, i < n → f i = 0) : S n f = 0 := by
  rw [S_congr n (g := fun _ => 0) h]
  induction n with
  | zero => rfl
  | succ n ih => rw [S_succ, ih (fun i hi => h i (by omega))]; rfl

theorem S_single (n m : Nat) (hm : m < n) (c : Int) : S n (fun i => if i = m then c else 0) = c := by
  induction n with
  | zero => omega
  | succ n ih =>
    rw [S_succ]
    by_cases h : m = n
    · subst h
      rw [S_zero m (fun i hi => if_neg (by omega)), if_pos rfl]
      omega
    · rw [ih (by omega), if_neg (by omega)]
      omega

theorem S_le (n : Nat) {f g : Nat → Int} (h : ∀ i, i < n → f i ≤ g i) : S n f ≤ S n g := by
  induction n with
  | zero => exact Int.le_refl _
  | succ n ih => rw [S_succ, S_succ]; have := ih (fun i hi => h i (by omega)); have := h n (by omega); omega

theorem S_filter (n : Nat) (p : Nat → Bool) (f : Nat → Int) : (((List.range n).filter p).map f).sum = S n (fun i => if p i then f i else 0) := by
  induction n with
  | zero => rfl
  | succ n ih =>
    rw [S_succ, List.range_succ, List.filter_append, List.map_append, List.sum_append, ih]
    congr 1
    cases hp : p n <;> simp [hp]

/-- Blocks, each but the first behind one that stands ahead. -/
structure Tree (bl : List (Rt × Rt)) (par : Nat → Nat) : Prop where
  lt : ∀ i, 0 < i → i < bl.length → par i < i
  kid : ∀ k i, k < bl.length → i < bl.length → (kid bl k i = true ↔ 0 < i ∧ par i = k)
  one : ∀ i j, i < bl.length → j < bl.length → rootAt bl i = rootAt bl j → i = j

section
variable {bl : List (Rt × Rt)} {sh : List (Rt × Int)} {par : Nat → Nat}

def ownAt (bl : List (Rt × Rt)) (sh : List (Rt × Int)) (i : Nat) : Int := own sh (rootAt bl i)

theorem weight_sum (t : Tree bl par) {k : Nat} (hk : k < bl.length) : weightOf bl sh k = ownAt bl sh k + S bl.length (fun i => if 0 < i ∧ par i = k then weightOf bl sh i else 0) := by
  rw [weightOf_eq hk]
  congr 1
  unfold kidsOf kidsTo
  rw [S_filter]
  refine S_congr _ fun i hi => ?_
  have := t.kid k i hk hi
  by_cases h : kid bl k i = true
  · rw [if_pos h, if_pos (this.1 h)]
  · rw [if_neg h, if_neg (fun hx => h (this.2 hx))]

def front (bl : List (Rt × Rt)) (sh : List (Rt × Int)) (par : Nat → Nat) (m : Nat) : Int := S bl.length (fun i => if m ≤ i ∧ 0 < i ∧ par i < m then weightOf bl sh i else 0)

theorem front_step (t : Tree bl par) {m : Nat} (h0 : 0 < m) (hm : m < bl.length) : front bl sh par (m + 1) = front bl sh par m - ownAt bl sh m := by
  have h1 := weight_sum (sh := sh) t hm
  have h2 : S bl.length (fun i => (if m ≤ i ∧ 0 < i ∧ par i < m then weightOf bl sh i else 0) + (if 0 < i ∧ par i = m then weightOf bl sh i else 0)) =
      S bl.length (fun i => (if m + 1 ≤ i ∧ 0 < i ∧ par i < m + 1 then weightOf bl sh i else 0) + (if i = m then weightOf bl sh m else 0)) := by
    refine S_congr _ fun i hi => ?_
    have hp : 0 < i → par i < i := fun h => t.lt i h hi
    by_cases e : i = m
    · subst e
      have := hp h0
      rw [if_pos (by omega), if_neg (by omega), if_neg (by omega), if_pos rfl]
      omega
    · rw [if_neg (c := i = m) e]
      by_cases h3 : m + 1 ≤ i
      · by_cases h4 : par i < m
        · rw [if_pos (by omega), if_neg (by omega), if_pos (by omega)]
        · by_cases h5 : par i = m
          · rw [if_neg (by omega), if_pos (by omega), if_pos (by omega)]
            omega
          · rw [if_neg (by omega), if_neg (by omega), if_neg (by omega)]
      · have h6 : ¬ (0 < i ∧ par i = m) := fun ⟨ha, hb⟩ => by have := hp ha; omega
        rw [if_neg (by omega), if_neg h6, if_neg (by omega)]
  rw [S_add, S_add, S_single _ m hm] at h2
  unfold front
  omega

theorem front_all (t : Tree bl par) : ∀ m, 0 < m → m ≤ bl.length → S m (ownAt bl sh) + front bl sh par m = weightOf bl sh 0
  | 0, h, _ => by omega
  | 1, _, hm => by
    have h1 := weight_sum (sh := sh) t (k := 0) (by omega)
    rw [h1, S_succ]
    have : front bl sh par 1 = S bl.length (fun i => if 0 < i ∧ par i = 0 then weightOf bl sh i else 0) := by
      unfold front
      refine S_congr _ fun i _ => ?_
      by_cases h : 0 < i ∧ par i = 0
      · rw [if_pos h, if_pos (by omega)]
      · rw [if_neg h, if_neg (by omega)]
    rw [this]
    have : S 0 (ownAt bl sh) = 0 := rfl
    omega
  | m + 2, _, hm => by
    have ih := front_all t (m + 1) (by omega) (by omega)
    rw [S_succ, front_step t (by omega) (by omega)]
    omega

theorem weight_all (t : Tree bl par) (h : 0 < bl.length) : weightOf bl sh 0 = S bl.length (ownAt bl sh) := by
  have := front_all (sh := sh) t bl.length h (Nat.le_refl _)
  have h0 : front bl sh par bl.length = 0 := S_zero _ fun i hi => if_neg (by omega)
  omega

theorem own_nonneg (h : ∀ x ∈ sh, 0 ≤ x.2) (r : List UInt8) : 0 ≤ own sh r := by
  unfold own
  refine sum_nonneg _ fun k hk => ?_
  obtain ⟨x, hx, rfl⟩ := List.mem_map.1 hk
  have := h x hx
  split <;> omega

theorem wt_nonneg (h : ∀ x ∈ sh, 0 ≤ x.2) : ∀ f k, 0 ≤ wt bl sh f k
  | 0, _ => Int.le_refl _
  | f + 1, k => by
    have h1 := own_nonneg h (rootAt bl k)
    have h2 : 0 ≤ ((kidsOf bl k).map (wt bl sh f)).sum := sum_nonneg _ fun x hx => by
      obtain ⟨i, _, rfl⟩ := List.mem_map.1 hx
      exact wt_nonneg h f i
    simp only [wt]
    omega

theorem weight_nonneg (h : ∀ x ∈ sh, 0 ≤ x.2) (k : Nat) : 0 ≤ weightOf bl sh k := wt_nonneg h _ k

theorem weight_up (t : Tree bl par) (h : ∀ x ∈ sh, 0 ≤ x.2) {i : Nat} (h0 : 0 < i) (hi : i < bl.length) : weightOf bl sh i ≤ weightOf bl sh (par i) := by
  have hp := t.lt i h0 hi
  rw [weight_sum t (k := par i) (by omega)]
  have h1 : S bl.length (fun j => if j = i then weightOf bl sh i else 0) ≤ S bl.length (fun j => if 0 < j ∧ par j = par i then weightOf bl sh j else 0) := S_le _ fun j _ => by
    have hw := weight_nonneg (bl := bl) h j
    by_cases e : j = i
    · subst e
      rw [if_pos rfl, if_pos ⟨h0, rfl⟩]
      exact Int.le_refl _
    · rw [if_neg e]
      split <;> omega
  rw [S_single _ i hi] at h1
  have h2 := own_nonneg h (rootAt bl (par i))
  unfold ownAt
  omega

theorem weight_le (t : Tree bl par) (h : ∀ x ∈ sh, 0 ≤ x.2) : ∀ (n i : Nat), i ≤ n → i < bl.length → weightOf bl sh i ≤ weightOf bl sh 0
  | 0, i, hn, _ => by
    have : i = 0 := by omega
    rw [this]
    exact Int.le_refl _
  | n + 1, i, hn, hi => by
    by_cases h0 : i = 0
    · rw [h0]; exact Int.le_refl _
    · have h1 := weight_up (sh := sh) t h (by omega) hi
      have h2 := t.lt i (by omega) hi
      have h3 := weight_le t h n (par i) (by omega) (by omega)
      omega

/-- What stands behind blocks that are there. -/
def placed (bl : List (Rt × Rt)) (sh : List (Rt × Int)) : Int := (sh.map fun x => if 0 ≤ placeOf (bl.map fun b => b.1.l) x.1.l then x.2 else 0).sum

theorem root_get {i : Nat} (hi : i < bl.length) : (bl.map fun b => b.1.l)[i]? = some (rootAt bl i) := by
  simp [rootAt, hi]

theorem owns_placed (t : Tree bl par) : ∀ sh : List (Rt × Int), S bl.length (ownAt bl sh) = placed bl sh
  | [] => S_zero _ fun i _ => rfl
  | x :: xs => by
    have e1 : ∀ i, ownAt bl (x :: xs) i = (if x.1.l = rootAt bl i then x.2 else 0) + ownAt bl xs i := fun i => by
      unfold ownAt own
      simp
    have e2 : S bl.length (ownAt bl (x :: xs)) = S bl.length (fun i => (if x.1.l = rootAt bl i then x.2 else 0) + ownAt bl xs i) := S_congr _ fun i _ => e1 i
    rw [e2, S_add, owns_placed t xs]
    unfold placed
    simp only [List.map_cons, List.sum_cons]
    congr 1
    split
    · rename_i h
      have hlt := placeOf_lt h
      simp only [List.length_map] at hlt
      have hit : rootAt bl (placeOf (bl.map fun b => b.1.l) x.1.l).toNat = x.1.l := by
        unfold placeOf at h hlt ⊢
        split at h
        · rename_i i hi
          obtain ⟨hl, he, _⟩ := List.findIdx?_eq_some_iff_getElem.1 hi
          simp only [hi, Int.toNat_natCast] at hlt ⊢
          have := root_get hlt
          rw [List.getElem?_eq_getElem hl] at this
          rw [← Option.some.inj this]
          simpa using he
        · omega
      rw [S_congr (g := fun i => if i = (placeOf (bl.map fun b => b.1.l) x.1.l).toNat then x.2 else 0)]
      · exact S_single _ _ hlt _
      · intro i hi
        by_cases e : x.1.l = rootAt bl i
        · rw [if_pos e, if_pos (t.one _ _ hi hlt (by rw [hit, e]))]
        · rw [if_neg e, if_neg (fun hx => e (by rw [hx, hit]))]
    · rename_i h
      refine S_zero _ fun i hi => if_neg fun hx => h ?_
      have : ¬ (bl.map fun b => b.1.l).findIdx? (· = x.1.l) = none := fun hn => by
        rw [List.findIdx?_eq_none_iff] at hn
        have := hn _ (List.mem_of_getElem? (root_get hi))
        rw [hx] at this
        simp at this
      unfold placeOf
      cases hf : (bl.map fun b => b.1.l).findIdx? (· = x.1.l) with
      | none => exact absurd hf this
      | some i => simp

end
end Go.Proofs.Ytahoibjgojlpeaa.Ghost
