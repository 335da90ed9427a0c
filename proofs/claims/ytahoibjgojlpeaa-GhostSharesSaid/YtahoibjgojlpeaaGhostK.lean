/- Plain laws of weights: a share counts for the blocks on the way to its own, and for no other. -/
import Derived.Test.YtahoibjgojlpeaaGhostJ
namespace Go.Proofs.Ytahoibjgojlpeaa.Ghost
open Go Go.Vc

/-- i stands on the way from the first block to t. -/
inductive Anc (par : Nat → Nat) (i : Nat) : Nat → Prop where
  | here : Anc par i i
  | up {t : Nat} : 0 < t → Anc par i (par t) → Anc par i t

open Classical in
/-- What a share at t counts for i. -/
noncomputable def counts (par : Nat → Nat) (i t : Nat) (v : Int) : Int := if Anc par i t then v else 0

section
variable {bl : List (Rt × Rt)} {sh : List (Rt × Int)} {par : Nat → Nat}

theorem Anc.le (t : Tree bl par) {i : Nat} : ∀ {k : Nat}, Anc par i k → k < bl.length → i ≤ k := by
  intro k h
  induction h with
  | here => intro _; exact Nat.le_refl _
  | up h0 _ ih =>
    intro hk
    have := t.lt _ h0 hk
    have := ih (by omega)
    omega

theorem Anc.zero (t : Tree bl par) : ∀ (n k : Nat), k ≤ n → k < bl.length → Anc par 0 k
  | 0, k, h, _ => by
    have : k = 0 := by omega
    rw [this]
    exact .here
  | n + 1, k, h, hk => by
    by_cases h0 : k = 0
    · rw [h0]; exact .here
    · have := t.lt k (by omega) hk
      exact .up (by omega) (Anc.zero t n (par k) (by omega) (by omega))

/-- Two on one way: the lesser one stands on the way to the greater one's parent. -/
theorem Anc.chain (t : Tree bl par) {i j : Nat} (hij : i < j) : ∀ {k : Nat}, Anc par j k → k < bl.length → Anc par i k → Anc par i (par j) := by
  intro k h
  induction h with
  | here =>
    intro hk hi
    cases hi with
    | here => omega
    | up _ h => exact h
  | up h0 hj ih =>
    intro hk hi
    have hp := t.lt _ h0 hk
    refine ih (by omega) ?_
    cases hi with
    | here =>
      have := Anc.le t hj (by omega)
      omega
    | up _ h => exact h

theorem own_append (xs ys : List (Rt × Int)) (r : List UInt8) : own (xs ++ ys) r = own xs r + own ys r := by
  unfold own
  rw [List.map_append, List.sum_append]

theorem sum_map_add (f g : Nat → Int) : ∀ l : List Nat, (l.map fun i => f i + g i).sum = (l.map f).sum + (l.map g).sum
  | [] => rfl
  | x :: xs => by simp only [List.map_cons, List.sum_cons, sum_map_add f g xs]; omega

theorem wt_append (xs ys : List (Rt × Int)) : ∀ f k, wt bl (xs ++ ys) f k = wt bl xs f k + wt bl ys f k
  | 0, _ => rfl
  | f + 1, k => by
    simp only [wt, own_append]
    have : (kidsOf bl k).map (wt bl (xs ++ ys) f) = (kidsOf bl k).map (fun i => wt bl xs f i + wt bl ys f i) := List.map_congr_left fun i _ => wt_append xs ys f i
    rw [this, sum_map_add]
    omega

theorem weight_append (xs ys : List (Rt × Int)) (k : Nat) : weightOf bl (xs ++ ys) k = weightOf bl xs k + weightOf bl ys k := wt_append xs ys _ k

/-- A share behind a block that is there. -/
theorem weight_one (t : Tree bl par) {r : Rt} {v : Int} {τ : Nat} (hτ : τ < bl.length) (hr : r.l = rootAt bl τ) : ∀ (n i : Nat), bl.length - i ≤ n → i < bl.length → weightOf bl [(r, v)] i = counts par i τ v
  | 0, i, h, hi => by omega
  | n + 1, i, h, hi => by
    rw [weight_sum t hi]
    have ho : ownAt bl [(r, v)] i = if i = τ then v else 0 := by
      unfold ownAt own
      simp only [List.map_cons, List.map_nil, List.sum_cons, List.sum_nil, Int.add_zero, hr]
      by_cases e : i = τ
      · rw [if_pos e, if_pos (by rw [e])]
      · rw [if_neg e, if_neg (fun hx => e (t.one _ _ hi hτ hx.symm))]
    have hk : ∀ c, c < bl.length → (if 0 < c ∧ par c = i then weightOf bl [(r, v)] c else 0) = if 0 < c ∧ par c = i then counts par c τ v else 0 := fun c hc => by
      by_cases e : 0 < c ∧ par c = i
      · have := t.lt c e.1 hc
        rw [if_pos e, if_pos e, weight_one t hτ hr n c (by omega) hc]
      · rw [if_neg e, if_neg e]
    rw [S_congr _ hk, ho]
    unfold counts
    by_cases e : i = τ
    · rw [if_pos e, S_zero, if_pos (by rw [e]; exact .here)]
      · omega
      · intro c hc
        by_cases e2 : 0 < c ∧ par c = i
        · have := t.lt c e2.1 hc
          rw [if_pos e2, if_neg]
          intro ha
          have := Anc.le t ha hτ
          omega
        · rw [if_neg e2]
    · rw [if_neg e, Int.zero_add]
      by_cases ha : Anc par i τ
      · rw [if_pos ha]
        -- the child on the way
        have : ∃ c, 0 < c ∧ c < bl.length ∧ par c = i ∧ Anc par c τ := by
          clear ho hk h
          have key : ∀ k, Anc par i k → k < bl.length → i ≠ k → ∃ c, 0 < c ∧ c < bl.length ∧ par c = i ∧ Anc par c k := by
            intro k hk
            induction hk with
            | here => intro _ h; exact absurd rfl h
            | @up k h0 hk ih =>
              intro hkl hne
              have hp := t.lt k h0 hkl
              by_cases e3 : i = par k
              · exact ⟨k, h0, hkl, e3.symm, .here⟩
              · obtain ⟨c, a1, a2, a3, a4⟩ := ih (by omega) e3
                exact ⟨c, a1, a2, a3, .up h0 a4⟩
          exact key τ ha hτ e
        obtain ⟨c, c0, c1, c2, c3⟩ := this
        rw [S_congr (g := fun j => if j = c then v else 0)]
        · exact S_single _ c c1 v
        · intro j hj
          by_cases e4 : j = c
          · subst e4
            rw [if_pos ⟨c0, c2⟩, if_pos c3, if_pos rfl]
          · rw [if_neg e4]
            by_cases e5 : 0 < j ∧ par j = i
            · rw [if_pos e5, if_neg]
              intro hj2
              rcases Nat.lt_or_ge j c with h6 | h6
              · have := Anc.le t (Anc.chain t h6 c3 hτ hj2) (by have := t.lt c c0 c1; omega)
                have := t.lt j e5.1 hj
                omega
              · have h7 : c < j := by omega
                have := Anc.le t (Anc.chain t h7 hj2 hτ c3) (by have := t.lt j e5.1 hj; omega)
                have := t.lt c c0 c1
                omega
            · rw [if_neg e5]
      · rw [if_neg ha]
        refine S_zero _ fun c hc => ?_
        by_cases e2 : 0 < c ∧ par c = i
        · rw [if_pos e2, if_neg]
          intro hc2
          refine ha ?_
          clear ho hk
          have key : ∀ k, Anc par c k → Anc par i k := by
            intro k hk
            induction hk with
            | here => exact .up e2.1 (by rw [e2.2]; exact .here)
            | up h0 _ ih => exact .up h0 ih
          exact key τ hc2
        · rw [if_neg e2]

/-- A share behind none counts for none. -/
theorem weight_miss {r : Rt} {v : Int} (hr : ∀ i, i < bl.length → r.l ≠ rootAt bl i) : ∀ (f i : Nat), i < bl.length → wt bl [(r, v)] f i = 0
  | 0, _, _ => rfl
  | f + 1, i, hi => by
    simp only [wt, own, List.map_cons, List.map_nil, List.sum_cons, List.sum_nil, if_neg (hr i hi)]
    have : (kidsOf bl i).map (wt bl [(r, v)] f) = (kidsOf bl i).map (fun _ => (0 : Int)) := List.map_congr_left fun j hj => weight_miss hr f j (mem_kids hj).2.1
    rw [this]
    induction kidsOf bl i with
    | nil => rfl
    | cons x xs ih => simpa using ih

end
end Go.Proofs.Ytahoibjgojlpeaa.Ghost
