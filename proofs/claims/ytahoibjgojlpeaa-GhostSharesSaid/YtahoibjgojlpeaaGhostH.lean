/- When the document's chain of numbers is one that can be. -/
import Derived.Test.YtahoibjgojlpeaaGhostG
namespace Go.Proofs.Ytahoibjgojlpeaa.Ghost
open Go Go.Vc

/-- The number of the parent of the block i + 1. -/
def parIdx (ps : List Int) (i : Nat) : Nat := ((ps.getD i 0 % 18446744073709551616) % ((i : Int) + 1)).toNat

theorem parIdx_le (ps : List Int) (i : Nat) : parIdx ps i ≤ i := by
  unfold parIdx
  have h1 : (ps.getD i 0 % 18446744073709551616) % ((i : Int) + 1) < (i : Int) + 1 := Int.emod_lt_of_pos _ (by omega)
  have h2 : 0 ≤ (ps.getD i 0 % 18446744073709551616) % ((i : Int) + 1) := Int.emod_nonneg _ (by omega)
  omega

theorem parOf_idx (ps : List Int) (i : Nat) : parOf ps i = nameN (parIdx ps i) := by
  unfold parOf nameN parIdx
  congr 1
  have h2 : 0 ≤ (ps.getD i 0 % 18446744073709551616) % ((i : Int) + 1) := Int.emod_nonneg _ (by omega)
  omega

theorem place_of {ps ts ks : List Int} (hl : ps.length < 255) (a : Int) : (plainDoc ps ts ks).place (name a) = if a % 256 < ps.length + 1 then a % 256 else -1 := by
  unfold Doc.place
  have hget : ∀ j : Nat, (bytesOf (plainDoc ps ts ks).roots)[j]? = if j < ps.length + 1 then some (name (j : Int)).l else none := fun j => by
    unfold bytesOf plainDoc
    by_cases h : j < ps.length + 1
    · simp [h, nameN]
    · simp [h]
  have h0 := Int.emod_nonneg a (show (256 : Int) ≠ 0 by decide)
  split
  · rename_i h
    have := placeOf_hit (l := bytesOf (plainDoc ps ts ks).roots) (r := (name a).l) (i := (a % 256).toNat) ?_ ?_
    · rw [this]; omega
    · rw [hget, if_pos (by omega)]
      congr 1
      rw [name_iff]
      omega
    · intro j hj
      rw [hget]
      split
      · intro hx
        have := name_mod (Option.some.inj hx)
        omega
      · simp
  · rename_i h
    refine placeOf_miss fun j => ?_
    rw [hget]
    split
    · intro hx
      have := name_mod (Option.some.inj hx)
      omega
    · simp

theorem place_nameN {ps ts ks : List Int} (hl : ps.length < 255) {i : Nat} (hi : i < ps.length + 1) : (plainDoc ps ts ks).place (nameN i) = i := by
  unfold nameN
  rw [place_of hl, if_pos (by omega)]
  omega

theorem roots_at {ps ts ks : List Int} {i : Nat} (hi : i < ps.length + 1) : (plainDoc ps ts ks).roots[i]? = some (nameN i) := by
  simp [plainDoc, hi]
theorem pars_at {ps ts ks : List Int} {i : Nat} (hi : i < ps.length) : (plainDoc ps ts ks).pars[i + 1]? = some (nameN (parIdx ps i)) := by
  simp [plainDoc, hi, parOf_idx]

def goodB (ts ks : List Int) : Bool := decide ((∀ k ∈ ks, 0 ≤ k) ∧ ks.sum < 4611686018427387904) && decide (ks.length = ts.length)

theorem sum_nonneg : ∀ l : List Int, (∀ k ∈ l, 0 ≤ k) → 0 ≤ l.sum
  | [], _ => by simp
  | x :: xs, h => by
    have h1 := h x (List.mem_cons_self ..)
    have h2 := sum_nonneg xs (fun k hk => h k (List.mem_cons_of_mem _ hk))
    simp only [List.sum_cons]
    omega

theorem sum_take (l : List Int) (n : Nat) (h : ∀ k ∈ l, 0 ≤ k) : (l.take n).sum ≤ l.sum := by
  have h1 : l.sum = (l.take n).sum + (l.drop n).sum := by rw [← List.sum_append, List.take_append_drop]
  have := sum_nonneg (l.drop n) (fun k hk => h k (List.mem_of_mem_drop hk))
  omega

section
variable {R : Value → Heap → Prop} {h : Heap}

theorem Good_spec {A P T K : Sl} {ps ts ks : List Int} (hl : ps.length < 255) (hw : ∀ n ∈ ks, (Lit.int .i64 n).wf = true) (c : RCh h A P T K (plainDoc ps ts ks))
    (hr : ∀ h', Ext h h' → R (TV.bool (goodB ts ks)).val h') : CallsH Try.prog 30 (TVs.vals [.agg [.slice A, .slice P, .slice T, .slice K]]) h R := by
  apply tollerref20_Chain_Good_calls
  unfold tollerref20_Chain_Good_vc
  obtain ⟨h1, e1, v1, x1, s1⟩ := newTV_spec h (.agg [.slice A, .slice P, .slice T, .slice K]) 41
  rw [e1]
  have c1 := c.ext x1
  have lA := names_len c.a
  have lP := names_len c.p
  have lT := names_len c.t
  have lK := ints_len c.k
  obtain ⟨l1, l2, l3, l4⟩ := plain_lens ps ts ks
  have l5 : (plainDoc ps ts ks).sts.length = ks.length := rfl
  have fk := c.fewk
  refine ⟨A, v1.at1 rfl, ?_⟩
  refine ⟨fun s hh => 0 ≤ s.2 ∧ s.2 ≤ ps.length + 1 ∧ Ext h1 hh, fun s _ => ((ps.length + 1 : Int) - s.2).toNat, ⟨by simp, by simp; omega, Ext.refl _⟩, ?_⟩
  rintro ⟨u, i⟩ hh ⟨i0, i1, x⟩
  simp only at i0 i1 ⊢
  have cc := c1.ext x
  have vv := v1.ext x
  refine If.dec.2 ⟨fun hi => ?_, fun hi => ?_⟩
  · have hin : ((i.toNat : Nat) : Int) = i := by omega
    refine names_at cc.a i0 (by omega) fun l y hy hat => ⟨y, hat, ?_⟩
    have hroot := roots_at (ps := ps) (ts := ts) (ks := ks) (i := i.toNat) (by omega)
    obtain rfl : nameN i.toNat = y := by rw [hy] at hroot; exact (Option.some.inj hroot).symm
    obtain ⟨w2, h2, e2, v2, x2, s2⟩ := newput_spec hh (.bytes 32 (Bs.zero 32)) (.bytes 32 (nameN i.toNat)) 37 rfl
    refine ⟨w2, ?_⟩
    rw [e2]
    have v3 := vv.ext x2
    have c3 := cc.ext x2
    refine ⟨A, P, T, K, ⟨v3.at1 rfl, v3.at1 rfl, v3.at1 rfl, v3.at1 rfl⟩, nameN i.toNat, v2.bytes, ?_⟩
    refine Place_spec c3 fun h4 x4 => ⟨_, rfl, x4, ?_⟩
    rw [place_nameN hl (by omega), hin, decide_eq_true rfl]
    refine If.no ?_
    have hnext : ∀ h', Ext h1 h' → (0 ≤ i + 1 ∧ i + 1 ≤ (ps.length : Int) + 1 ∧ Ext h1 h') ∧ (((ps.length + 1 : Int) - (i + 1)).toNat < ((ps.length + 1 : Int) - i).toNat) := fun h' hx => ⟨⟨by omega, by omega, hx⟩, by omega⟩
    rw [wrap_i64 (n := i + 1) (by omega) (by omega)]
    refine If.dec.2 ⟨fun hpos => ?_, fun hz => hnext _ ((x.trans x2).trans x4)⟩
    have v4 := v3.ext x4
    have c4 := c3.ext x4
    refine ⟨A, P, T, K, ⟨v4.at1 rfl, v4.at1 rfl, v4.at1 rfl, v4.at1 rfl⟩, P, v4.at1 rfl, ?_⟩
    obtain ⟨q, hq⟩ : ∃ q, i.toNat = q + 1 := ⟨i.toNat - 1, by omega⟩
    have hpar := pars_at (ps := ps) (ts := ts) (ks := ks) (i := q) (by omega)
    have hple := parIdx_le ps q
    refine names_at c4.p i0 (by omega) fun l2 p hp hat2 => ⟨p, hat2, ?_⟩
    obtain rfl : nameN (parIdx ps q) = p := by rw [hq, hpar] at hp; exact Option.some.inj hp
    refine Place_spec c4 fun h5 x5 => ⟨_, rfl, ?_⟩
    rw [place_nameN hl (by omega)]
    refine If.dec.2 ⟨fun hx => by omega, fun _ => ?_⟩
    have v5 := v4.ext x5
    have c5 := c4.ext x5
    refine ⟨A, P, T, K, ⟨v5.at1 rfl, v5.at1 rfl, v5.at1 rfl, v5.at1 rfl⟩, P, v5.at1 rfl, ?_⟩
    refine names_at c5.p i0 (by omega) fun l3 p hp3 hat3 => ⟨p, hat3, ?_⟩
    obtain rfl : nameN (parIdx ps q) = p := by rw [hq, hpar] at hp3; exact Option.some.inj hp3
    refine Place_spec c5 fun h6 x6 => ⟨_, rfl, x6, ?_⟩
    rw [place_nameN hl (by omega)]
    exact If.dec.2 ⟨fun hx => by omega, fun _ => hnext _ ((((x.trans x2).trans x4).trans x5).trans x6)⟩
  · refine ⟨K, vv.at1 rfl, ?_⟩
    refine ⟨fun s h' => h' = hh ∧ 0 ≤ s.2.2 ∧ s.2.2 ≤ ks.length ∧ s.2.1 = (ks.take s.2.2.toNat).sum ∧ s.2.1 < 4611686018427387904 ∧ (∀ k ∈ ks.take s.2.2.toNat, 0 ≤ k), fun s _ => ((ks.length : Int) - s.2.2).toNat, ⟨rfl, by simp, by simp, by simp, by simp, by simp⟩, ?_⟩
    rintro ⟨u2, n, j⟩ h' ⟨rfl, j0, j1, hn, hlt, hall⟩
    simp only at j0 j1 hn hlt hall ⊢
    have hn0 := sum_nonneg _ hall
    rw [← hn] at hn0
    refine If.dec.2 ⟨fun hj => ?_, fun hj => ?_⟩
    · refine ints_at cc.k j0 (by omega) fun l y hy hat => ⟨y, hat, ?_⟩
      have hy' : ks[j.toNat]? = some y := hy
      have hmem : y ∈ ks := List.mem_of_getElem? hy'
      have hyw := byte_i64 (hw y hmem)
      have bad : ¬ ((∀ k ∈ ks, 0 ≤ k) ∧ ks.sum < 4611686018427387904) → goodB ts ks = false := fun hb => by
        unfold goodB
        rw [decide_eq_false hb, Bool.false_and]
      have hstep : (ks.take (j + 1).toNat).sum = n + y := by
        have : (j + 1).toNat = j.toNat + 1 := by omega
        rw [this, List.take_add_one, hy', List.sum_append, hn]
        simp
      refine If.dec.2 ⟨fun hneg => ?_, fun hneg => ?_⟩
      · have := bad (fun ⟨ha, _⟩ => by have := ha y hmem; omega)
        rw [this] at hr
        exact hr _ (x1.trans x)
      · rw [wrap_u64 y, Int.emod_eq_of_lt (by omega) (by omega), wrap_u64, Int.emod_eq_of_lt (by omega) (by omega), wrap_i64 (n := j + 1) (by omega) (by omega)]
        refine If.dec.2 ⟨fun hbig => ?_, fun hbig => ?_⟩
        · have := bad (fun ⟨ha, hs⟩ => by
            have := sum_take ks (j + 1).toNat ha
            omega)
          rw [this] at hr
          exact hr _ (x1.trans x)
        · refine ⟨⟨by trivial, by omega, by omega, hstep.symm, by omega, ?_⟩, by omega⟩
          have : (j + 1).toNat = j.toNat + 1 := by omega
          rw [this, List.take_add_one, hy']
          intro k hk
          rcases List.mem_append.1 hk with h9 | h9
          · exact hall k h9
          · simp at h9; omega
    · have hj2 : j.toNat = ks.length := by omega
      rw [hj2, List.take_length] at hn hall
      refine ⟨P, vv.at1 rfl, A, vv.at1 rfl, ?_⟩
      refine If.dec.2 ⟨fun _ => ?_, fun hx => by omega⟩
      refine ⟨K, vv.at1 rfl, T, vv.at1 rfl, ?_⟩
      have : goodB ts ks = decide ((K.len : Int) = (T.len : Int)) := by
        unfold goodB
        rw [decide_eq_true ⟨hall, by omega⟩, Bool.true_and]
        exact decide_eq_decide.2 (by omega)
      rw [this] at hr
      exact hr _ (x1.trans x)

end
end Go.Proofs.Ytahoibjgojlpeaa.Ghost
