/- The document's digest: a block does what the program's take does. -/
import Derived.Test.YtgdhddignbkloaaRefA
import Derived.Test.YtgdhddignbkloaaVsRef
namespace Go.Proofs.Ytgdhddignbkloaa.Board
open Go Go.Vc
section
variable {R : Value → Heap → Prop} {h : Heap}

theorem right_spec {x n : Int} (hr : R (TV.int .u32 (rightF x n)).val h) : CallsH Try.prog 67 (TVs.vals [.int .u32 x, .int .i64 n]) h R := by
  apply tollerref03_right_calls
  unfold tollerref03_right_vc
  exact ⟨wrap_u64_nonneg _, wrap_u64_nonneg _, hr⟩

theorem by8_get {bs : List UInt8} {i : Nat} : ((bs.getD i 0).toNat : Int) = by8 bs i := rfl

theorem grow_by8 (n : Int) (bs : List UInt8) (i : Nat) : IntKind.wrap .u32 (IntKind.wrap .u32 (n * 256) + IntKind.wrap .u32 ((bs.getD i 0).toNat : Int)) = grow n (bs.getD i 0) := rfl

/-- A word out of its first bytes. -/
def growN (bs : List UInt8) (i : Nat) : Nat → Int
  | 0 => 0
  | k + 1 => grow (growN bs i k) (bs.getD (4 * i + k) 0)

/-- The words so far: those up to the i-th are there, the others are 0. -/
def Part (w : Ws 64) (bs : List UInt8) (i : Nat) : Prop := (∀ j, j < i → wd w j = wd (layF bs) j) ∧ ∀ j, i ≤ j → wd w j = 0

theorem lay_low (bs : List UInt8) (j : Nat) (hj : j < 16) : wd (layF bs) j = be (by8 bs (4 * j)) (by8 bs (4 * j + 1)) (by8 bs (4 * j + 2)) (by8 bs (4 * j + 3)) := by
  unfold layF
  rw [layB_wd (layA bs 16) 0 j (Nat.zero_le _) (by omega) 48 (Nat.zero_le _) (Nat.le_refl _), layB, ← layA_wd bs (j + 1) j (Nat.lt_succ_self j) (by omega), layA, wd_set, if_pos ⟨rfl, by omega⟩]

theorem lay_high (bs : List UInt8) (j : Nat) (h0 : 16 ≤ j) (h1 : j < 64) : wd (layF bs) j = exAt (layF bs) j := by
  unfold layF
  obtain ⟨i, rfl⟩ : ∃ i, j = 16 + i := ⟨j - 16, by omega⟩
  have e : ∀ k, k < 16 + i → wd (layB (layA bs 16) 48) k = wd (layB (layA bs 16) i) k := fun k hk => layB_wd (layA bs 16) i k (by omega) hk 48 (by omega) (Nat.le_refl _)
  rw [layB_wd (layA bs 16) (i + 1) (16 + i) (by omega) (by omega) 48 (by omega) (Nat.le_refl _), layB, wd_set, if_pos ⟨rfl, h1⟩]
  unfold exAt
  rw [e _ (by omega), e _ (by omega), e _ (by omega), e _ (by omega)]

theorem eight (X : Ws 8) : Ws.set (Ws.set (Ws.set (Ws.set (Ws.set (Ws.set (Ws.set (Ws.set (Ws.zero 8) 0 (wd X 0)) 1 (wd X 1)) 2 (wd X 2)) 3 (wd X 3)) 4 (wd X 4)) 5 (wd X 5)) 6 (wd X 6)) 7 (wd X 7) = X := by
  obtain ⟨l, hl⟩ := X
  match l, hl with
  | [a, b, c, d, e, f, g, k], _ => rfl

theorem round_wd (w k : Ws 64) (i : Nat) (v : Ws 8) :
    wd (roundW w k i v) 0 = t0 (wd v 7) (turnF (wd v 4) 6) (turnF (wd v 4) 11) (turnF (wd v 4) 25) (wd v 4) (wd v 5) (wd v 6) (wd k i) (wd w i) (turnF (wd v 0) 2) (turnF (wd v 0) 13) (turnF (wd v 0) 22) (wd v 0) (wd v 1) (wd v 2) (wd v 1) (wd v 2) ∧
    wd (roundW w k i v) 1 = wd v 0 ∧ wd (roundW w k i v) 2 = wd v 1 ∧ wd (roundW w k i v) 3 = wd v 2 ∧
    wd (roundW w k i v) 4 = t4 (wd v 3) (wd v 7) (turnF (wd v 4) 6) (turnF (wd v 4) 11) (turnF (wd v 4) 25) (wd v 4) (wd v 5) (wd v 6) (wd k i) (wd w i) ∧
    wd (roundW w k i v) 5 = wd v 4 ∧ wd (roundW w k i v) 6 = wd v 5 ∧ wd (roundW w k i v) 7 = wd v 6 := by
  unfold roundW
  refine ⟨?_, ?_, ?_, ?_, ?_, ?_, ?_, ?_⟩ <;> rw [wd_set, wd_set]
  · rw [if_pos ⟨rfl, by decide⟩]
  · rw [if_neg (by decide), if_neg (by decide), wd_shift _ _ (by decide) (by decide)]
  · rw [if_neg (by decide), if_neg (by decide), wd_shift _ _ (by decide) (by decide)]
  · rw [if_neg (by decide), if_neg (by decide), wd_shift _ _ (by decide) (by decide)]
  · rw [if_neg (by decide), if_pos ⟨rfl, by decide⟩, wd_shift _ _ (by decide) (by decide)]
  · rw [if_neg (by decide), if_neg (by decide), wd_shift _ _ (by decide) (by decide)]
  · rw [if_neg (by decide), if_neg (by decide), wd_shift _ _ (by decide) (by decide)]
  · rw [if_neg (by decide), if_neg (by decide), wd_shift _ _ (by decide) (by decide)]

set_option maxHeartbeats 1000000 in
theorem block_spec {w0 : Ws 8} {bs : List UInt8} (hl : bs.length = 64) (hr : ∀ h', Ext h h' → R (TV.words .u32 8 (takeF w0 bs)).val h') : CallsH Try.prog 58 (TVs.vals [.words .u32 8 w0, .words .u32 64 keysW, .str bs]) h R := by
  apply tollerref03_block_calls
  unfold tollerref03_block_vc
  refine newTV_in fun h1 v1 x1 s1 => newTV_in fun h2 v2 x2 s2 => newTV_in fun h3 v3 x3 s3 => newTV_in fun h4 v4 x4 s4 => ?_
  have va := ((v1.ext x2).ext x3).ext x4
  have vb := (v2.ext x3).ext x4
  have vc := v3.ext x4
  have x04 := ((x1.trans x2).trans x3).trans x4
  refine ⟨fun i hh => 0 ≤ i ∧ i ≤ 64 ∧ Only (· = h3.size) h4 hh ∧ ∃ w : Ws 64, Var 94 hh h3.size (.words .u32 64 w) ∧ Part w bs i.toNat, fun i _ => ((64 : Int) - i).toNat, ⟨Int.le_refl 0, by decide, Only.refl _ _, Ws.zero 64, v4, (fun j hj => absurd hj (by simp)), fun j _ => ?_⟩, ?_⟩
  · unfold wd Ws.zero
    simp only [List.getD_eq_getElem?_getD, List.getElem?_replicate]
    split <;> rfl
  rintro i h5 ⟨i0, i1, o5, w, v5, p1, p2⟩
  refine If.dec.2 ⟨fun hi => ?_, fun hi => ?_⟩
  · have hi1 : (i + 1).toNat = i.toNat + 1 := by omega
    have next : ∀ (hh : Heap) (w' : Ws 64), Only (· = h3.size) h4 hh → Var 94 hh h3.size (.words .u32 64 w') → (∀ j, j ≠ i.toNat → wd w' j = wd w j) → wd w' i.toNat = wd (layF bs) i.toNat →
        ((0 ≤ i + 1 ∧ i + 1 ≤ 64 ∧ Only (· = h3.size) h4 hh ∧ ∃ w : Ws 64, Var 94 hh h3.size (.words .u32 64 w) ∧ Part w bs (i + 1).toNat) ∧ ((64 : Int) - (i + 1)).toNat < ((64 : Int) - i).toNat) := by
      intro hh w' oh vh hn hw
      refine ⟨⟨by omega, by omega, oh, w', vh, fun j hj => ?_, fun j hj => ?_⟩, by omega⟩
      · by_cases hji : j = i.toNat
        · rw [hji]; exact hw
        · rw [hn j hji]; exact p1 j (by omega)
      · rw [hn j (by omega)]; exact p2 j (by omega)
    rw [wrap_i64 (n := i + 1) (by omega) (by omega)]
    refine If.dec.2 ⟨fun h16 => ?_, fun h16 => ?_⟩
    · -- four bytes make a word
      refine ⟨fun k hh => 0 ≤ k ∧ k ≤ 4 ∧ Only (· = h3.size) h4 hh ∧ ∃ w' : Ws 64, Var 94 hh h3.size (.words .u32 64 w') ∧ (∀ j, j ≠ i.toNat → wd w' j = wd w j) ∧ wd w' i.toNat = growN bs i.toNat k.toNat, fun k _ => ((4 : Int) - k).toNat,
        ⟨Int.le_refl 0, by decide, o5, w, v5, (fun j _ => rfl), p2 _ (Nat.le_refl _)⟩, ?_⟩
      rintro k h6 ⟨k0, k1, o6, w', v6, q1, q2⟩
      refine If.dec.2 ⟨fun hk => ?_, fun hk => ?_⟩
      · rw [wrap_i64 (n := 4 * i) (by omega) (by omega), wrap_i64 (n := 4 * i + k) (by omega) (by omega), wrap_i64 (n := k + 1) (by omega) (by omega)]
        refine ⟨i0, by omega, _, word_at v6 (by omega), by omega, by omega, i0, by omega, put_word v6 (i := i.toNat) (by omega) (by omega) fun h7 v7 o7 s7 => ?_⟩
        refine ⟨⟨by omega, by omega, o6.trans o7, _, v7, fun j hj => ?_, ?_⟩, by first | omega | (dsimp only; omega)⟩
        · rw [wd_set, if_neg (fun hx => hj hx.1.symm)]; exact q1 j hj
        · rw [wd_set, if_pos ⟨rfl, by omega⟩, q2]
          have t0' : (4 * i + k).toNat = 4 * i.toNat + k.toNat := by omega
          have t1' : (k + 1).toNat = k.toNat + 1 := by omega
          rw [t0', t1']
          rfl
      · have hk4 : k.toNat = 4 := by omega
        rw [hk4] at q2
        refine next h6 w' o6 v6 q1 ?_
        rw [q2, lay_low bs i.toNat (by omega)]
        exact grow4 _ _ _ _
    · rw [wrap_i64 (n := i - 15) (by omega) (by omega), wrap_i64 (n := i - 2) (by omega) (by omega), wrap_i64 (n := i - 16) (by omega) (by omega), wrap_i64 (n := i - 7) (by omega) (by omega)]
      have e15 : (i - 15).toNat = i.toNat - 15 := by omega
      have e2 : (i - 2).toNat = i.toNat - 2 := by omega
      have e16 : (i - 16).toNat = i.toNat - 16 := by omega
      have e7 : (i - 7).toNat = i.toNat - 7 := by omega
      rw [e15, e2, e16, e7]
      refine ⟨by omega, by omega, _, word_at v5 (by omega), by omega, by omega, _, word_at v5 (by omega), by omega, by omega, _, word_at v5 (by omega), by omega, by omega, _, word_at v5 (by omega), by decide, by decide, ?_⟩
      refine right_spec ⟨_, rfl, Ext.refl _, right_spec ⟨_, rfl, Ext.refl _, right_spec ⟨_, rfl, Ext.refl _, right_spec ⟨_, rfl, Ext.refl _, ?_⟩⟩⟩⟩
      refine ⟨i0, by omega, put_word v5 (i := i.toNat) (by omega) (by omega) fun h6 v6 o6 s6 => ?_⟩
      refine next h6 _ (o5.trans o6) v6 (fun j hj => by rw [wd_set, if_neg (fun hx => hj hx.1.symm)]) ?_
      rw [wd_set, if_pos ⟨rfl, by omega⟩, lay_high bs i.toNat (by omega) (by omega), ex_turned _ _ _ _ _ _ _ _ _ _ rfl rfl]
      unfold exAt
      rw [p1 _ (by omega), p1 _ (by omega), p1 _ (by omega), p1 _ (by omega), right7, right18, right17, right19]
  · have hw : w = layF bs := ws_eq fun j hj => p1 j (by omega)
    subst hw
    have va5 : Var 90 h5 h.size (.words .u32 8 w0) := va.only o5 (by omega)
    have vb5 : Var 94 h5 h1.size (.words .u32 64 keysW) := vb.only o5 (by omega)
    have vc5 : Var 90 h5 h2.size (.words .u32 8 (Ws.zero 8)) := vc.only o5 (by omega)
    refine ⟨by decide, by decide, _, word_at va5 (by decide), by decide, by decide, _, word_at va5 (by decide), by decide, by decide, _, word_at va5 (by decide), by decide, by decide, _, word_at va5 (by decide), by decide, by decide, _, word_at va5 (by decide),
      by decide, by decide, _, word_at va5 (by decide), by decide, by decide, _, word_at va5 (by decide), by decide, by decide, _, word_at va5 (by decide), ?_⟩
    refine ⟨fun σ hh => hh = h5 ∧ 0 ≤ σ.2.2.2.2.2.2.2.2 ∧ σ.2.2.2.2.2.2.2.2 ≤ 64 ∧ ∃ V : Ws 8, V = roundsW (layF bs) keysW w0 σ.2.2.2.2.2.2.2.2.toNat ∧ σ.1 = wd V 0 ∧ σ.2.1 = wd V 1 ∧ σ.2.2.1 = wd V 2 ∧ σ.2.2.2.1 = wd V 3 ∧ σ.2.2.2.2.1 = wd V 4 ∧ σ.2.2.2.2.2.1 = wd V 5 ∧ σ.2.2.2.2.2.2.1 = wd V 6 ∧ σ.2.2.2.2.2.2.2.1 = wd V 7,
      fun σ _ => ((64 : Int) - σ.2.2.2.2.2.2.2.2).toNat, ⟨rfl, Int.le_refl 0, (by decide : (0 : Int) ≤ 64), w0, rfl, rfl, rfl, rfl, rfl, rfl, rfl, rfl, rfl⟩, ?_⟩
    rintro ⟨a, b, c, d, e, f, g, k, j⟩ hh ⟨hhe, j0, j1, V, hV, ha, hb, hc, hd, he, hf, hg, hk⟩
    obtain rfl := hhe.symm
    dsimp only at j0 j1 hV ha hb hc hd he hf hg hk ⊢
    subst ha hb hc hd he hf hg hk
    refine If.dec.2 ⟨fun hj => ?_, fun hj => ?_⟩
    · rw [wrap_i64 (n := j + 1) (by omega) (by omega)]
      refine ⟨j0, by omega, _, word_at vb5 (by omega), j0, by omega, _, word_at v5 (by omega), ?_⟩
      refine right_spec ⟨_, rfl, Ext.refl _, right_spec ⟨_, rfl, Ext.refl _, right_spec ⟨_, rfl, Ext.refl _, right_spec ⟨_, rfl, right_spec ⟨_, rfl, right_spec ⟨_, rfl, ?_⟩⟩⟩⟩⟩⟩
      have hj1 : (j + 1).toNat = j.toNat + 1 := by omega
      obtain ⟨r0, r1, r2, r3, r4, r5, r6, r7⟩ := round_wd (layF bs) keysW j.toNat V
      refine ⟨⟨by trivial, by first | omega | (dsimp only; omega), by first | omega | (dsimp only; omega), roundW (layF bs) keysW j.toNat V, ?_, ?_, ?_, ?_, ?_, ?_, ?_, ?_, ?_⟩, by first | omega | (dsimp only; omega)⟩
      · rw [hj1, roundsW, ← hV]
      · rw [r0, ← right6, ← right11, ← right25, ← right2, ← right13, ← right22]; rfl
      · exact r1.symm
      · exact r2.symm
      · exact r3.symm
      · rw [r4, ← right6, ← right11, ← right25]; rfl
      · exact r5.symm
      · exact r6.symm
      · exact r7.symm
    · have hj2 : j.toNat = 64 := by omega
      rw [hj2] at hV
      refine ⟨by decide, by decide, _, word_at va5 (by decide), by decide, by decide, _, word_at va5 (by decide), by decide, by decide, _, word_at va5 (by decide), by decide, by decide, _, word_at va5 (by decide), by decide, by decide, _, word_at va5 (by decide),
        by decide, by decide, _, word_at va5 (by decide), by decide, by decide, _, word_at va5 (by decide), by decide, by decide, _, word_at va5 (by decide), ?_⟩
      have e8 := eight (takeF w0 bs)
      have sw : ∀ j, j < 8 → wd (takeF w0 bs) j = IntKind.wrap .u32 (wd w0 j + wd V j) := fun j hj => by
        unfold takeF
        rw [sum_wd _ _ 8 j (Nat.le_refl _), if_pos hj, hV]
      rw [sw 0 (by decide), sw 1 (by decide), sw 2 (by decide), sw 3 (by decide), sw 4 (by decide), sw 5 (by decide), sw 6 (by decide), sw 7 (by decide)] at e8
      have x05 : Ext h h5 := Only.cut x04 o5 fun i hi => by omega
      have fin : ∀ X : Ws 8, X = takeF w0 bs → wok h5 h2.size 0 8 ∧ Bind (TV.put h5 h2.size 0 (TV.words .u32 8 X)) fun hh => ∃ w : Ws 8, atWords hh h2.size 0 .u32 8 w ∧ R (TV.words .u32 8 w).val hh := by
        intro X hX
        subst hX
        exact put_in vc5 (t := .words .u32 8 (takeF w0 bs)) wsz fun h6 v6 o6 s6 => ⟨_, v6.at, hr h6 (Only.cut x05 o6 fun i hi => by omega)⟩
      exact fin _ e8

end
end Go.Proofs.Ytgdhddignbkloaa.Board
