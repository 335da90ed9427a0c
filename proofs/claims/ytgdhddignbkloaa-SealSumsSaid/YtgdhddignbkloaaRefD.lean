/- The document's digest of any text, block by block. -/
import Derived.Test.YtgdhddignbkloaaRefC
namespace Go.Proofs.Ytgdhddignbkloaa.Board
open Go Go.Vc

def padK (n : Nat) : Nat := (119 - n % 64) % 64

def rlens (n : Int) : Nat → List UInt8
  | 0 => []
  | m + 1 => rlens n m ++ [UInt8.ofNat (IntKind.wrap .u8 (Int.fdiv (IntKind.wrap .u64 (IntKind.wrap .u64 n * 8)) ((2 : Int) ^ min (Int.toNat (IntKind.wrap .u64 (IntKind.wrap .i64 (8 * (7 - (m : Int)))))) (IntKind.bits .u64)))).toNat]

def padF (s : List UInt8) : List UInt8 := ((s ++ [128]) ++ List.replicate (padK s.length) 0) ++ rlens (s.length : Int) 8

def foldP (t : List UInt8) (w : Ws 8) : Nat → Ws 8
  | 0 => w
  | n + 1 => takeF (foldP t w n) ((t.drop (64 * n)).take 64)

/-- The document's digest. -/
def docF (s : List UInt8) : Bs 32 := outF (foldP (padF s) firstW ((padF s).length / 64)) 8

theorem rlens_length (n : Int) : ∀ m, (rlens n m).length = m
  | 0 => rfl
  | m + 1 => by simp [rlens, rlens_length n m]

theorem padF_length (s : List UInt8) : (padF s).length = s.length + 1 + padK s.length + 8 := by
  unfold padF
  rw [List.length_append, List.length_append, List.length_append, rlens_length]
  simp

theorem padF_mod (s : List UInt8) : (padF s).length % 64 = 0 := by
  rw [padF_length]
  unfold padK
  omega

def rb (w : Ws 8) (i : Nat) : UInt8 := if i % 4 = 3 then UInt8.ofNat (IntKind.wrap .u8 (wd w (i / 4))).toNat else UInt8.ofNat (ob (wd w (i / 4)) (24 - 8 * ((i % 4 : Nat) : Int))).toNat

def rout (w : Ws 8) : Nat → Bs 32
  | 0 => Bs.zero 32
  | i + 1 => (rout w i).set i (rb w i)

theorem rout_out (w : Ws 8) : rout w 32 = outF w 8 := by kernel_rfl

theorem byte_exp : ∀ i : Fin 32, min (Int.toNat (IntKind.wrap .u64 (IntKind.wrap .i64 (24 - IntKind.wrap .i64 (8 * Int.tmod ((i.val : Nat) : Int) 4))))) (IntKind.bits .u32) = 24 - 8 * (i.val % 4) := by decide +kernel
theorem ob_exp : ∀ i : Fin 32, min (Int.toNat (24 - 8 * ((i.val % 4 : Nat) : Int))) (IntKind.bits .u32) = 24 - 8 * (i.val % 4) := by decide +kernel

theorem rb_eq (w : Ws 8) (i : Nat) (hi : i < 32) : rb w i = UInt8.ofNat (IntKind.wrap .u8 (Int.fdiv (wd w (i / 4)) ((2 : Int) ^ min (Int.toNat (IntKind.wrap .u64 (IntKind.wrap .i64 (24 - IntKind.wrap .i64 (8 * Int.tmod (i : Int) 4))))) (IntKind.bits .u32)))).toNat := by
  have e1 := byte_exp ⟨i, hi⟩
  have e2 := ob_exp ⟨i, hi⟩
  dsimp only at e1 e2
  rw [e1]
  unfold rb ob
  rw [e2]
  split
  · rename_i h3
    rw [h3]
    have : Int.fdiv (wd w (i / 4)) ((2 : Int) ^ (24 - 8 * 3)) = wd w (i / 4) := by
      show Int.fdiv (wd w (i / 4)) 1 = wd w (i / 4)
      exact Int.fdiv_one _
    rw [this]
  · rfl

section
variable {R : Value → Heap → Prop} {h : Heap}

theorem str1 {h : Heap} {c : Int} (c0 : 0 ≤ c) (c1 : c < 256) : strAt (h.push (row (TVs.cells [TV.int .u8 c]) 5)) (Sl.mk (some (Vc.Loc.mk h.size 0)) 1 1) [UInt8.ofNat c.toNat] := by
  refine ⟨rfl, .inr ⟨_, rfl, fun j hj => ?_⟩⟩
  have hj0 : j = 0 := by simpa using hj
  subst hj0
  have hg := push_get h (row (TVs.cells [TV.int .u8 c]) 5)
  have := at1_row (o := 0) hg (v := Value.int .u8 c) rfl
  unfold at1 at this
  rw [this]
  have e : ((UInt8.ofNat c.toNat).toNat : Int) = c := by
    rw [UInt8.toNat_ofNat']
    omega
  show some (Value.int .u8 c) = some (Value.int .u8 ((UInt8.ofNat c.toNat).toNat : Int))
  rw [e]

theorem filled {n : Nat} {W : Ws n} {l : List Int} (hl : l.length = n) (h : ∀ j x, l[j]? = some x → wd W j = x) : W.l = l := by
  apply List.ext_getElem (by rw [W.h, hl])
  intro j h1 h2
  have := h j l[j] (List.getElem?_eq_getElem h2)
  unfold wd at this
  rw [← this]
  simp [List.getD_eq_getElem?_getD, h1]

set_option maxRecDepth 100000 in
set_option maxHeartbeats 1000000 in
theorem docof_spec {s : List UInt8} (hs : s.length < 100000) (hr : ∀ h', Ext h h' → R (TV.bytes 32 (docF s)).val h') : CallsH Try.prog 43 (TVs.vals [.str s]) h R := by
  apply tollerref03_Of_calls
  unfold tollerref03_Of_vc
  refine newTV_in fun h1 v1 x1 s1 => ⟨by show ((s.length + 1 : Nat) : Int) ≤ _; omega, ?_⟩
  have hpk : padK s.length < 64 := by unfold padK; omega
  refine ⟨fun t hh => hh = h1 ∧ ∃ k, k ≤ padK s.length ∧ t = (s ++ [128]) ++ List.replicate k 0, fun t _ => s.length + 200 - t.length, ⟨rfl, 0, Nat.zero_le _, by simp⟩, ?_⟩
  rintro t hh ⟨hhe, k, hk, rfl⟩
  obtain rfl := hhe.symm
  have htl : ((s ++ [128]) ++ List.replicate k (0 : UInt8)).length = s.length + 1 + k := by simp; omega
  refine ⟨by decide, If.split (fun hb => ?_) fun hb => ?_⟩
  · have hne : ¬ Int.tmod (((s ++ [128]) ++ List.replicate k (0 : UInt8)).length : Int) 64 = 56 := by simpa using hb
    rw [htl, Int.tmod_eq_emod_of_nonneg (by omega)] at hne
    have hk' : k ≠ padK s.length := fun e => hne (by rw [e]; unfold padK; omega)
    have hone : List.length (ByteArray.mk #[(0 : UInt8)]).data.toList = 1 := rfl
    refine ⟨by rw [hone]; have htl2 := htl; omega, ⟨by trivial, k + 1, by omega, ?_⟩, ?_⟩
    · show ((s ++ [128]) ++ List.replicate k 0) ++ [0] = _
      rw [List.replicate_succ', List.append_assoc]
    · show s.length + 200 - (((s ++ [128]) ++ List.replicate k (0 : UInt8)) ++ [0]).length < s.length + 200 - ((s ++ [128]) ++ List.replicate k (0 : UInt8)).length
      rw [List.length_append, htl, List.length_singleton]
      omega
  have heq : Int.tmod (((s ++ [128]) ++ List.replicate k (0 : UInt8)).length : Int) 64 = 56 := by simpa using hb
  rw [htl, Int.tmod_eq_emod_of_nonneg (by omega)] at heq
  have hkk : k = padK s.length := by unfold padK at hk ⊢; omega
  subst hkk
  have hbase : padF s = ((s ++ [128]) ++ List.replicate (padK s.length) 0) ++ rlens (s.length : Int) 8 := rfl
  generalize (s ++ [128]) ++ List.replicate (padK s.length) (0 : UInt8) = base at *
  refine ⟨fun σ hh => ∃ m : Nat, m ≤ 8 ∧ σ.2 = 7 - (m : Int) ∧ σ.1 = base ++ rlens (s.length : Int) m ∧ Ext h1 hh, fun σ _ => (σ.2 + 1).toNat, ⟨0, by decide, rfl, by simp [rlens], Ext.refl _⟩, ?_⟩
  rintro ⟨t, kk⟩ h2 ⟨m, hm, hk2, ht, x2⟩
  dsimp only at hk2 ht ⊢
  subst hk2 ht
  refine If.dec.2 ⟨fun h0 => ?_, fun h0 => ?_⟩
  · have hw := wrap_u8_range (Int.fdiv (IntKind.wrap .u64 (IntKind.wrap .u64 (s.length : Int) * 8)) ((2 : Int) ^ min (Int.toNat (IntKind.wrap .u64 (IntKind.wrap .i64 (8 * (7 - (m : Int)))))) (IntKind.bits .u64)))
    rw [wrap_i64 (n := 7 - (m : Int) - 1) (by omega) (by omega)]
    refine ⟨wrap_u64_nonneg _, _, str1 hw.1 hw.2, ?_, ⟨m + 1, by omega, by first | omega | (dsimp only; omega), ?_, x2.trans (Ext.push _ _)⟩, by first | omega | (dsimp only; omega)⟩
    · rw [List.length_append, rlens_length, htl, List.length_singleton]
      omega
    · show (base ++ rlens (s.length : Int) m) ++ _ = base ++ rlens (s.length : Int) (m + 1)
      rw [rlens, List.append_assoc]
  have hm8 : m = 8 := by omega
  subst hm8
  rw [← hbase]
  have hmod := padF_mod s
  have hpl := padF_length s
  generalize hT : padF s = T at *
  have x12 := x1.trans x2
  refine newTV_in fun h3 v3 x3 s3 => primes_spec 18 (by decide) (fun j hj => ?_) (by rw [p8.2]; decide) fun h4 sl4 o4 x4 => ⟨_, rfl, ?_⟩
  · have := genL_mono j 17 (by omega)
    rw [p8.1] at this
    omega
  have l4 := o4.len
  rw [List.length_map, p8.2] at l4
  have v4 := v3.ext x4
  refine ⟨fun i hh => 0 ≤ i ∧ i ≤ 8 ∧ Only (· = h2.size) h4 hh ∧ ∃ W : Ws 8, Var 90 hh h2.size (.words .u32 8 W) ∧ ∀ j x, j < i.toNat → (genL 18)[j]? = some x → wd W j = rootF x 2, fun i _ => ((8 : Int) - i).toNat,
    ⟨Int.le_refl 0, by decide, Only.refl _ _, _, v4, fun j x hj => absurd hj (by simp)⟩, ?_⟩
  rintro i h5 ⟨i0, i1, f5, W, v5, hW⟩
  have sep4 : ∀ l, sl4.a = some l → l.b ≠ h2.size := fun l hl => by
    intro he
    rcases o4.row with hn | ⟨b, rest, ha, hb, _⟩
    · rw [hn] at hl; cases hl
    · rw [ha] at hl
      cases hl
      have : b = h2.size := he
      subst this
      have hv : h4[h2.size]? = _ := v4
      rw [hb] at hv
      injection hv with hv
      unfold row at hv
      injection hv with _ h9
      exact absurd h9 (by decide)
  have o5 := o4.only f5 sep4
  refine If.dec.2 ⟨fun hi => ?_, fun hi => ?_⟩
  · rw [wrap_i64 (n := i + 1) (by omega) (by omega)]
    refine read_u64 o5.elems i0 (by rw [p8.2]; omega) fun x hx => root_spec ⟨_, rfl, i0, by omega, put_word v5 (i := i.toNat) (by omega) (by omega) fun h6 v6 f6 s6 => ?_⟩
    have hi1 : (i + 1).toNat = i.toNat + 1 := by omega
    refine ⟨⟨by omega, by omega, f5.trans f6, _, v6, fun j y hj hy => ?_⟩, by first | omega | (dsimp only; omega)⟩
    rw [wd_set]
    by_cases hji : i.toNat = j
    · subst hji
      rw [if_pos ⟨rfl, by omega⟩]
      rw [hx] at hy
      injection hy with hy
      rw [hy]
    · rw [if_neg (fun he => hji he.1)]
      exact hW j y (by omega) hy
  have hi8 : i = 8 := by omega
  subst hi8
  have hWf : W = firstW := by
    apply Ws.ext'
    rw [← firsts]
    refine filled (by rw [List.length_map, p8.2]) fun j x hx => ?_
    rw [List.getElem?_map] at hx
    obtain ⟨y, hy, rfl⟩ := Option.map_eq_some_iff.1 hx
    have hj := (List.getElem?_eq_some_iff.1 hy).1
    rw [p8.2] at hj
    exact hW j y (by simpa using hj) hy
  subst hWf
  have q25 : h2.size < h5.size := v5.lt
  have x25 : Ext h2 h5 := Only.cut (x3.trans x4) f5 fun i hi => by omega
  have z25 := x25.size
  refine newTV_in fun h6 v6 x6 s6 => primes_spec 310 (by decide) (fun j hj => ?_) (by rw [p64.2]; decide) fun h7 sl7 o7 x7 => ⟨_, rfl, ?_⟩
  · have := genL_mono j 309 (by omega)
    rw [p64.1] at this
    omega
  have l7 := o7.len
  rw [List.length_map, p64.2] at l7
  have v7 := v6.ext x7
  have v57 : Var 90 h7 h2.size (.words .u32 8 firstW) := (v5.ext x6).ext x7
  refine ⟨fun i hh => 0 ≤ i ∧ i ≤ 64 ∧ Only (· = h5.size) h7 hh ∧ ∃ W : Ws 64, Var 94 hh h5.size (.words .u32 64 W) ∧ ∀ j x, j < i.toNat → (genL 310)[j]? = some x → wd W j = rootF x 3, fun i _ => ((64 : Int) - i).toNat,
    ⟨Int.le_refl 0, by decide, Only.refl _ _, _, v7, fun j x hj => absurd hj (by simp)⟩, ?_⟩
  rintro i h8 ⟨i0, i1, f8, W, v8, hW⟩
  have sep7 : ∀ l, sl7.a = some l → l.b ≠ h5.size := fun l hl => by
    intro he
    rcases o7.row with hn | ⟨b, rest, ha, hb, _⟩
    · rw [hn] at hl; cases hl
    · rw [ha] at hl
      cases hl
      have : b = h5.size := he
      subst this
      have hv : h7[h5.size]? = _ := v7
      rw [hb] at hv
      injection hv with hv
      unfold row at hv
      injection hv with _ h9
      exact absurd h9 (by decide)
  have o8 := o7.only f8 sep7
  refine If.dec.2 ⟨fun hi => ?_, fun hi => ?_⟩
  · rw [wrap_i64 (n := i + 1) (by omega) (by omega)]
    refine read_u64 o8.elems i0 (by rw [p64.2]; omega) fun x hx => root_spec ⟨_, rfl, i0, by omega, put_word v8 (i := i.toNat) (by omega) (by omega) fun h9 v9 f9 s9 => ?_⟩
    have hi1 : (i + 1).toNat = i.toNat + 1 := by omega
    refine ⟨⟨by omega, by omega, f8.trans f9, _, v9, fun j y hj hy => ?_⟩, by first | omega | (dsimp only; omega)⟩
    rw [wd_set]
    by_cases hji : i.toNat = j
    · subst hji
      rw [if_pos ⟨rfl, by omega⟩]
      rw [hx] at hy
      injection hy with hy
      rw [hy]
    · rw [if_neg (fun he => hji he.1)]
      exact hW j y (by omega) hy
  have hi64 : i = 64 := by omega
  subst hi64
  have hWk : W = keysW := by
    apply Ws.ext'
    rw [← keysR]
    refine filled (by rw [List.length_map, p64.2]) fun j x hx => ?_
    rw [List.getElem?_map] at hx
    obtain ⟨y, hy, rfl⟩ := Option.map_eq_some_iff.1 hx
    have hj := (List.getElem?_eq_some_iff.1 hy).1
    rw [p64.2] at hj
    exact hW j y (by simpa using hj) hy
  subst hWk
  have v28 : Var 90 h8 h2.size (.words .u32 8 firstW) := v57.only f8 (by omega)
  have x58 : Ext h5 h8 := Only.cut (x6.trans x7) f8 fun i hi => by omega
  refine ⟨fun at_ hh => ∃ n : Nat, 64 * n ≤ T.length ∧ at_ = ((64 * n : Nat) : Int) ∧ Var 90 hh h2.size (.words .u32 8 (foldP T firstW n)) ∧ Only (· = h2.size) h8 hh, fun at_ _ => ((T.length : Int) - at_).toNat, ⟨0, Nat.zero_le _, rfl, v28, Only.refl _ _⟩, ?_⟩
  rintro at_ h9 ⟨n, hn, rfl, v9, f9⟩
  have v59 : Var 94 h9 h5.size (.words .u32 64 keysW) := v8.only f9 (by omega)
  refine If.dec.2 ⟨fun hi => ?_, fun hi => ?_⟩
  · rw [wrap_i64 (n := ((64 * n : Nat) : Int) + 64) (by omega) (by omega)]
    refine ⟨_, v9.at, _, v59.at, by omega, by omega, by omega, by omega, ?_⟩
    have hcut : List.take ((((64 * n : Nat) : Int) + 64).toNat - ((64 * n : Nat) : Int).toNat) (List.drop ((64 * n : Nat) : Int).toNat T) = (T.drop (64 * n)).take 64 := by
      have e1 : (((64 * n : Nat) : Int) + 64).toNat - ((64 * n : Nat) : Int).toNat = 64 := by omega
      rw [e1, Int.toNat_natCast]
    rw [hcut]
    refine block_spec (by rw [List.length_take, List.length_drop]; omega) fun h10 x10 => ⟨_, rfl, ?_⟩
    refine put_in (v9.ext x10) (t := .words .u32 8 (foldP T firstW (n + 1))) wsz fun h11 v11 f11 s11 => ?_
    have hb9 := v9.lt
    refine ⟨⟨n + 1, by omega, by omega, v11, f9.trans ((Only.of_ext x10).trans f11)⟩, by first | omega | (dsimp only; omega)⟩
  have hn2 : n = T.length / 64 := by omega
  rw [hn2] at v9
  have z9 := f9.size
  have hb9 := v9.lt
  have hlt2 : h.size < h2.size := by have := x2.size; omega
  refine newTV_in fun h10 v10 x10 s10 => ?_
  refine ⟨fun i hh => 0 ≤ i ∧ i ≤ 32 ∧ Only (· = h9.size) h10 hh ∧ Var 26 hh h9.size (.bytes 32 (rout (foldP T firstW (T.length / 64)) i.toNat)), fun i _ => ((32 : Int) - i).toNat, ⟨Int.le_refl 0, by decide, Only.refl _ _, v10⟩, ?_⟩
  rintro i h11 ⟨i0, i1, f11, v11⟩
  have v911 : Var 90 h11 h2.size (.words .u32 8 (foldP T firstW (T.length / 64))) := (v9.ext x10).only f11 (by omega)
  refine If.dec.2 ⟨fun hi => ?_, fun hi => ?_⟩
  · have hq : Int.tdiv i 4 = i / 4 := Int.tdiv_eq_ediv_of_nonneg i0
    have hq2 : (i / 4).toNat = i.toNat / 4 := by omega
    rw [wrap_i64 (n := i + 1) (by omega) (by omega), hq, wrap_i64 (n := i / 4) (by omega) (by omega), hq2]
    refine ⟨by decide, by omega, by omega, _, word_at v911 (by omega), by decide, wrap_u64_nonneg _, i0, by omega, ?_⟩
    have hw := wrap_u8_range (Int.fdiv (wd (foldP T firstW (T.length / 64)) (i.toNat / 4)) ((2 : Int) ^ min (Int.toNat (IntKind.wrap .u64 (IntKind.wrap .i64 (24 - IntKind.wrap .i64 (8 * Int.tmod i 4))))) (IntKind.bits .u32)))
    refine put_byte v11 (i := i.toNat) (by omega) (by omega) hw.1 hw.2 fun h12 v12 f12 s12 => ?_
    have hi1 : (i + 1).toNat = i.toNat + 1 := by omega
    refine ⟨⟨by omega, by omega, f11.trans f12, ?_⟩, by first | omega | (dsimp only; omega)⟩
    rw [hi1, rout, rb_eq _ _ (by omega)]
    have hcast : ((i.toNat : Nat) : Int) = i := by omega
    rw [hcast]
    exact v12
  have hi32 : i.toNat = 32 := by omega
  rw [hi32, rout_out] at v11
  have x911 : Ext h9 h11 := Only.cut x10 f11 fun i hi => by omega
  have x28 := x25.trans x58
  have v1' : Var 26 h11 h.size (.bytes 32 (Bs.zero 32)) := ((((v1.ext x2).ext x28).only f9 (by omega)).ext x911)
  have hdoc : docF s = outF (foldP T firstW (T.length / 64)) 8 := by unfold docF; rw [hT]
  refine ⟨_, v11.bytes, put_in v1' (t := .bytes 32 (outF (foldP T firstW (T.length / 64)) 8)) bsz fun h12 v12 f12 s12 => ⟨_, v12.bytes, ?_⟩⟩
  rw [← hdoc]
  refine hr h12 ?_
  have x09 : Ext h h9 := Only.cut (x12.trans x28) f9 fun i hi => by omega
  exact Only.cut (x09.trans x911) f12 fun i hi => by omega

end
end Go.Proofs.Ytgdhddignbkloaa.Board
