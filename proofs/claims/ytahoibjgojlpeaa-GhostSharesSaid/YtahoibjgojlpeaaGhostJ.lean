/- The first block weighs all shares behind blocks that are there; no block less than one below it. -/
import Derived.Test.YtahoibjgojlpeaaGhostI
import Derived.Test.YtahoibjgojlpeaaVsGhostU
namespace Go.Proofs.Ytahoibjgojlpeaa.Ghost
open Go Go.Vc

section
variable {ps ts ks : List Int}

def parN (ps : List Int) (i : Nat) : Nat := parIdx ps (i - 1)

theorem bl_get {i : Nat} (hi : i < ps.length) : (plainDoc ps ts ks).bl[i + 1]? = some (nameN (i + 1), nameN (parIdx ps i)) := bl_at (roots_at (by omega)) (pars_at hi)
theorem bl_get0 : (plainDoc ps ts ks).bl[0]? = some (nameN 0, Bs.zero 32) := bl_at (roots_at (by omega)) (by simp [plainDoc])

theorem root_plain {i : Nat} (hi : i < ps.length + 1) : rootAt (plainDoc ps ts ks).bl i = (nameN i).l := by
  cases i with
  | zero => exact rootAt_of bl_get0
  | succ i => exact rootAt_of (bl_get (by omega))

theorem par_plain {i : Nat} (hi : i < ps.length) : parAt (plainDoc ps ts ks).bl (i + 1) = (nameN (parIdx ps i)).l := parAt_of (bl_get hi)

theorem nameN_inj {a b : Nat} (ha : a < 256) (hb : b < 256) (h : (nameN a).l = (nameN b).l) : a = b := by
  unfold nameN at h
  have := name_mod h
  omega

theorem plain_tree (hl : ps.length < 255) : Tree (plainDoc ps ts ks).bl (parN ps) := by
  obtain ⟨_, _, _, l4⟩ := plain_lens ps ts ks
  refine ⟨fun i h0 _ => ?_, fun k i hk hi => ?_, fun i j hi hj h => ?_⟩
  · have := parIdx_le ps (i - 1)
    unfold parN
    omega
  · cases i with
    | zero => simp [kid]
    | succ i =>
      have hp := parIdx_le ps i
      simp only [kid, Bool.and_eq_true, decide_eq_true_eq]
      rw [par_plain (by omega), root_plain (by omega)]
      have e : parN ps (i + 1) = parIdx ps i := rfl
      rw [e]
      constructor
      · rintro ⟨_, h⟩
        exact ⟨by omega, nameN_inj (by omega) (by omega) h⟩
      · rintro ⟨_, h⟩
        exact ⟨by omega, by rw [h]⟩
  · rw [root_plain (by omega), root_plain (by omega)] at h
    exact nameN_inj (by omega) (by omega) h

theorem bl_names : (plainDoc ps ts ks).bl.map (fun x => x.1.l) = bytesOf (plainDoc ps ts ks).roots := by
  obtain ⟨l1, l2, _, _⟩ := plain_lens ps ts ks
  have : (plainDoc ps ts ks).bl.map (fun x => x.1) = (plainDoc ps ts ks).roots := List.map_fst_zip (by omega)
  unfold bytesOf
  rw [← this, List.map_map]
  rfl

theorem weightAt_plain (hl : ps.length < 255) (sh : List (Rt × Int)) {i : Nat} (hi : i < ps.length + 1) : weightAt (plainDoc ps ts ks).bl sh (nameN i).l = wgt (plainDoc ps ts ks).bl sh i := by
  unfold weightAt
  rw [bl_names]
  have := place_nameN (ts := ts) (ks := ks) hl hi
  unfold Doc.place at this
  rw [this, if_pos (by omega), Int.toNat_natCast]

theorem sh_nonneg (h : ∀ k ∈ ks, 0 ≤ k) : ∀ x ∈ (plainDoc ps ts ks).sh, 0 ≤ x.2 := fun x hx => by
  have : x.2 ∈ ks := by
    have := List.of_mem_zip (show (x.1, x.2) ∈ (plainDoc ps ts ks).tgs.zip ks from hx)
    exact this.2
  exact h _ this

theorem placed_le (bl : List (Rt × Rt)) : ∀ sh : List (Rt × Int), (∀ x ∈ sh, 0 ≤ x.2) → placed bl sh ≤ (sh.map fun x => x.2).sum
  | [], _ => by simp [placed]
  | x :: xs, h => by
    have ih := placed_le bl xs (fun y hy => h y (List.mem_cons_of_mem _ hy))
    have hx := h x (List.mem_cons_self ..)
    unfold placed at ih ⊢
    simp only [List.map_cons, List.sum_cons]
    split <;> omega

theorem sh_sum (h : ks.length = ts.length) : ((plainDoc ps ts ks).sh.map fun x => x.2).sum = ks.sum := by
  have : (plainDoc ps ts ks).sh.map (fun x => x.2) = ks := List.map_snd_zip (by simp [plainDoc]; omega)
  rw [this]

/-- What no weight is above. -/
theorem weight_range (hl : ps.length < 255) (hg : goodB ts ks = true) {i : Nat} (hi : i < ps.length + 1) :
    0 ≤ weightOf (plainDoc ps ts ks).bl (plainDoc ps ts ks).sh i ∧ weightOf (plainDoc ps ts ks).bl (plainDoc ps ts ks).sh i < 4611686018427387904 := by
  unfold goodB at hg
  simp only [Bool.and_eq_true, decide_eq_true_eq] at hg
  obtain ⟨⟨h1, h2⟩, h3⟩ := hg
  obtain ⟨_, _, _, l4⟩ := plain_lens ps ts ks
  have hn := sh_nonneg (ps := ps) (ts := ts) h1
  have ht := plain_tree (ts := ts) (ks := ks) hl
  refine ⟨weight_nonneg hn i, ?_⟩
  have a1 := weight_le ht hn i i (Nat.le_refl _) (by omega)
  have a2 := weight_all (sh := (plainDoc ps ts ks).sh) ht (by omega)
  have a3 := owns_placed ht (plainDoc ps ts ks).sh
  have a4 := placed_le (plainDoc ps ts ks).bl _ hn
  have a5 := sh_sum (ps := ps) h3
  omega

theorem wgt_plain (hl : ps.length < 255) (hg : goodB ts ks = true) {i : Nat} (hi : i < ps.length + 1) : wgt (plainDoc ps ts ks).bl (plainDoc ps ts ks).sh i = weightOf (plainDoc ps ts ks).bl (plainDoc ps ts ks).sh i := by
  have := weight_range hl hg hi
  unfold wgt
  rw [wrap_i64 (by omega) (by omega)]

end

section
variable {R : Value → Heap → Prop} {h : Heap}

theorem ghostSums_spec {sp st sk : Sl} {ps ts ks : List Int} (hp : Ints .i64 h sp ps) (ht : Ints .i64 h st ts) (hk : Ints .i64 h sk ks) (hr : ∀ h', Ext h h' → R (TV.bool true).val h') :
    CallsH Try.prog 10 (TVs.vals [.slice sp, .slice st, .slice sk]) h R := by
  apply tollerlaw20_GhostSums_calls
  refine alive_spec fun h1 x1 => ⟨_, rfl, If.no ?_⟩
  refine great_spec ⟨_, rfl, ?_⟩
  refine If.split (fun _ => hr _ x1) (fun hgr => ?_)
  have lp := hp.len
  have lt := ht.len
  have lk := hk.len
  simp only [Bool.or_eq_false_iff, decide_eq_false_iff_not, Bool.not_eq_false', decide_eq_true_eq] at hgr
  obtain ⟨g1, g2, g3⟩ := hgr
  have hl : ps.length < 255 := by omega
  refine plain_spec (hp.ext x1) (ht.ext x1) (hk.ext x1) (by omega) (by omega) (by omega) fun h2 A P T c x2 => ⟨A, P, T, sk, rfl, ?_⟩
  obtain ⟨w3, h3, e3, v3, x3, s3⟩ := newput_spec h2 (.agg [.slice Sl.nil, .slice Sl.nil, .slice Sl.nil, .slice Sl.nil]) (.agg [.slice A, .slice P, .slice T, .slice sk]) 41 rfl
  refine ⟨w3, ?_⟩
  rw [e3]
  have c3 := c.ext x3
  refine ⟨A, P, T, sk, ⟨v3.at1 rfl, v3.at1 rfl, v3.at1 rfl, v3.at1 rfl⟩, ?_⟩
  refine Good_spec hl hk.fit c3 fun h4 x4 => ⟨_, rfl, ?_⟩
  have xx4 := ((x1.trans x2).trans x3).trans x4
  refine If.split (fun _ => hr _ xx4) (fun hg => ?_)
  simp only [Bool.not_eq_false'] at hg
  have v4 := v3.ext x4
  have c4 := c3.ext x4
  obtain ⟨l1, l2, l3, l4⟩ := plain_lens ps ts ks
  have l5 : (plainDoc ps ts ks).sts.length = ks.length := rfl
  have l6 : (plainDoc ps ts ks).sh.length = ts.length := by simp [plainDoc, Doc.sh]; omega
  refine ⟨A, P, T, sk, ⟨v4.at1 rfl, v4.at1 rfl, v4.at1 rfl, v4.at1 rfl⟩, ?_⟩
  refine chain_spec c4 (by omega) (by omega) fun h5 B Z c5 x5 => ⟨B, Z, rfl, ?_⟩
  obtain ⟨w6, h6, e6, v6, x6, s6⟩ := newput_spec h5 (.agg [.slice Sl.nil, .slice Sl.nil]) (.agg [.slice B, .slice Z]) 46 rfl
  refine ⟨w6, ?_⟩
  rw [e6]
  have vm := (v4.ext x5).ext x6
  have cm := (c4.ext x5).ext x6
  have cc := c5.ext x6
  have xx6 := (xx4.trans x5).trans x6
  have hkm := hk.ext xx6
  have ht' := plain_tree (ts := ts) (ks := ks) hl
  have hall : wgt (plainDoc ps ts ks).bl (plainDoc ps ts ks).sh 0 = IntKind.wrap .i64 (placed (plainDoc ps ts ks).bl (plainDoc ps ts ks).sh) := by
    unfold wgt
    rw [weight_all ht' (by omega), owns_placed ht']
  have hbn := bl_names (ps := ps) (ts := ts) (ks := ks)
  have hup : ∀ i, i < ps.length → wgt (plainDoc ps ts ks).bl (plainDoc ps ts ks).sh (i + 1) ≤ wgt (plainDoc ps ts ks).bl (plainDoc ps ts ks).sh (parIdx ps i) := fun i hi => by
    have hq := parIdx_le ps i
    rw [wgt_plain hl hg (by omega), wgt_plain hl hg (by omega)]
    have hg' := hg
    unfold goodB at hg'
    simp only [Bool.and_eq_true, decide_eq_true_eq] at hg'
    exact weight_up ht' (sh_nonneg hg'.1.1) (by omega) (by omega)
  have hwa : ∀ i, i < ps.length + 1 → weightAt (plainDoc ps ts ks).bl (plainDoc ps ts ks).sh (nameN i).l = wgt (plainDoc ps ts ks).bl (plainDoc ps ts ks).sh i := fun i hi => weightAt_plain hl _ hi
  have hroot : ∀ i, i < ps.length + 1 → (plainDoc ps ts ks).roots[i]? = some (nameN i) := fun i hi => roots_at hi
  have hpar : ∀ i, i < ps.length → (plainDoc ps ts ks).pars[i + 1]? = some (nameN (parIdx ps i)) := fun i hi => pars_at hi
  have hst : (plainDoc ps ts ks).sts = ks := rfl
  have hzip : ∀ i t k, (plainDoc ps ts ks).tgs[i]? = some t → ks[i]? = some k → (plainDoc ps ts ks).sh[i]? = some (t, k) := fun i t k h1 h2 => by
    unfold Doc.sh
    rw [List.getElem?_zip_eq_some]
    exact ⟨h1, h2⟩
  have hpl : ∀ r, (plainDoc ps ts ks).place r = placeOf ((plainDoc ps ts ks).bl.map fun b => b.1.l) r.l := fun r => by rw [hbn]; rfl
  generalize plainDoc ps ts ks = d at *
  have lA := names_len cm.a
  have lP := names_len cm.p
  have lT := names_len cm.t
  refine ⟨T, vm.at1 rfl, ?_⟩
  let f := fun x : Rt × Int => if 0 ≤ placeOf (d.bl.map fun b => b.1.l) x.1.l then x.2 else 0
  refine ⟨fun s hh => 0 ≤ s.2 ∧ s.2 ≤ ts.length ∧ s.1 = IntKind.wrap .i64 ((d.sh.take s.2.toNat).map f).sum ∧ Ext h6 hh, fun s _ => ((ts.length : Int) - s.2).toNat, ⟨by simp, by simp, by simp; rfl, Ext.refl _⟩, ?_⟩
  rintro ⟨a, i⟩ hh ⟨i0, i1, ha, x⟩
  simp only at i0 i1 ha ⊢
  have vh := vm.ext x
  have ch := cm.ext x
  refine If.dec.2 ⟨fun hi => ?_, fun hi => ?_⟩
  · refine names_at ch.t i0 (by omega) fun l y hy hat => ⟨y, hat, ?_⟩
    obtain ⟨w7, h7, e7, v7, x7, s7⟩ := newput_spec hh (.bytes 32 (Bs.zero 32)) (.bytes 32 y) 37 rfl
    refine ⟨w7, ?_⟩
    rw [e7]
    have v7m := vh.ext x7
    refine ⟨A, P, T, sk, ⟨v7m.at1 rfl, v7m.at1 rfl, v7m.at1 rfl, v7m.at1 rfl⟩, y, v7.bytes, ?_⟩
    refine Place_spec (ch.ext x7) fun h8 x8 => ⟨_, rfl, ?_⟩
    obtain ⟨kk, hkk⟩ : ∃ kk, ks[i.toNat]? = some kk := ⟨_, List.getElem?_eq_getElem (by omega)⟩
    have hz := hzip _ _ _ hy hkk
    have hstep := take_succ_sum f d.sh i.toNat _ hz
    have hi' : (i + 1).toNat = i.toNat + 1 := by omega
    rw [wrap_i64 (n := i + 1) (by omega) (by omega), hpl]
    refine If.dec.2 ⟨fun h0 => ?_, fun h0 => ?_⟩
    · refine ⟨i0, by omega, ?_⟩
      refine (hkm.ext ((x.trans x7).trans x8)).read i0 (by omega) fun l' _ n _ hat' hn => ⟨n, hat', ?_⟩
      obtain rfl : kk = n := by rw [hkk] at hn; exact Option.some.inj hn
      refine ⟨⟨by omega, by omega, ?_, (x.trans x7).trans x8⟩, by omega⟩
      rw [hi', hstep, ha, wrap_add]
      simp only [f]
      rw [if_pos h0]
    · refine ⟨⟨by omega, by omega, ?_, (x.trans x7).trans x8⟩, by omega⟩
      rw [hi', hstep, ha]
      simp only [f]
      rw [if_neg h0, Int.add_zero]
  · have hi2 : i.toNat = d.sh.length := by omega
    rw [hi2, List.take_length] at ha
    have ha' : a = wgt d.bl d.sh 0 := by rw [ha, hall]; rfl
    have vc6 := v6.ext x
    refine ⟨fun s hh' => 1 ≤ s.2 ∧ s.2 ≤ ps.length + 1 ∧ Ext hh hh', fun s _ => ((ps.length + 1 : Int) - s.2).toNat, ⟨by simp, by simp; omega, Ext.refl _⟩, ?_⟩
    rintro ⟨u, j⟩ h7 ⟨j0, j1, x7⟩
    simp only at j0 j1 ⊢
    have v7 := vh.ext x7
    have c7 := ch.ext x7
    have vc7 := vc6.ext x7
    have cc7 := (cc.ext x).ext x7
    refine ⟨A, v7.at1 rfl, ?_⟩
    refine If.dec.2 ⟨fun hj => ?_, fun hj => ?_⟩
    · refine ⟨B, Z, ⟨vc7.at1 rfl, vc7.at1 rfl⟩, A, v7.at1 rfl, ?_⟩
      obtain ⟨q, hq⟩ : ∃ q, j.toNat = q + 1 := ⟨j.toNat - 1, by omega⟩
      refine names_at c7.a (i := j) (by omega) (by omega) fun l y hy hat => ⟨y, hat, ?_⟩
      obtain rfl : nameN (q + 1) = y := by rw [hq, hroot _ (by omega)] at hy; exact Option.some.inj hy
      refine ⟨B, Z, ⟨vc7.at1 rfl, vc7.at1 rfl⟩, P, v7.at1 rfl, ?_⟩
      refine names_at c7.p (i := j) (by omega) (by omega) fun l' y' hy' hat' => ⟨y', hat', ?_⟩
      have hqle := parIdx_le ps q
      obtain rfl : nameN (parIdx ps q) = y' := by rw [hq, hpar _ (by omega)] at hy'; exact Option.some.inj hy'
      refine Weight_spec cc7 fun h8 x8 => ⟨_, rfl, x8, ?_⟩
      refine Weight_spec (cc7.ext x8) fun h9 x9 => ⟨_, rfl, ?_⟩
      rw [hwa _ (by omega), hwa _ (by omega)]
      have := hup q (by omega)
      rw [wrap_i64 (n := j + 1) (by omega) (by omega)]
      exact If.dec.2 ⟨fun hx => by omega, fun _ => ⟨⟨by omega, by omega, (x7.trans x8).trans x9⟩, by omega⟩⟩
    · refine ⟨B, Z, ⟨vc7.at1 rfl, vc7.at1 rfl⟩, A, v7.at1 rfl, ?_⟩
      refine names_at c7.a (i := 0) (by omega) (by omega) fun l y hy hat => ⟨y, hat, ?_⟩
      obtain rfl : nameN 0 = y := by
        have := hroot 0 (by omega)
        simp only [Int.toNat_zero] at hy
        rw [this] at hy
        exact Option.some.inj hy
      refine Weight_spec cc7 fun h8 x8 => ⟨_, rfl, x8, ?_⟩
      rw [hwa _ (by omega), ← ha', decide_eq_true rfl]
      exact hr _ (((xx6.trans x).trans x7).trans x8)

end
end Go.Proofs.Ytahoibjgojlpeaa.Ghost
