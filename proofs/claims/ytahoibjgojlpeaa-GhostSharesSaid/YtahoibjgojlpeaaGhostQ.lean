/- The head has no children; with a block more behind it that one is the head. -/
import Derived.Test.YtahoibjgojlpeaaGhostP
import Derived.Test.YtahoibjgojlpeaaVsGhostX
namespace Go.Proofs.Ytahoibjgojlpeaa.Ghost
open Go Go.Vc

section
variable {R : Value → Heap → Prop} {h : Heap}

def leafDoc (d : Doc) (r p : Rt) : Doc := ⟨d.roots ++ [r], d.pars ++ [p], d.tgs, d.sts⟩

theorem leaf_bl {d : Doc} (hl : d.roots.length = d.pars.length) (r p : Rt) : (leafDoc d r p).bl = d.bl ++ [(r, p)] := by
  unfold Doc.bl leafDoc
  exact List.zip_append hl

theorem names_size {l : List Rt} : ∀ u ∈ l.map rtTV, u.size = 32 := fun u hu => by
  obtain ⟨x, _, rfl⟩ := List.mem_map.1 hu
  rfl
theorem names_plain {l : List Rt} : ∀ u ∈ l.map rtTV, u.plain = true := fun u hu => by
  obtain ⟨x, _, rfl⟩ := List.mem_map.1 hu
  rfl

theorem good_facts {ts ks : List Int} (hg : goodB ts ks = true) : (∀ k ∈ ks, 0 ≤ k) ∧ ks.sum < 4611686018427387904 ∧ ks.length = ts.length := by
  unfold goodB at hg
  simp only [Bool.and_eq_true, decide_eq_true_eq] at hg
  exact ⟨hg.1.1, hg.1.2, hg.2⟩

theorem leaf_plain {ps ts ks : List Int} (hl : ps.length < 200) (hg : goodB ts ks = true) {p : Rt} (hp : p.l = rootAt (plainDoc ps ts ks).bl (headOf (plainDoc ps ts ks).bl (plainDoc ps ts ks).sh)) :
    rootAt ((plainDoc ps ts ks).bl ++ [(name 200, p)]) (headOf ((plainDoc ps ts ks).bl ++ [(name 200, p)]) (plainDoc ps ts ks).sh) = (name 200).l := by
  obtain ⟨h1, h2, h3⟩ := good_facts hg
  obtain ⟨_, _, _, l4⟩ := plain_lens ps ts ks
  refine leaf_head (plain_tree (by omega)) (by omega) (fun i hi => ?_) hp (sh_nonneg h1) (by rw [sh_sum h3]; exact h2) (fun i hi => weight_range (by omega) hg (by omega))
  rw [root_plain (by omega)]
  unfold nameN
  intro hx
  have := name_mod hx
  omega

/-- A name copied to the end of a slice of names, and the slice laid into a field. -/
theorem grow {g H : Heap} {l : List Rt} {x : Rt} {k i : Nat} {ts : List TV} {J1 J2 J3 : Sl → Heap → Sl → Heap → Prop} (hg : Only (· = k) g H) (v : Var 41 H k (.agg ts)) (h1 : ∀ t ∈ ts, t.size = 1) (hi : i < ts.length)
    (hj : ∀ s20 h' s21 h7 h8, Var 41 h8 k (.agg (ts.set i (.slice s21))) → Own 37 32 h8 s21 ((l ++ [x]).map rtTV) → Only (· = k) g h8 → (∀ l, s21.a = some l → H.size ≤ l.b) → wok h7 k i 1 → (TV.slice s21).put h7 k i = h8 → H.size ≤ h8.size → Only (· = k) H h8 →
      J1 s20 h' s21 h7 ∧ J2 s20 h' s21 h7 ∧ J3 s20 h' s21 h7) :
    ∀ s20 h' s21 h7, Own 37 32 h7 s21 (l.map rtTV ++ [rtTV x]) → Ext H h7 → (∀ l, s21.a = some l → H.size ≤ l.b) → J1 s20 h' s21 h7 ∧ J2 s20 h' s21 h7 ∧ J3 s20 h' s21 h7 := by
  intro s20 h' s21 h7 o7 x7 b7
  have v7 := v.ext x7
  have hk := v.lt
  obtain ⟨w8, h8, e8, v8, o8, s8⟩ := put_field (i := i) v7 h1 hi (t := .slice s21) rfl
  refine hj s20 h' s21 h7 h8 v8 ?_ ((hg.trans (Only.of_ext x7)).trans o8) b7 w8 e8 (by have := x7.size; omega) ((Only.of_ext x7).trans o8)
  rw [List.map_append]
  exact o7.only o8 (fun l hl => by have := b7 l hl; omega)

theorem ghostLeaves_spec {sp st sk : Sl} {ps ts ks : List Int} (hp : Ints .i64 h sp ps) (ht : Ints .i64 h st ts) (hk : Ints .i64 h sk ks) (hr : ∀ h', Ext h h' → R (TV.bool true).val h') :
    CallsH Try.prog 11 (TVs.vals [.slice sp, .slice st, .slice sk]) h R := by
  apply tollerlaw20_GhostLeaves_calls
  unfold tollerlaw20_GhostLeaves_vc
  refine alive_spec fun h1 x1 => ⟨_, rfl, If.no ?_⟩
  intro J hJ
  refine great_spec ⟨_, rfl, ?_⟩
  refine If.split (fun _ => hr _ x1) (fun hgr => ?_)
  have lp := hp.len
  have lt := ht.len
  have lk := hk.len
  simp only [Bool.or_eq_false_iff, decide_eq_false_iff_not, Bool.not_eq_false', decide_eq_true_eq] at hgr
  obtain ⟨g1, g2, g3⟩ := hgr
  have hl : ps.length < 255 := by omega
  refine If.dec.2 ⟨fun _ => hr _ x1, fun h39 => hJ _ _ ?_⟩
  refine plain_spec (hp.ext x1) (ht.ext x1) (hk.ext x1) (by omega) (by omega) (by omega) fun h2 A P T c x2 => ⟨A, P, T, sk, rfl, ?_⟩
  obtain ⟨w3, h3, e3, v3, x3, s3⟩ := newput_spec h2 (.agg [.slice Sl.nil, .slice Sl.nil, .slice Sl.nil, .slice Sl.nil]) (.agg [.slice A, .slice P, .slice T, .slice sk]) 41 rfl
  refine ⟨w3, ?_⟩
  rw [e3]
  have c3 := c.ext x3
  refine ⟨A, P, T, sk, ⟨v3.at1 rfl, v3.at1 rfl, v3.at1 rfl, v3.at1 rfl⟩, ?_⟩
  refine Good_spec hl hk.fit c3 fun h4 x4 => ⟨_, rfl, ?_⟩
  have xx4 := ((x1.trans x2).trans x3).trans x4
  refine If.split (fun _ => hr _ xx4) (fun hg => ?_)
  simp only [Bool.not_eq_false'] at hg
  have v4 := v3.ext x4
  have c4 := c3.ext x4
  obtain ⟨l1, l2, l3, l4⟩ := plain_lens ps ts ks
  have l5 : (plainDoc ps ts ks).sts.length = ks.length := rfl
  refine ⟨A, P, T, sk, ⟨v4.at1 rfl, v4.at1 rfl, v4.at1 rfl, v4.at1 rfl⟩, ?_⟩
  refine chain_spec c4 (by omega) (by omega) fun h5 B Z c5 x5 => ⟨B, Z, rfl, ?_⟩
  refine Head_spec c5 fun h6 r6 x6 _ hroot => ⟨r6, rfl, ?_⟩
  have hr6 := hroot (by intro hn; rw [hn] at l4; simp at l4)
  obtain ⟨w7, h7, e7, v7, x7, s7⟩ := newput_spec h6 (.bytes 32 (Bs.zero 32)) (.bytes 32 r6) 37 rfl
  refine ⟨w7, ?_⟩
  rw [e7]
  have tr := plain_tree (ps := ps) (ts := ts) (ks := ks) hl
  have hH := headOf_lt (bl := (plainDoc ps ts ks).bl) (sh := (plainDoc ps ts ks).sh) (by omega)
  have hend := headOf_end (bl := (plainDoc ps ts ks).bl) (sh := (plainDoc ps ts ks).sh) (by omega)
  have xx7 := ((xx4.trans x5).trans x6).trans x7
  have v4' := ((v4.ext x5).ext x6).ext x7
  have c7 := ((c4.ext x5).ext x6).ext x7
  refine ⟨fun s hh => 1 ≤ s.2 ∧ s.2 ≤ ps.length + 1 ∧ Ext h7 hh, fun s _ => ((ps.length + 1 : Int) - s.2).toNat, ⟨by simp, by simp; omega, Ext.refl _⟩, ?_⟩
  rintro ⟨u, i⟩ hh ⟨i0, i1, x⟩
  simp only at i0 i1 ⊢
  have vv := v4'.ext x
  have cc := c7.ext x
  have rr := v7.ext x
  have lP := names_len cc.p
  refine ⟨P, vv.at1 rfl, ?_⟩
  refine If.dec.2 ⟨fun hi => ?_, fun hi => ?_⟩
  · refine ⟨P, vv.at1 rfl, ?_⟩
    refine names_at cc.p (by omega) (by omega) fun l p hp' hat => ⟨p, hat, r6, rr.bytes, ?_⟩
    rw [wrap_i64 (n := i + 1) (by omega) (by omega)]
    refine If.dec.2 ⟨fun he => ?_, fun _ => ⟨⟨by omega, by omega, x⟩, by omega⟩⟩
    exfalso
    obtain ⟨q, hq⟩ : ∃ q, i.toNat = q + 1 := ⟨i.toNat - 1, by omega⟩
    have hpar := pars_at (ps := ps) (ts := ts) (ks := ks) (i := q) (by omega)
    rw [hq, hpar] at hp'
    cases hp'
    have hple := parIdx_le ps q
    have he2 : rootAt (plainDoc ps ts ks).bl (parIdx ps q) = rootAt (plainDoc ps ts ks).bl (headOf (plainDoc ps ts ks).bl (plainDoc ps ts ks).sh) := (root_plain (by omega)).trans (he.trans hr6)
    have hHe := tr.one _ _ (by omega) hH he2
    have hkid := (tr.kid (headOf (plainDoc ps ts ks).bl (plainDoc ps ts ks).sh) (q + 1) hH (by omega)).2 ⟨by omega, hHe⟩
    refine best_none (i := q + 1) tr hend ?_
    unfold kidsOf kidsTo
    exact List.mem_filter.2 ⟨List.mem_range.2 (by omega), hkid⟩
  · refine ⟨A, P, T, sk, ⟨vv.at1 rfl, vv.at1 rfl, vv.at1 rfl, vv.at1 rfl⟩, ?_⟩
    obtain ⟨w8, h8, e8, v8, x8, s8⟩ := newput_spec hh (.agg [.slice Sl.nil, .slice Sl.nil, .slice Sl.nil, .slice Sl.nil]) (.agg [.slice A, .slice P, .slice T, .slice sk]) 41 rfl
    refine ⟨w8, ?_⟩
    rw [e8]
    refine name_spec fun h9 x9 => ⟨_, rfl, ?_⟩
    obtain ⟨w10, h10, e10, v10, x10, s10⟩ := newput_spec h9 (.bytes 32 (Bs.zero 32)) (.bytes 32 (name 200)) 37 rfl
    refine ⟨w10, ?_⟩
    rw [e10]
    have vm := ((vv.ext x8).ext x9).ext x10
    have cm := ((cc.ext x8).ext x9).ext x10
    have rm := ((rr.ext x8).ext x9).ext x10
    have vk := (v8.ext x9).ext x10
    have hk8 := v8.lt
    have hk9 : hh.size < h9.size := (v8.ext x9).lt
    have hk10 := vk.lt
    have gm := vm.lt
    intro J1 hJ1
    refine ⟨A, vm.at1 rfl, name 200, v10.bytes, ?_⟩
    have f1 := cm.few
    have f2 := names_len cm.a
    have f3 := names_len cm.p
    refine append_copy (x := rtTV (name 200)) rfl rfl (by decide) (by decide) (by show (A.len + 1) * 32 ≤ _; omega) cm.a names_size names_plain rfl rfl
      (grow (i := 0) (Only.refl _ h10) vk (by simp [TV.size]) (by simp) fun s20 h' A' h11 h12 v12 o12 _ b12 w12 e12 z12 q12 => ?_)
    have key : ∀ s, J1 s h12 := fun s => hJ1 s h12 (by
      intro J2 hJ2
      have xa : Ext hh h12 := Only.cut ((x8.trans x9).trans x10) q12 (by rintro b rfl; exact Nat.le_refl _)
      have vm2 := vv.ext xa
      have rm2 := rr.ext xa
      have cm2 := cc.ext xa
      have g3 := rr.lt
      have n12 : Var 37 h12 h9.size (.bytes 32 (name 200)) := v10.only q12 (by omega)
      refine ⟨P, vm2.at1 rfl, r6, rm2.bytes, ?_⟩
      have bA : ∀ l, A'.a = some l → hh.size < l.b := fun l hl => by have := b12 l hl; omega
      refine append_copy (x := rtTV r6) rfl rfl (by decide) (by decide) (by show (P.len + 1) * 32 ≤ _; omega) cm2.p names_size names_plain rfl rfl
        (grow (i := 1) (Only.refl _ h12) v12 (by simp [TV.size]) (by simp) fun s20' h'' P' h13 h14 v14 o14 _ b14 w14 e14 z14 q14 => ?_)
      have key2 : ∀ s, J2 s h14 := fun s => hJ2 s h14 (by
        have xb : Ext hh h14 := Only.cut xa q14 (by rintro b rfl; exact Nat.le_refl _)
        have v14' : Var 41 h14 hh.size (.agg [.slice A', .slice P', .slice T, .slice sk]) := v14
        refine ⟨A', P', T, sk, ⟨v14'.at1 rfl, v14'.at1 rfl, v14'.at1 rfl, v14'.at1 rfl⟩, ?_⟩
        have oA := o12.only q14 (fun l hl => by have := bA l hl; omega)
        have cb := cc.ext xb
        have hd : RCh h14 A' P' T sk (leafDoc (plainDoc ps ts ks) (name 200) r6) :=
          ⟨oA.elems, o14.elems, cb.t, cb.k, by simp only [leafDoc, List.length_append, l1, List.length_singleton]; omega, cb.fewt, cb.fewk⟩
        have ll : (leafDoc (plainDoc ps ts ks) (name 200) r6).roots.length = ps.length + 2 := by simp [leafDoc, l1]
        have ll2 : (leafDoc (plainDoc ps ts ks) (name 200) r6).pars.length = ps.length + 2 := by simp [leafDoc, l2]
        have lbl := leaf_bl (d := plainDoc ps ts ks) (by omega) (name 200) r6
        refine Good_any (by omega) hd fun h15 b x15 => ⟨b, rfl, ?_⟩
        have xfin : Ext h h15 := ((xx7.trans x).trans xb).trans x15
        refine If.split (fun _ => hr _ xfin) (fun _ => ?_)
        have v15 := v14'.ext x15
        refine ⟨A', P', T, sk, ⟨v15.at1 rfl, v15.at1 rfl, v15.at1 rfl, v15.at1 rfl⟩, name 200, ((n12.only q14 (by omega)).ext x15).bytes, ?_⟩
        refine chain_spec (hd.ext x15) (by omega) (by show (plainDoc ps ts ks).tgs.length ≤ (plainDoc ps ts ks).sts.length; omega) fun h16 B' Z' c16 x16 => ⟨B', Z', rfl, x16, ?_⟩
        rw [lbl] at c16
        refine Head_spec c16 fun h17 r17 x17 _ hroot17 => ⟨r17, rfl, x17, ?_⟩
        have h9 := hroot17 (by simp)
        have h10 := leaf_plain (ps := ps) (ts := ts) (ks := ks) (by omega) hg hr6
        have h11 : decide (r17.1 = (name 200).1) = true := by
          rw [decide_eq_true_eq]
          exact h9.trans h10
        rw [h11]
        exact hr _ ((xfin.trans x16).trans x17))
      refine ⟨⟨w14, ?_⟩, ⟨w14, ?_⟩, w14, ?_⟩ <;> rw [e14] <;> exact key2 _)
    refine ⟨⟨w12, ?_⟩, ⟨w12, ?_⟩, w12, ?_⟩ <;> rw [e12] <;> exact key _

end
end Go.Proofs.Ytahoibjgojlpeaa.Ghost
