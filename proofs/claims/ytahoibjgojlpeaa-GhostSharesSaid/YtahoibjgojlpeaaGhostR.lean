/- A share more behind the head, or above it, doesn't change the head. -/
import Derived.Test.YtahoibjgojlpeaaGhostQ
import Derived.Test.YtahoibjgojlpeaaGhostM
import Derived.Test.YtahoibjgojlpeaaVsGhostY
namespace Go.Proofs.Ytahoibjgojlpeaa.Ghost
open Go Go.Vc

theorem If.two {c1 c2 : Bool} {A B : Prop} (ha : c1 = true → c2 = true → A) (hb : ¬ (c1 = true ∧ c2 = true) → B) : If c1 (If c2 A B) B := by
  cases c1 with
  | false => exact hb (by simp)
  | true => cases c2 with
    | false => exact hb (by simp)
    | true => exact ha rfl rfl

def shareDoc (d : Doc) (r : Rt) (v : Int) : Doc := ⟨d.roots, d.pars, d.tgs ++ [r], d.sts ++ [v]⟩

theorem share_sh {d : Doc} (hl : d.tgs.length = d.sts.length) (r : Rt) (v : Int) : (shareDoc d r v).sh = d.sh ++ [(r, v)] := by
  unfold Doc.sh shareDoc
  exact List.zip_append hl

theorem ints_size {l : List Int} : ∀ u ∈ l.map intTV, u.size = 1 := fun u hu => by
  obtain ⟨x, _, rfl⟩ := List.mem_map.1 hu
  rfl
theorem ints_plain {l : List Int} : ∀ u ∈ l.map intTV, u.plain = true := fun u hu => by
  obtain ⟨x, _, rfl⟩ := List.mem_map.1 hu
  rfl

section
variable {R : Value → Heap → Prop} {h : Heap}

theorem ghostMore_spec {sp st sk : Sl} {ps ts ks : List Int} {up more : Int} (hp : Ints .i64 h sp ps) (ht : Ints .i64 h st ts) (hk : Ints .i64 h sk ks) (hr : ∀ h', Ext h h' → R (TV.bool true).val h') :
    CallsH Try.prog 9 (TVs.vals [.slice sp, .slice st, .slice sk, .int .i64 up, .int .i64 more]) h R := by
  apply tollerlaw20_GhostMore_calls
  unfold tollerlaw20_GhostMore_vc
  refine alive_spec fun h1 x1 => ⟨_, rfl, If.no ?_⟩
  intro J hJ
  refine great_spec ⟨_, rfl, ?_⟩
  refine If.split (fun _ => hr _ x1) (fun hgr => ?_)
  have lp := hp.len
  have lt := ht.len
  have lk := hk.len
  simp only [Bool.or_eq_false_iff, decide_eq_false_iff_not, Bool.not_eq_false', decide_eq_true_eq] at hgr
  obtain ⟨g1, g2, g3⟩ := hgr
  have hl : ps.length < 255 := by omega
  refine If.dec.2 ⟨fun _ => hr _ x1, fun hup => ?_⟩
  refine If.dec.2 ⟨fun _ => hr _ x1, fun hm0 => ?_⟩
  refine If.dec.2 ⟨fun _ => hr _ x1, fun hm1 => hJ _ _ ?_⟩
  refine plain_spec (hp.ext x1) (ht.ext x1) (hk.ext x1) (by omega) (by omega) (by omega) fun h2 A P T c x2 => ⟨A, P, T, sk, rfl, ?_⟩
  obtain ⟨w3, h3, e3, v3, x3, s3⟩ := newput_spec h2 (.agg [.slice Sl.nil, .slice Sl.nil, .slice Sl.nil, .slice Sl.nil]) (.agg [.slice A, .slice P, .slice T, .slice sk]) 41 rfl
  refine ⟨w3, ?_⟩
  rw [e3]
  have c3 := c.ext x3
  obtain ⟨l1, l2, l3, l4⟩ := plain_lens ps ts ks
  have l5 : (plainDoc ps ts ks).sts.length = ks.length := rfl
  refine ⟨A, P, T, sk, ⟨v3.at1 rfl, v3.at1 rfl, v3.at1 rfl, v3.at1 rfl⟩, ?_⟩
  refine RHead_spec hl (by omega) c3 fun h4 r4 x4 hr4 => ⟨r4, rfl, ?_⟩
  obtain ⟨w5, h5, e5, v5, x5, s5⟩ := newput_spec h4 (.bytes 32 (Bs.zero 32)) (.bytes 32 r4) 37 rfl
  refine ⟨w5, ?_⟩
  rw [e5]
  have vm := (v3.ext x4).ext x5
  have cm := (c3.ext x4).ext x5
  refine ⟨A, P, T, sk, ⟨vm.at1 rfl, vm.at1 rfl, vm.at1 rfl, vm.at1 rfl⟩, r4, v5.bytes, ?_⟩
  refine Place_spec cm fun h6 x6 => ⟨_, rfl, ?_⟩
  have tr := plain_tree (ps := ps) (ts := ts) (ks := ks) hl
  have hH := headOf_lt (bl := (plainDoc ps ts ks).bl) (sh := (plainDoc ps ts ks).sh) (by omega)
  generalize hHd : headOf (plainDoc ps ts ks).bl (plainDoc ps ts ks).sh = H at *
  have hpl : (plainDoc ps ts ks).place r4 = (H : Int) := by
    rw [← place_nameN (ts := ts) (ks := ks) hl (show H < ps.length + 1 by omega)]
    unfold Doc.place
    rw [hr4, root_plain (by omega)]
  rw [hpl]
  have xx6 := ((((x1.trans x2).trans x3).trans x4).trans x5).trans x6
  have vm6 := vm.ext x6
  have cm6 := cm.ext x6
  refine ⟨fun s hh => (∃ a : Nat, s.1 = (a : Int) ∧ a < ps.length + 1 ∧ Anc (parN ps) a H) ∧ Ext h6 hh, fun s _ => s.1.toNat, ⟨⟨H, rfl, by omega, .here⟩, Ext.refl _⟩, ?_⟩
  rintro ⟨a', k⟩ hh ⟨⟨a, ha, hal, hanc⟩, x⟩
  simp only at ha ⊢
  subst ha
  have vv := vm6.ext x
  have cc := cm6.ext x
  refine If.two (fun _ hpos => ?_) (fun _ => ?_)
  · rw [decide_eq_true_eq] at hpos
    refine ⟨A, P, T, sk, ⟨vv.at1 rfl, vv.at1 rfl, vv.at1 rfl, vv.at1 rfl⟩, P, vv.at1 rfl, ?_⟩
    obtain ⟨q, rfl⟩ : ∃ q, a = q + 1 := ⟨a - 1, by omega⟩
    have hpar := pars_at (ps := ps) (ts := ts) (ks := ks) (i := q) (by omega)
    have hple := parIdx_le ps q
    refine names_at cc.p (i := ((q + 1 : Nat) : Int)) (by omega) (by omega) fun l p hp' hat => ⟨p, hat, ?_⟩
    rw [Int.toNat_natCast, hpar] at hp'
    cases hp'
    refine Place_spec cc fun h7 x7 => ⟨_, rfl, ?_⟩
    rw [place_nameN hl (by omega)]
    refine ⟨⟨⟨parIdx ps q, rfl, by omega, ?_⟩, x.trans x7⟩, by simp only [Int.toNat_natCast]; omega⟩
    exact hanc.down (by omega)
  · refine ⟨A, P, T, sk, ⟨vv.at1 rfl, vv.at1 rfl, vv.at1 rfl, vv.at1 rfl⟩, ?_⟩
    obtain ⟨w8, h8, e8, v8, x8, s8⟩ := newput_spec hh (.agg [.slice Sl.nil, .slice Sl.nil, .slice Sl.nil, .slice Sl.nil]) (.agg [.slice A, .slice P, .slice T, .slice sk]) 41 rfl
    refine ⟨w8, ?_⟩
    rw [e8]
    have vm8 := vv.ext x8
    have c8 := cc.ext x8
    have lA := names_len c8.a
    have lT := names_len c8.t
    have f1 := c8.few
    have f2 := c8.fewt
    have f3 := c8.fewk
    have hk8 := v8.lt
    intro J1 hJ1
    refine ⟨T, vm8.at1 rfl, A, vm8.at1 rfl, ?_⟩
    refine names_at c8.a (i := (a : Int)) (by omega) (by omega) fun l r hr' hat => ⟨r, hat, ?_⟩
    have hroot := roots_at (ps := ps) (ts := ts) (ks := ks) (i := a) hal
    rw [Int.toNat_natCast, hroot] at hr'
    cases hr'
    refine append_copy (x := rtTV (nameN a)) rfl rfl (by decide) (by decide) (by show (T.len + 1) * 32 ≤ _; omega) c8.t names_size names_plain rfl rfl
      (grow (i := 2) (Only.refl _ h8) v8 (by simp [TV.size]) (by simp) fun s20 h' T' h11 h12 v12 o12 _ b12 w12 e12 z12 q12 => ?_)
    have key : ∀ s, J1 s h12 := fun s => hJ1 s h12 (by
      have xa : Ext hh h12 := Only.cut x8 q12 (by rintro b rfl; exact Nat.le_refl _)
      have v12' : Var 41 h12 hh.size (.agg [.slice A, .slice P, .slice T', .slice sk]) := v12
      have xp := Ext.push h12 (row (TVs.cells []) 3)
      have o0 := Own.new (T := 3) (sz := 1) h12 [] (by simp)
      have vm12 := (vv.ext xa).ext xp
      have c12 := (cc.ext xa).ext xp
      have lK := ints_len c12.k
      refine ⟨sk, vm12.at1 rfl, ?_⟩
      refine appendN (C := ctx) (T := 3) (t := Sl.mk (some (Loc.mk h12.size 0)) 0 0) rfl rfl (by decide) (by decide) (by show (0 + sk.len) * 8 ≤ _; omega) o0 c12.k ints_size ints_plain fun K1 h13 o13 x13' _ b13 => ?_
      have x13 := x13' rfl
      have lo := o13.len
      simp only [List.nil_append, List.length_map] at lo
      have bK : ∀ l, K1.a = some l → h12.size ≤ l.b := fun l hl => by
        rcases b13 l hl with ⟨l', hl', he⟩ | hx
        · cases hl'; rw [← he]; exact Nat.le_refl _
        · have := xp.size; omega
      refine append1 (C := ctx) (T := 3) (x := .int .i64 more) rfl rfl (by decide) (by show (K1.len + 1) * 8 ≤ _; omega) o13 rfl rfl fun K2 h14 o14 w14 b14 => ?_
      have x14 : Ext h12 h14 := Only.cut (xp.trans x13) w14 (by rintro b ⟨l, hl, rfl⟩; exact bK l hl)
      have bK2 : ∀ l, K2.a = some l → h12.size ≤ l.b := fun l hl => by
        rcases b14 l hl with ⟨l', hl', he⟩ | hx
        · rw [← he]; exact bK l' hl'
        · have := (xp.trans x13).size; omega
      have v14 := v12'.ext x14
      have z12' := v12'.lt
      obtain ⟨w15, h15, e15, v15, o15, s15⟩ := put_field (i := 3) v14 (by simp [TV.size]) (by simp) (t := .slice K2) rfl
      refine ⟨w15, ?_⟩
      rw [e15]
      have v15' : Var 41 h15 hh.size (.agg [.slice A, .slice P, .slice T', .slice K2]) := v15
      have xb : Ext hh h15 := Only.cut (xa.trans x14) o15 (by rintro b rfl; exact Nat.le_refl _)
      have vm15 := vv.ext xb
      have c15 := cc.ext xb
      have bT : ∀ l, T'.a = some l → hh.size < l.b := fun l hl => by have := b12 l hl; omega
      have oT := (o12.ext x14).only o15 (fun l hl => by have := bT l hl; omega)
      have oK : Own 3 1 h15 K2 ((ks ++ [more]).map intTV) := by
        rw [List.map_append]
        exact o14.only o15 (fun l hl => by have := bK2 l hl; omega)
      refine ⟨A, P, T, sk, ⟨vm15.at1 rfl, vm15.at1 rfl, vm15.at1 rfl, vm15.at1 rfl⟩, ?_⟩
      refine Good_spec hl hk.fit c15 fun h16 x16 => ⟨_, rfl, ?_⟩
      have xx16 : Ext h h16 := ((xx6.trans x).trans xb).trans x16
      refine If.split (fun _ => hr _ xx16) (fun hg => ?_)
      simp only [Bool.not_eq_false'] at hg
      obtain ⟨gd1, gd2, gd3⟩ := good_facts hg
      have v16 := v15'.ext x16
      have hd : RCh h15 A P T' K2 (shareDoc (plainDoc ps ts ks) (nameN a) more) :=
        ⟨c15.a, c15.p, oT.elems, oK.elems, c15.few, by simp only [shareDoc, List.length_append, l3, List.length_singleton]; omega, by simp only [shareDoc, List.length_append, l5, List.length_singleton]; omega⟩
      have ll1 : (shareDoc (plainDoc ps ts ks) (nameN a) more).roots.length = ps.length + 1 := l1
      have ll2 : (shareDoc (plainDoc ps ts ks) (nameN a) more).pars.length = ps.length + 1 := l2
      have ll3 : (shareDoc (plainDoc ps ts ks) (nameN a) more).tgs.length = ts.length + 1 := by simp [shareDoc, l3]
      have ll4 : (shareDoc (plainDoc ps ts ks) (nameN a) more).sts.length = ks.length + 1 := by simp [shareDoc, l5]
      refine ⟨A, P, T', K2, ⟨v16.at1 rfl, v16.at1 rfl, v16.at1 rfl, v16.at1 rfl⟩, ?_⟩
      refine Good_any (by omega) (hd.ext x16) fun h17 b x17 => ⟨b, rfl, ?_⟩
      refine If.split (fun _ => hr _ (xx16.trans x17)) (fun _ => ?_)
      have v17 := v16.ext x17
      have vm17 := (vm15.ext x16).ext x17
      refine ⟨A, P, T', K2, ⟨v17.at1 rfl, v17.at1 rfl, v17.at1 rfl, v17.at1 rfl⟩, A, P, T, sk, ⟨vm17.at1 rfl, vm17.at1 rfl, vm17.at1 rfl, vm17.at1 rfl⟩, ?_⟩
      refine chain_spec ((hd.ext x16).ext x17) (by omega) (by omega) fun h18 B Z c18 x18 => ⟨B, Z, rfl, x18, ?_⟩
      rw [share_sh (by omega)] at c18
      have hbl : (shareDoc (plainDoc ps ts ks) (nameN a) more).bl = (plainDoc ps ts ks).bl := rfl
      rw [hbl] at c18
      have hne : (plainDoc ps ts ks).bl ≠ [] := by intro hn; rw [hn] at l4; simp at l4
      refine Head_spec c18 fun h19 r19 x19 _ hroot19 => ⟨r19, rfl, x19, ?_⟩
      have e19 := hroot19 hne
      refine chain_spec ((((c15.ext x16).ext x17).ext x18).ext x19) (by omega) (by omega) fun h20 B' Z' c20 x20 => ⟨B', Z', rfl, ?_⟩
      refine Head_spec c20 fun h21 r21 x21 _ hroot21 => ⟨r21, rfl, ?_⟩
      have e21 := hroot21 hne
      have hsame := more_head (sh := (plainDoc ps ts ks).sh) tr (r := nameN a) (v := more) (at' := a) (by omega) (root_plain (by omega)).symm (by rw [hHd]; exact hanc) (by omega) (by omega) (fun i hi => weight_range hl hg (by omega))
      rw [hsame] at e19
      have he : decide (r19.1 = r21.1) = true := by
        rw [decide_eq_true_eq]
        exact e19.trans e21.symm
      rw [he]
      exact hr _ (((((xx16.trans x17).trans x18).trans x19).trans x20).trans x21))
    refine ⟨⟨w12, ?_⟩, ⟨w12, ?_⟩, w12, ?_⟩ <;> rw [e12] <;> exact key _

end
end Go.Proofs.Ytahoibjgojlpeaa.Ghost
