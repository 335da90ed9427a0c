/- In whatever order shares stand, and however they are cut, it is the same. -/
import Derived.Test.YtahoibjgojlpeaaGhostS
import Derived.Test.YtahoibjgojlpeaaVsGhostZ
namespace Go.Proofs.Ytahoibjgojlpeaa.Ghost
open Go Go.Vc

theorem elems_keep {sz p : Nat} {h h' : Heap} {s X Y : Sl} {ts : List TV} (e : Elems sz h s ts) (v : Var 46 h p (.agg [.slice X, .slice Y])) (o : Only (· = p) h h') (h0 : ∀ t ∈ ts, 0 < t.size) (h1 : ∀ t ∈ ts, ∃ n, t.cells[0]? = some (.int .u8 n)) : Elems sz h' s ts := by
  refine ⟨e.len, e.nil, fun l hl i t ht => TV.at_only o (fun hb => ?_) (e.get l hl i t ht)⟩
  have ha := e.get l hl i t ht
  rw [TV.at_iff] at ha
  obtain ⟨n, hn⟩ := h1 t (List.mem_of_getElem? ht)
  have h2 := ha 0 (h0 t (List.mem_of_getElem? ht))
  rw [hn, hb] at h2
  unfold Var at v
  unfold cel at h2
  rw [v] at h2
  simp only [row, TV.cells, TVs.cells, List.append_nil, List.cons_append, List.nil_append] at h2
  generalize l.o + i * sz + 0 = q at h2
  match q, h2 with
  | 0, h2 => simp [slVal] at h2
  | 1, h2 => simp [slVal] at h2
  | q + 2, h2 => simp at h2

theorem Ch.keep {p : Nat} {h h' : Heap} {B Z X Y : Sl} {bl : List (Rt × Rt)} {sh : List (Rt × Int)} (c : Ch h B Z bl sh) (v : Var 46 h p (.agg [.slice X, .slice Y])) (o : Only (· = p) h h') : Ch h' B Z bl sh := by
  have first : ∀ (x : Rt) (r : List TV), ∃ n, (TV.agg (.bytes 32 x :: r)).cells[0]? = some (.int .u8 n) := fun x r => by
    have hx := x.h
    cases hxl : x.l with
    | nil => rw [hxl] at hx; cases hx
    | cons y ys => exact ⟨(y.toNat : Int), by simp [TV.cells, TVs.cells, hxl]⟩
  refine ⟨elems_keep c.b v o (fun t ht => ?_) (fun t ht => ?_), elems_keep c.s v o (fun t ht => ?_) (fun t ht => ?_), c.few, c.fews⟩
  · obtain ⟨x, _, rfl⟩ := List.mem_map.1 ht
    exact (show 0 < 64 by decide)
  · obtain ⟨x, _, rfl⟩ := List.mem_map.1 ht
    exact first _ _
  · obtain ⟨x, _, rfl⟩ := List.mem_map.1 ht
    exact (show 0 < 33 by decide)
  · obtain ⟨x, _, rfl⟩ := List.mem_map.1 ht
    exact first _ _

section
variable {R : Value → Heap → Prop} {h : Heap}

/-- Two elements more. -/
theorem append2 {T : TypeId} {sz : Nat} {s : Sl} {ts us : List TV} {n : Nat} {K : Sl → Heap → Prop} (hsz : (ctx.ti T).size = sz) (hz : (ctx.ti T).z.size = sz) (hpos : 0 < (ctx.ti T).bytes) (h0 : 0 < sz) (hn : n = us.length)
    (hb : (s.len + n) * (ctx.ti T).bytes ≤ 70368744177664) (o : Own T sz h s ts) (hs : ∀ u ∈ us, u.size = sz) (hp : ∀ u ∈ us, u.plain = true)
    (hk : ∀ s' h', Own T sz h' s' (ts ++ us) → Only (fun b => ∃ l, s.a = some l ∧ l.b = b) h h' → (∀ l, s'.a = some l → (∃ l', s.a = some l' ∧ l'.b = l.b) ∨ h.size ≤ l.b) → K s' h') :
    ∃ new, slAt (h.push (row (TVs.cells us) T)) (Sl.mk (some (Loc.mk h.size 0)) n n) sz new ∧ (∀ v ∈ new, isOne v = true) ∧ vcAppend ctx T s n new (h.push (row (TVs.cells us) T)) K := by
  subst hn
  have e1 := Ext.push h (row (TVs.cells us) T)
  have o1 := Own.new (T := T) (sz := sz) h us hs
  refine appendN (C := ctx) (s := Sl.mk (some (Loc.mk h.size 0)) us.length us.length) hsz hz hpos h0 hb (o.ext e1) o1.elems hs hp fun t' h' o' _ w' b' => hk t' h' o' ((Only.of_ext e1).trans w') fun l hl => ?_
  rcases b' l hl with h1 | h1
  · exact .inl h1
  · right
    have := e1.size
    omega

theorem ghostShares_spec {sp st sk : Sl} {ps ts ks : List Int} {turn cut : Int} (hp : Ints .i64 h sp ps) (ht : Ints .i64 h st ts) (hk : Ints .i64 h sk ks) (hr : ∀ h', Ext h h' → R (TV.bool true).val h') :
    CallsH Try.prog 8 (TVs.vals [.slice sp, .slice st, .slice sk, .int .i64 turn, .int .i64 cut]) h R := by
  apply tollerlaw20_GhostShares_calls
  unfold tollerlaw20_GhostShares_vc
  refine alive_spec fun h1 x1 => ⟨_, rfl, If.no ?_⟩
  intro J0 hJ0
  refine great_spec ⟨_, rfl, ?_⟩
  refine If.split (fun _ => hr _ x1) (fun hgr => ?_)
  have lp := hp.len
  have lt := ht.len
  have lk := hk.len
  simp only [Bool.or_eq_false_iff, decide_eq_false_iff_not, Bool.not_eq_false', decide_eq_true_eq] at hgr
  obtain ⟨q1, q2, q3⟩ := hgr
  have hl : ps.length < 255 := by omega
  refine If.dec.2 ⟨fun _ => hr _ x1, fun hne => hJ0 _ _ ?_⟩
  refine plain_spec (hp.ext x1) (ht.ext x1) (hk.ext x1) (by omega) (by omega) (by omega) fun ha A P T c x2 => ⟨A, P, T, sk, rfl, ?_⟩
  obtain ⟨w3, h3, e3, v3, x3, s3⟩ := newput_spec ha (.agg [.slice Sl.nil, .slice Sl.nil, .slice Sl.nil, .slice Sl.nil]) (.agg [.slice A, .slice P, .slice T, .slice sk]) 41 rfl
  refine ⟨w3, ?_⟩
  rw [e3]
  have c3 := c.ext x3
  refine ⟨A, P, T, sk, ⟨v3.at1 rfl, v3.at1 rfl, v3.at1 rfl, v3.at1 rfl⟩, ?_⟩
  refine Good_spec hl hk.fit c3 fun h4 x4 => ⟨_, rfl, ?_⟩
  have xx4 := ((x1.trans x2).trans x3).trans x4
  refine If.split (fun _ => hr _ xx4) (fun hg => ?_)
  simp only [Bool.not_eq_false'] at hg
  obtain ⟨gd1, gd2, gd3⟩ := good_facts hg
  have v4 := v3.ext x4
  have c4 := c3.ext x4
  obtain ⟨l1, l2, l3, l4⟩ := plain_lens ps ts ks
  have l5 : (plainDoc ps ts ks).sts.length = ks.length := rfl
  have hm64 : ((sk.len : Int)) % 18446744073709551616 = sk.len := by omega
  rw [wrap_u64, hm64]
  have hby0 : 0 ≤ turn % 18446744073709551616 := Int.emod_nonneg _ (by decide)
  have hby : Int.tmod (turn % 18446744073709551616) (sk.len : Int) = (turn % 18446744073709551616) % (sk.len : Int) := Int.tmod_eq_emod_of_nonneg hby0
  have hby1 : 0 ≤ (turn % 18446744073709551616) % (sk.len : Int) := Int.emod_nonneg _ (by omega)
  have hby2 : (turn % 18446744073709551616) % (sk.len : Int) < sk.len := Int.emod_lt_of_pos _ (by omega)
  rw [wrap_u64, hby, wrap_i64 (n := (turn % 18446744073709551616) % (sk.len : Int)) (by omega) (by omega)]
  obtain ⟨b, hbE⟩ : ∃ b : Nat, (turn % 18446744073709551616) % (sk.len : Int) = (b : Int) := ⟨((turn % 18446744073709551616) % (sk.len : Int)).toNat, by omega⟩
  rw [hbE]
  have hbn : b < ks.length := by omega
  refine ⟨by omega, A, P, T, sk, ⟨v4.at1 rfl, v4.at1 rfl, v4.at1 rfl, v4.at1 rfl⟩, ?_⟩
  obtain ⟨w5, h5, e5, v5, x5, s5⟩ := newput_spec h4 (.agg [.slice Sl.nil, .slice Sl.nil, .slice Sl.nil, .slice Sl.nil]) (.agg [.slice A, .slice P, .slice T, .slice sk]) 41 rfl
  refine ⟨w5, ?_⟩
  rw [e5]
  obtain ⟨w6, h6, e6, v6, o6, s6⟩ := put_field (i := 2) v5 (by simp [TV.size]) (by simp) (t := .slice Sl.nil) rfl
  refine ⟨w6, ?_⟩
  rw [e6]
  obtain ⟨w7, h7, e7, v7, o7, s7⟩ := put_field (i := 3) v6 (by simp [TV.size]) (by simp) (t := .slice Sl.nil) rfl
  refine ⟨w7, ?_⟩
  rw [e7]
  have v7' : Var 41 h7 h4.size (.agg [.slice A, .slice P, .slice Sl.nil, .slice Sl.nil]) := v7
  have x7 : Ext h4 h7 := Only.cut x5 (o6.trans o7) (by rintro b rfl; exact Nat.le_refl _)
  have gk := v5.lt
  refine ⟨fun i hh => 0 ≤ i ∧ i ≤ ks.length ∧ Ext h4 hh ∧ ∃ T' K', Var 41 hh h4.size (.agg [.slice A, .slice P, .slice T', .slice K']) ∧ Own 37 32 hh T' ((cutT ts b i.toNat).map rtTV) ∧ Own 3 1 hh K' ((cutK ks b cut i.toNat).map intTV) ∧ Far T' K' ∧ Up T' (h4.size + 1) ∧ Up K' (h4.size + 1),
    fun i _ => ((ks.length : Int) - i).toNat, ⟨by simp, by simp, x7, Sl.nil, Sl.nil, v7', Own.nil _ _ _, Own.nil _ _ _, (fun l l' hl => by cases hl), (fun l hl => by cases hl), (fun l hl => by cases hl)⟩, ?_⟩
  rintro i h2 ⟨i0, i1, x8, T', K', vk, oT, oK, far, upT, upK⟩
  have vm := v4.ext x8
  have cm2 := c4.ext x8
  have lT := names_len cm2.t
  have lA := names_len cm2.a
  have fm1 := cm2.few
  refine If.dec.2 ⟨fun hi => ?_, fun hi => ?_⟩
  · have hat : Int.tmod (IntKind.wrap .i64 (i + (b : Int))) (sk.len : Int) = (((i.toNat + b) % ks.length : Nat) : Int) := by
      rw [wrap_i64 (by omega) (by omega), Int.tmod_eq_emod_of_nonneg (by omega)]
      have : i + (b : Int) = ((i.toNat + b : Nat) : Int) := by omega
      rw [this, lk.symm]
      rfl
    rw [hat]
    have hj : (i.toNat + b) % ks.length < ks.length := Nat.mod_lt _ (by omega)
    generalize hjE : (i.toNat + b) % ks.length = j at *
    have jn : ((j : Nat) : Int).toNat = j := rfl
    refine ⟨by omega, by omega, by omega, ?_⟩
    refine ((hk.ext xx4).ext x8).read (by omega) (by omega) fun l _ y hy haty hwy => ⟨y, haty, T', vk.at1 rfl, T, vm.at1 rfl, ?_⟩
    have hy2 : ks[j]? = some y := by simpa using hwy
    have hyst : stAt ks b i.toNat = y := by
      unfold stAt
      rw [hjE]
      simp [List.getD, hy2]
    obtain ⟨tn, htn⟩ : ∃ tn, ts[j]? = some tn := ⟨_, List.getElem?_eq_getElem (by omega)⟩
    have hd : (plainDoc ps ts ks).tgs[j]? = some (name tn) := by simp [plainDoc, htn]
    have htg : tgAt ts b i.toNat = name tn := by
      unfold tgAt
      rw [← gd3, hjE]
      simp [List.getD, htn]
    refine names_at cm2.t (i := (j : Int)) (by omega) (by omega) fun l1 r1 hr1 hat1 => ⟨r1, hat1, T, vm.at1 rfl, ?_⟩
    obtain rfl : name tn = r1 := by
      rw [jn, hd] at hr1
      exact Option.some.inj hr1
    refine names_at cm2.t (i := (j : Int)) (by omega) (by omega) fun l2 r2 hr2 hat2 => ⟨r2, hat2, Ext.push _ _, ?_⟩
    obtain rfl : name tn = r2 := by
      rw [jn, hd] at hr2
      exact Option.some.inj hr2
    have lenT := oT.len
    have lenK := oK.len
    rw [List.length_map, cutT_len] at lenT
    rw [List.length_map, cutK_len] at lenK
    refine append2 (T := 37) (us := [TV.bytes 32 (name tn), TV.bytes 32 (name tn)]) rfl rfl (by decide) (by decide) rfl (by show (T'.len + 2) * 32 ≤ _; omega) oT (by simp [TV.size]) (by simp [TV.plain]) fun T2 h8 oT2 wT bT => ?_
    have g8 := x8.size
    have gvk := vk.lt
    have offT : ¬ ∃ l, T'.a = some l ∧ l.b = h4.size := by rintro ⟨l, hl, he⟩; have := upT l hl; omega
    have vk8 := vk.only wT offT
    have upT2 : Up T2 (h4.size + 1) := fun l hl => by
      rcases bT l hl with ⟨l', hl', he⟩ | hx
      · rw [← he]; exact upT l' hl'
      · omega
    have oK8 : Own 3 1 h8 K' _ := oK.only wT (fun l hl => by rintro ⟨l', hl', he⟩; exact far l' l hl' hl he)
    have farT2 : Far T2 K' := fun l l' hl hl' => by
      rcases bT l hl with ⟨l'', hl'', he⟩ | hx
      · rw [← he]; exact far l'' l' hl'' hl'
      · have := oK.lt l' hl'; omega
    obtain ⟨w9, h9, e9, v9, o9, s9⟩ := put_field (i := 2) vk8 (by simp [TV.size]) (by simp) (t := .slice T2) rfl
    refine ⟨w9, ?_⟩
    rw [e9]
    have v9' : Var 41 h9 h4.size (.agg [.slice A, .slice P, .slice T2, .slice K']) := v9
    have x9a : Ext h4 h8 := Only.cut x8 wT (by rintro b ⟨l, hl, rfl⟩; have := upT l hl; omega)
    have x9 : Ext h4 h9 := Only.cut x9a o9 (by rintro b rfl; exact Nat.le_refl _)
    have oK9 := oK8.only o9 (fun l hl => by have := upK l hl; omega)
    have oT9 := oT2.only o9 (fun l hl => by have := upT2 l hl; omega)
    refine ⟨K', v9'.at1 rfl, by omega, by omega, ?_⟩
    refine (((hk.ext xx4).ext x9).read (i := (j : Int)) (by omega) (by omega) fun l3 _ y3 hy3 hat3 hw3 => ⟨y3, hat3, Ext.push _ _, ?_⟩)
    obtain rfl : y = y3 := by
      have : ks[j]? = some y3 := by simpa using hw3
      rw [hy2] at this
      exact Option.some.inj this
    have hy0 := gd1 y (List.mem_of_getElem? hy2)
    have hyw := byte_i64 (hk.fit y (List.mem_of_getElem? hy2))
    obtain ⟨pr1, pr2⟩ := partOf_range (cut := cut) hy0
    have hpart : mn (mx cut 0) y = partOf cut y := rfl
    rw [hpart, wrap_i64 (n := y - partOf cut y) (by omega) (by omega)]
    refine append2 (T := 3) (us := [TV.int .i64 (partOf cut y), TV.int .i64 (y - partOf cut y)]) rfl rfl (by decide) (by decide) rfl (by show (K'.len + 2) * 8 ≤ _; omega) oK9 (by simp [TV.size]) (by simp [TV.plain]) fun K2 h10 oK2 wK bK => ?_
    have offK : ¬ ∃ l, K'.a = some l ∧ l.b = h4.size := by rintro ⟨l, hl, he⟩; have := upK l hl; omega
    have v10 := v9'.only wK offK
    have g9 := wT.size
    have upK2 : Up K2 (h4.size + 1) := fun l hl => by
      rcases bK l hl with ⟨l', hl', he⟩ | hx
      · rw [← he]; exact upK l' hl'
      · omega
    have oT10 := oT9.only wK (fun l hl => by rintro ⟨l', hl', he⟩; exact farT2 l l' hl hl' he.symm)
    have farK2 : Far T2 K2 := fun l l' hl hl' => by
      rcases bK l' hl' with ⟨l'', hl'', he⟩ | hx
      · rw [← he]; exact farT2 l l'' hl hl''
      · have := oT9.lt l hl; omega
    obtain ⟨w11, h11, e11, v11, o11, s11⟩ := put_field (i := 3) v10 (by simp [TV.size]) (by simp) (t := .slice K2) rfl
    refine ⟨w11, ?_⟩
    rw [e11, wrap_i64 (n := i + 1) (by omega) (by omega)]
    have v11' : Var 41 h11 h4.size (.agg [.slice A, .slice P, .slice T2, .slice K2]) := v11
    have hi' : (i + 1).toNat = i.toNat + 1 := by omega
    refine ⟨⟨by omega, by omega, ?_, T2, K2, v11', ?_, ?_, farK2, upT2, upK2⟩, by dsimp only; omega⟩
    · have xa : Ext h4 h10 := Only.cut x9 wK (by rintro b ⟨l, hl, rfl⟩; have := upK l hl; omega)
      exact Only.cut xa o11 (by rintro b rfl; exact Nat.le_refl _)
    · rw [hi', cutT_succ, htg, List.map_append]
      exact oT10.only o11 (fun l hl => by have := upT2 l hl; omega)
    · rw [hi', cutK_succ, hyst, List.map_append]
      exact oK2.only o11 (fun l hl => by have := upK2 l hl; omega)
  · have hin : i.toNat = ks.length := by omega
    rw [hin] at oT oK
    intro J hJ
    refine ⟨A, P, T, sk, ⟨vm.at1 rfl, vm.at1 rfl, vm.at1 rfl, vm.at1 rfl⟩, A, P, T', K', ⟨vk.at1 rfl, vk.at1 rfl, vk.at1 rfl, vk.at1 rfl⟩, ?_⟩
    have ck2 : RCh h2 A P T' K' ⟨(plainDoc ps ts ks).roots, (plainDoc ps ts ks).pars, cutT ts b ks.length, cutK ks b cut ks.length⟩ :=
      ⟨cm2.a, cm2.p, oT.elems, oK.elems, cm2.few, by simp only [cutT_len]; omega, by simp only [cutK_len]; omega⟩
    have xx2 := xx4.trans x8
    have hsame := own_turn (ps := ps) gd3 hbn cut
    have cml1 : (plainDoc ps ts ks).roots.length ≤ (plainDoc ps ts ks).pars.length := by omega
    have cml2 : (plainDoc ps ts ks).tgs.length ≤ (plainDoc ps ts ks).sts.length := by omega
    have ckl2 : (cutT ts b ks.length).length ≤ (cutK ks b cut ks.length).length := by rw [cutT_len, cutK_len]; exact Nat.le_refl _
    have hne0 : (plainDoc ps ts ks).bl ≠ [] := by intro hn; rw [hn] at l4; simp at l4
    have fin : ∀ (hX : Heap) (pa pb : Nat) (B Z B' Z' : Sl), Ext h2 hX → h2.size ≤ pa → h2.size ≤ pb → pa ≠ pb → Var 46 hX pa (.agg [.slice Sl.nil, .slice Sl.nil]) → Var 46 hX pb (.agg [.slice Sl.nil, .slice Sl.nil]) → Ch hX B Z (plainDoc ps ts ks).bl (plainDoc ps ts ks).sh → Ch hX B' Z' (plainDoc ps ts ks).bl ((cutT ts b ks.length).zip (cutK ks b cut ks.length)) →
        wok hX pa 0 2 ∧ wok ((TV.agg [.slice B, .slice Z]).put hX pa 0) pb 0 2 ∧ J (some (Loc.mk pa 0), some (Loc.mk pb 0)) ((TV.agg [.slice B', .slice Z']).put ((TV.agg [.slice B, .slice Z]).put hX pa 0) pb 0) := by
      intro hX pa pb B Z B' Z' xX la lb hab va vb cX cX'
      obtain ⟨hY, eY, vY, oY, sY⟩ := put_spec va (.agg [.slice B, .slice Z]) rfl
      have vbY := vb.only oY (fun hx => hab hx.symm)
      obtain ⟨hZ, eZ, vZ, oZ, sZ⟩ := put_spec vbY (.agg [.slice B', .slice Z']) rfl
      have vaZ := vY.only oZ hab
      refine ⟨va.wok (by simp [TV.size, TVs.size]), ?_, ?_⟩
      · rw [eY]; exact vbY.wok (by simp [TV.size, TVs.size])
      · rw [eY, eZ]
        refine hJ _ _ ?_
        have xZ : Ext h2 hZ := Only.cut (Only.cut xX oY (by rintro b rfl; exact la)) oZ (by rintro b rfl; exact lb)
        have cZ := (cX.keep va oY).keep vbY oZ
        have cZ' := (cX'.keep va oY).keep vbY oZ
        have vmZ := vm.ext xZ
        have cmZ := cm2.ext xZ
        have gZa := vaZ.lt
        have lAZ := names_len cmZ.a
        refine ⟨A, vmZ.at1 rfl, ?_⟩
        refine ⟨fun s hh => 0 ≤ s.2 ∧ s.2 ≤ ps.length + 1 ∧ Ext hZ hh, fun s _ => ((ps.length + 1 : Int) - s.2).toNat, ⟨by simp, by simp; omega, Ext.refl _⟩, ?_⟩
        rintro ⟨u, n⟩ hh ⟨n0, n1, xh⟩
        simp only at n0 n1 ⊢
        have cmh := cmZ.ext xh
        have cah := cZ.ext xh
        have cbh := cZ'.ext xh
        have vah := vaZ.ext xh
        have vbh := vZ.ext xh
        refine If.dec.2 ⟨fun hn => ?_, fun hn => ?_⟩
        · refine names_at cmh.a n0 (by omega) fun l y hy hat => ⟨y, hat, ?_⟩
          obtain ⟨wr, hR, eR, vr, xr, sr⟩ := newput_spec hh (.bytes 32 (Bs.zero 32)) (.bytes 32 y) 37 rfl
          refine ⟨wr, ?_⟩
          rw [eR]
          dsimp only [Nn]
          have var := vah.ext xr
          have vbr := vbh.ext xr
          refine ⟨B, Z, ⟨var.at1 rfl, var.at1 rfl⟩, y, vr.bytes, B', Z', ⟨vbr.at1 rfl, vbr.at1 rfl⟩, y, vr.bytes, ?_⟩
          refine Weight_spec (cah.ext xr) fun h9 x9 => ⟨_, rfl, x9, ?_⟩
          refine Weight_spec ((cbh.ext xr).ext x9) fun h10 x10 => ⟨_, rfl, ?_⟩
          rw [weightAt_same hsame, decide_eq_true rfl]
          refine If.no ?_
          rw [wrap_i64 (n := n + 1) (by omega) (by omega)]
          exact ⟨⟨by omega, by omega, ((xh.trans xr).trans x9).trans x10⟩, by omega⟩
        · dsimp only [Nn]
          refine ⟨B, Z, ⟨vah.at1 rfl, vah.at1 rfl⟩, B', Z', ⟨vbh.at1 rfl, vbh.at1 rfl⟩, ?_⟩
          refine Head_spec cah fun h9 r9 x9 _ hr9 => ⟨r9, rfl, x9, ?_⟩
          refine Head_spec (cbh.ext x9) fun h10 r10 x10 _ hr10 => ⟨r10, rfl, ?_⟩
          have e9 := hr9 hne0
          have e10 := hr10 hne0
          rw [headOf_same hsame] at e9
          have he : decide (r9.1 = r10.1) = true := by
            rw [decide_eq_true_eq]
            exact e9.trans e10.symm
          rw [he]
          exact hr _ ((((xx2.trans xZ).trans xh).trans x9).trans x10)
    refine ⟨?_, ?_, ?_⟩
    · refine chain_spec (cm2.ext (Ext.refl h2)) cml1 cml2 fun h10 B10 Z10 c10 x10 => ⟨B10, Z10, rfl, x10, ?_⟩
      have g10 := x10.size
      refine ⟨?_, ?_, ?_⟩
      · refine chain_spec (ck2.ext ((Ext.refl h2).trans x10)) cml1 ckl2 fun h11 B11 Z11 c11 x11 => ⟨B11, Z11, rfl, ?_⟩
        have g11 := x11.size
        refine ⟨?_, ?_⟩
        · obtain ⟨h12, e12, v12, x12, s12⟩ := newTV_spec h11 (.agg [.slice Sl.nil, .slice Sl.nil]) 46
          rw [e12]
          refine ⟨x12, ?_⟩
          have g12 := x12.size
          have l12 := v12.lt
          obtain ⟨h13, e13, v13, x13, s13⟩ := newTV_spec h12 (.agg [.slice Sl.nil, .slice Sl.nil]) 46
          rw [e13]
          refine ⟨x13, ?_⟩
          have g13 := x13.size
          have l13 := v13.lt
          exact fin h13 h11.size h12.size B10 Z10 B11 Z11 (((((Ext.refl h2).trans x10).trans x11).trans x12).trans x13) (by omega) (by omega) (by omega) (v12.ext x13) v13 (((c10.ext x11).ext x12).ext x13) ((c11.ext x12).ext x13)
        · obtain ⟨h14, e14, v14, x14, s14⟩ := newTV_spec h11 (.agg [.slice Sl.nil, .slice Sl.nil]) 46
          rw [e14]
          refine ⟨x14, ?_⟩
          have g14 := x14.size
          have l14 := v14.lt
          obtain ⟨h15, e15, v15, x15, s15⟩ := newTV_spec h14 (.agg [.slice Sl.nil, .slice Sl.nil]) 46
          rw [e15]
          refine ⟨x15, ?_⟩
          have g15 := x15.size
          have l15 := v15.lt
          exact fin h15 h14.size h11.size B10 Z10 B11 Z11 (((((Ext.refl h2).trans x10).trans x11).trans x14).trans x15) (by omega) (by omega) (by omega) v15 (v14.ext x15) (((c10.ext x11).ext x14).ext x15) ((c11.ext x14).ext x15)
      · obtain ⟨h16, e16, v16, x16, s16⟩ := newTV_spec h10 (.agg [.slice Sl.nil, .slice Sl.nil]) 46
        rw [e16]
        refine ⟨x16, ?_⟩
        have g16 := x16.size
        have l16 := v16.lt
        refine ⟨?_, ?_⟩
        · refine chain_spec (ck2.ext (((Ext.refl h2).trans x10).trans x16)) cml1 ckl2 fun h17 B17 Z17 c17 x17 => ⟨B17, Z17, rfl, ?_⟩
          have g17 := x17.size
          obtain ⟨h18, e18, v18, x18, s18⟩ := newTV_spec h17 (.agg [.slice Sl.nil, .slice Sl.nil]) 46
          rw [e18]
          refine ⟨x18, ?_⟩
          have g18 := x18.size
          have l18 := v18.lt
          exact fin h18 h10.size h17.size B10 Z10 B17 Z17 (((((Ext.refl h2).trans x10).trans x16).trans x17).trans x18) (by omega) (by omega) (by omega) ((v16.ext x17).ext x18) v18 (((c10.ext x16).ext x17).ext x18) (c17.ext x18)
        · obtain ⟨h19, e19, v19, x19, s19⟩ := newTV_spec h16 (.agg [.slice Sl.nil, .slice Sl.nil]) 46
          rw [e19]
          refine ⟨x19, ?_⟩
          have g19 := x19.size
          have l19 := v19.lt
          refine chain_spec (ck2.ext ((((Ext.refl h2).trans x10).trans x16).trans x19)) cml1 ckl2 fun h20 B20 Z20 c20 x20 => ⟨B20, Z20, rfl, ?_⟩
          have g20 := x20.size
          exact fin h20 h10.size h16.size B10 Z10 B20 Z20 (((((Ext.refl h2).trans x10).trans x16).trans x19).trans x20) (by omega) (by omega) (by omega) ((v16.ext x19).ext x20) (v19.ext x20) (((c10.ext x16).ext x19).ext x20) c20
      · obtain ⟨h21, e21, v21, x21, s21⟩ := newTV_spec h10 (.agg [.slice Sl.nil, .slice Sl.nil]) 46
        rw [e21]
        refine ⟨x21, ?_⟩
        have g21 := x21.size
        have l21 := v21.lt
        refine ⟨?_, ?_⟩
        · refine chain_spec (ck2.ext (((Ext.refl h2).trans x10).trans x21)) cml1 ckl2 fun h22 B22 Z22 c22 x22 => ⟨B22, Z22, rfl, ?_⟩
          have g22 := x22.size
          obtain ⟨h23, e23, v23, x23, s23⟩ := newTV_spec h22 (.agg [.slice Sl.nil, .slice Sl.nil]) 46
          rw [e23]
          refine ⟨x23, ?_⟩
          have g23 := x23.size
          have l23 := v23.lt
          exact fin h23 h22.size h10.size B10 Z10 B22 Z22 (((((Ext.refl h2).trans x10).trans x21).trans x22).trans x23) (by omega) (by omega) (by omega) v23 ((v21.ext x22).ext x23) (((c10.ext x21).ext x22).ext x23) (c22.ext x23)
        · obtain ⟨h24, e24, v24, x24, s24⟩ := newTV_spec h21 (.agg [.slice Sl.nil, .slice Sl.nil]) 46
          rw [e24]
          refine ⟨x24, ?_⟩
          have g24 := x24.size
          have l24 := v24.lt
          refine chain_spec (ck2.ext ((((Ext.refl h2).trans x10).trans x21).trans x24)) cml1 ckl2 fun h25 B25 Z25 c25 x25 => ⟨B25, Z25, rfl, ?_⟩
          have g25 := x25.size
          exact fin h25 h21.size h10.size B10 Z10 B25 Z25 (((((Ext.refl h2).trans x10).trans x21).trans x24).trans x25) (by omega) (by omega) (by omega) (v24.ext x25) ((v21.ext x24).ext x25) (((c10.ext x21).ext x24).ext x25) c25
    · obtain ⟨h26, e26, v26, x26, s26⟩ := newTV_spec h2 (.agg [.slice Sl.nil, .slice Sl.nil]) 46
      rw [e26]
      refine ⟨x26, ?_⟩
      have g26 := x26.size
      have l26 := v26.lt
      refine ⟨?_, ?_⟩
      · refine chain_spec (cm2.ext ((Ext.refl h2).trans x26)) cml1 cml2 fun h27 B27 Z27 c27 x27 => ⟨B27, Z27, rfl, x27, ?_⟩
        have g27 := x27.size
        refine ⟨?_, ?_⟩
        · refine chain_spec (ck2.ext (((Ext.refl h2).trans x26).trans x27)) cml1 ckl2 fun h28 B28 Z28 c28 x28 => ⟨B28, Z28, rfl, ?_⟩
          have g28 := x28.size
          obtain ⟨h29, e29, v29, x29, s29⟩ := newTV_spec h28 (.agg [.slice Sl.nil, .slice Sl.nil]) 46
          rw [e29]
          refine ⟨x29, ?_⟩
          have g29 := x29.size
          have l29 := v29.lt
          exact fin h29 h2.size h28.size B27 Z27 B28 Z28 (((((Ext.refl h2).trans x26).trans x27).trans x28).trans x29) (by omega) (by omega) (by omega) (((v26.ext x27).ext x28).ext x29) v29 ((c27.ext x28).ext x29) (c28.ext x29)
        · obtain ⟨h30, e30, v30, x30, s30⟩ := newTV_spec h27 (.agg [.slice Sl.nil, .slice Sl.nil]) 46
          rw [e30]
          refine ⟨x30, ?_⟩
          have g30 := x30.size
          have l30 := v30.lt
          refine chain_spec (ck2.ext ((((Ext.refl h2).trans x26).trans x27).trans x30)) cml1 ckl2 fun h31 B31 Z31 c31 x31 => ⟨B31, Z31, rfl, ?_⟩
          have g31 := x31.size
          exact fin h31 h2.size h27.size B27 Z27 B31 Z31 (((((Ext.refl h2).trans x26).trans x27).trans x30).trans x31) (by omega) (by omega) (by omega) (((v26.ext x27).ext x30).ext x31) (v30.ext x31) ((c27.ext x30).ext x31) c31
      · obtain ⟨h32, e32, v32, x32, s32⟩ := newTV_spec h26 (.agg [.slice Sl.nil, .slice Sl.nil]) 46
        rw [e32]
        refine ⟨x32, ?_⟩
        have g32 := x32.size
        have l32 := v32.lt
        refine chain_spec (cm2.ext (((Ext.refl h2).trans x26).trans x32)) cml1 cml2 fun h33 B33 Z33 c33 x33 => ⟨B33, Z33, rfl, x33, ?_⟩
        have g33 := x33.size
        refine chain_spec (ck2.ext ((((Ext.refl h2).trans x26).trans x32).trans x33)) cml1 ckl2 fun h34 B34 Z34 c34 x34 => ⟨B34, Z34, rfl, ?_⟩
        have g34 := x34.size
        exact fin h34 h2.size h26.size B33 Z33 B34 Z34 (((((Ext.refl h2).trans x26).trans x32).trans x33).trans x34) (by omega) (by omega) (by omega) (((v26.ext x32).ext x33).ext x34) ((v32.ext x33).ext x34) (c33.ext x34) c34
    · obtain ⟨h35, e35, v35, x35, s35⟩ := newTV_spec h2 (.agg [.slice Sl.nil, .slice Sl.nil]) 46
      rw [e35]
      refine ⟨x35, ?_⟩
      have g35 := x35.size
      have l35 := v35.lt
      refine ⟨?_, ?_⟩
      · refine chain_spec (cm2.ext ((Ext.refl h2).trans x35)) cml1 cml2 fun h36 B36 Z36 c36 x36 => ⟨B36, Z36, rfl, x36, ?_⟩
        have g36 := x36.size
        refine ⟨?_, ?_⟩
        · refine chain_spec (ck2.ext (((Ext.refl h2).trans x35).trans x36)) cml1 ckl2 fun h37 B37 Z37 c37 x37 => ⟨B37, Z37, rfl, ?_⟩
          have g37 := x37.size
          obtain ⟨h38, e38, v38, x38, s38⟩ := newTV_spec h37 (.agg [.slice Sl.nil, .slice Sl.nil]) 46
          rw [e38]
          refine ⟨x38, ?_⟩
          have g38 := x38.size
          have l38 := v38.lt
          exact fin h38 h37.size h2.size B36 Z36 B37 Z37 (((((Ext.refl h2).trans x35).trans x36).trans x37).trans x38) (by omega) (by omega) (by omega) v38 (((v35.ext x36).ext x37).ext x38) ((c36.ext x37).ext x38) (c37.ext x38)
        · obtain ⟨h39, e39, v39, x39, s39⟩ := newTV_spec h36 (.agg [.slice Sl.nil, .slice Sl.nil]) 46
          rw [e39]
          refine ⟨x39, ?_⟩
          have g39 := x39.size
          have l39 := v39.lt
          refine chain_spec (ck2.ext ((((Ext.refl h2).trans x35).trans x36).trans x39)) cml1 ckl2 fun h40 B40 Z40 c40 x40 => ⟨B40, Z40, rfl, ?_⟩
          have g40 := x40.size
          exact fin h40 h36.size h2.size B36 Z36 B40 Z40 (((((Ext.refl h2).trans x35).trans x36).trans x39).trans x40) (by omega) (by omega) (by omega) (v39.ext x40) (((v35.ext x36).ext x39).ext x40) ((c36.ext x39).ext x40) c40
      · obtain ⟨h41, e41, v41, x41, s41⟩ := newTV_spec h35 (.agg [.slice Sl.nil, .slice Sl.nil]) 46
        rw [e41]
        refine ⟨x41, ?_⟩
        have g41 := x41.size
        have l41 := v41.lt
        refine chain_spec (cm2.ext (((Ext.refl h2).trans x35).trans x41)) cml1 cml2 fun h42 B42 Z42 c42 x42 => ⟨B42, Z42, rfl, x42, ?_⟩
        have g42 := x42.size
        refine chain_spec (ck2.ext ((((Ext.refl h2).trans x35).trans x41).trans x42)) cml1 ckl2 fun h43 B43 Z43 c43 x43 => ⟨B43, Z43, rfl, ?_⟩
        have g43 := x43.size
        exact fin h43 h35.size h2.size B42 Z42 B43 Z43 (((((Ext.refl h2).trans x35).trans x41).trans x42).trans x43) (by omega) (by omega) (by omega) ((v41.ext x42).ext x43) (((v35.ext x41).ext x42).ext x43) (c42.ext x43) c43

end
end Go.Proofs.Ytahoibjgojlpeaa.Ghost
