/- Who may play, with their keys; rows of votes are the same; SealOwn. -/
import Derived.Test.YtgdhddignbkloaaSealE
import Derived.Test.YtgdhddignbkloaaVsSealOwn
namespace Go.Proofs.Ytgdhddignbkloaa.Board
open Go Go.Vc
section
variable {R : Value → Heap → Prop} {h : Heap} {c : Cf}

/-- A key that can be. -/
def KeyOk (v : Vd) : Prop := 1 ≤ v.key.length ∧ v.key.length ≤ 32

theorem total2_spec {s : Sl} {L : List Vd} (e : Elems 2 h s (vds L)) (hl : s.len < 100000) (hr : ∀ h' n b, Ext h h' → (b = true → ∀ v ∈ L, KeyOk v) → R (TV.tup [.int .i64 n, .bool b]).val h') : CallsH Try.prog 42 (TVs.vals [.slice s]) h R := by
  apply tollerref05_Total_calls
  unfold tollerref05_Total_vc
  have el : L.length = s.len := by have := e.len; rwa [List.length_map] at this
  refine ⟨fun σ hh => 0 ≤ σ.2.2.2 ∧ σ.2.2.2 ≤ s.len ∧ Ext h hh ∧ ∀ v ∈ L.take σ.2.2.2.toNat, KeyOk v, fun σ _ => ((s.len : Int) - σ.2.2.2).toNat, ⟨Int.le_refl 0, by first | omega | (dsimp only; omega), Ext.refl _, fun v hv => by simp at hv⟩, ?_⟩
  rintro ⟨a1, a2, a3, i⟩ h2 ⟨i0, i1, x2, hk⟩
  dsimp only at i0 i1 hk ⊢
  have no : (false = true → ∀ v ∈ L, KeyOk v) := fun hx => by cases hx
  refine If.dec.2 ⟨fun hi => ?_, fun hi => hr h2 _ _ x2 (fun _ => ?_)⟩
  · refine read_vd (e.ext x2) i0 (by omega) fun x hx => newTV_in fun h3 v3 x3 s3 => put_in v3 (t := x.tv) rfl fun h4 v4 o4 s4 => ?_
    have x4 : Ext h h4 := x2.trans (Only.cut x3 o4 fun i hi => by omega)
    refine ⟨x.stake, v4.at1 rfl, If.dec.2 ⟨fun _ => hr h4 _ _ x4 no, fun _ => ⟨x.key, v4.at1 rfl, If.dec.2 ⟨fun _ => hr h4 _ _ x4 no, fun k1 => ⟨x.key, v4.at1 rfl, If.dec.2 ⟨fun _ => hr h4 _ _ x4 no, fun k2 => ⟨x.stake, v4.at1 rfl, If.dec.2 ⟨fun _ => hr h4 _ _ x4 no, fun _ => ?_⟩⟩⟩⟩⟩⟩⟩⟩
    rw [wrap_i64 (n := i + 1) (by omega) (by omega)]
    refine ⟨⟨by first | omega | (dsimp only; omega), by first | omega | (dsimp only; omega), x4, ?_⟩, by first | omega | (dsimp only; omega)⟩
    try dsimp only
    rw [show (i + 1).toNat = i.toNat + 1 by omega, take_snoc hx]
    intro v hv
    rcases List.mem_append.1 hv with h1 | h1
    · exact hk v h1
    · rw [List.mem_singleton.1 h1]
      exact ⟨by omega, by omega⟩
  · rwa [List.take_of_length_le (by omega)] at hk

/-- What of a configuration that can be is of use here. -/
structure Fine2 (c : Cf) (L : List Vd) : Prop where
  fine : Fine c
  keys : ∀ v ∈ L, KeyOk v

theorem good2_spec {L : List Vd} (e : Elems 2 h c.vals (vds L)) (hv : c.vals.len ≤ 100) (hn : ∀ h', Ext h h' → R (TV.bool false).val h') (hy : ∀ h', Ext h h' → Fine2 c L → R (TV.bool true).val h') : CallsH Try.prog 25 (TVs.vals [c.tv]) h R := by
  apply tollerref05_Good_calls c.vals c.ep c.com c.no c.orp c.ear c.quo c.pe c.by_ c.win c.ban c.dec
  unfold tollerref05_Good_vc
  refine newTV_in fun h1 v1 x1 s1 => ?_
  refine ⟨c.vals, c.ep, c.com, c.no, c.orp, c.ear, c.quo, c.pe, c.by_, c.win, c.ban, c.dec, v1.at, ?_⟩
  refine numbers_spec (c := c) fun h2 s2 e2 x2 => ⟨_, rfl, ?_⟩
  have x02 := x1.trans x2
  have el := ints_len e2
  have hl24 : (nums c).length = 24 := rfl
  refine ⟨fun σ hh => 0 ≤ σ.2 ∧ σ.2 ≤ 24 ∧ σ.2 % 2 = 0 ∧ hh = h2 ∧ (∀ j : Nat, j < σ.2.toNat → j % 2 = 0 → ∀ x y, (nums c)[j]? = some x → (nums c)[j + 1]? = some y → 1 ≤ x ∧ x ≤ y), fun σ _ => ((24 : Int) - σ.2).toNat,
    ⟨Int.le_refl 0, by decide, by decide, rfl, fun j hj => by simp at hj⟩, ?_⟩
  rintro ⟨f, i⟩ hh ⟨i0, i1, i2, rfl, hall⟩
  dsimp only at i0 i1 i2 hall ⊢
  refine If.dec.2 ⟨fun hi => ?_, fun hi => ?_⟩
  · refine read_int e2 i0 (by omega) fun x hx => If.dec.2 ⟨fun _ => hn _ x02, fun hx1 => ?_⟩
    rw [wrap_i64 (n := i + 1) (by omega) (by omega), wrap_i64 (n := i + 2) (by omega) (by omega)]
    refine read_int e2 i0 (by omega) fun x' hx' => read_int e2 (i := i + 1) (by omega) (by omega) fun y hy' => If.dec.2 ⟨fun _ => hn _ x02, fun hxy => ?_⟩
    rw [hx] at hx'
    injection hx' with hx'
    subst hx'
    refine ⟨⟨by first | omega | (dsimp only; omega), by first | omega | (dsimp only; omega), by first | omega | (dsimp only; omega), rfl, fun j hj h2' => ?_⟩, by first | omega | (dsimp only; omega)⟩
    try dsimp only at hj
    by_cases hji : j < i.toNat
    · exact hall j hji h2'
    · have hj2 : j = i.toNat := by omega
      subst hj2
      intro a b ha hb
      rw [hx] at ha
      injection ha with ha
      have hi1 : (i + 1).toNat = i.toNat + 1 := by omega
      rw [hi1] at hy'
      rw [hy'] at hb
      injection hb with hb
      omega
  · refine ⟨c.vals, (v1.ext x2).at1 rfl, total2_spec (e.ext x02) (by omega) fun h3 n b x3 hk => ⟨n, b, rfl, ?_⟩⟩
    have hi3 : i.toNat = 24 := by omega
    rw [hi3] at hall
    have h2 := hall 2 (by decide) (by decide) c.com (mn 16 (c.vals.len : Int)) rfl rfl
    have h22 := hall 22 (by decide) (by decide) (c.vals.len : Int) 64 rfl rfl
    rw [mn_eq] at h2
    cases b with
    | false => exact hn h3 (x02.trans x3)
    | true => exact hy h3 (x02.trans x3) ⟨⟨h2.1, by omega, by omega, by omega⟩, hk rfl⟩

/-- More than is played? -/
theorem great8_spec {L : List Vd} {m : Ms} {row : List Bool} (e : Elems 2 h c.vals (vds L)) (em : Elems 1 h m.bits (bools row)) (hy : ∀ h', Ext h h' → R (TV.bool true).val h') (hn : ∀ h', Ext h h' → Fine2 c L → row.length ≤ 200 → R (TV.bool false).val h') :
    CallsH Try.prog 10 (TVs.vals [c.tv, m.tv]) h R := by
  apply tollerlaw08_great_calls c.vals c.ep c.com c.no c.orp c.ear c.quo c.pe c.by_ c.win c.ban c.dec m.kind m.slot m.target m.member m.body m.bits m.tag
  unfold tollerlaw08_great_vc
  have el : row.length = m.bits.len := by have := em.len; rwa [List.length_map] at this
  refine newTV_in fun h1 v1 x1 s1 => newTV_in fun h2 v2 x2 s2 => ?_
  have v1 : Var 24 h2 h.size c.tv := Var.ext (t := c.tv) v1 x2
  have v2 : Var 32 h2 h1.size m.tv := v2
  have x02 := x1.trans x2
  refine cf_at v1 (great_spec (c := c) (e.ext x02) (fun h3 x3 => ⟨_, rfl, If.yes (hy h3 (x02.trans x3))⟩) fun h3 x3 h100 => ⟨_, rfl, If.no ?_⟩)
  have x03 := x02.trans x3
  refine cf_at (v1.ext x3) (good2_spec (c := c) (e.ext x03) h100 (fun h4 x4 => ⟨_, rfl, If.yes (hy h4 (x03.trans x4))⟩) fun h4 x4 hf => ⟨_, rfl, If.no ?_⟩)
  have x04 := x03.trans x4
  have w2 := (v2.ext x3).ext x4
  refine ⟨m.bits, w2.at.2.2.2.2.2.1, ?_⟩
  by_cases hb : (200 : Int) < (m.bits.len : Int)
  · rw [decide_eq_true hb]
    exact hy h4 x04
  · rw [decide_eq_false hb]
    exact hn h4 x04 hf (by omega)

/-- Two rows of the same votes are the same. -/
theorem vsame_spec {s t : Sl} {l : List Vt} (e : Elems 34 h s (vts l)) (k : Elems 34 h t (vts l)) (hl : l.length < 100000) (hr : R (TV.bool true).val h) : CallsH Try.prog 16 (TVs.vals [.slice s, .slice t]) h R := by
  apply tollerref08_Same_calls
  unfold tollerref08_Same_vc
  have es : l.length = s.len := by have := e.len; rwa [List.length_map] at this
  have et : l.length = t.len := by have := k.len; rwa [List.length_map] at this
  refine If.split (fun hb => ?_) fun _ => ?_
  · have : ((s.len : Nat) : Int) = ((t.len : Nat) : Int) := by omega
    simp [this] at hb
  refine ⟨fun σ hh => 0 ≤ σ.2 ∧ σ.2 ≤ s.len ∧ hh = h, fun σ _ => ((s.len : Int) - σ.2).toNat, ⟨Int.le_refl 0, by first | omega | (dsimp only; omega), rfl⟩, ?_⟩
  rintro ⟨f, i⟩ hh ⟨i0, i1, rfl⟩
  dsimp only at i0 i1 ⊢
  refine If.dec.2 ⟨fun hi => ?_, fun hi => hr⟩
  refine e.read i0 hi fun l1 t1 ha1 ht1 at1' => ?_
  rw [List.getElem?_map] at ht1
  obtain ⟨x, hx, rfl⟩ := Option.map_eq_some_iff.1 ht1
  refine ⟨x.who, x.slot, x.target, at1', k.read i0 (by omega) fun l2 t2 ha2 ht2 at2' => ?_⟩
  rw [List.getElem?_map] at ht2
  obtain ⟨y, hy, rfl⟩ := Option.map_eq_some_iff.1 ht2
  rw [hx] at hy
  obtain rfl := Option.some.inj hy
  refine ⟨x.who, x.slot, x.target, at2', ?_⟩
  have : (!(decide (x.who = x.who) && (decide (x.slot = x.slot) && (decide (x.target.l = x.target.l) && true)))) = false := by simp
  rw [this]
  refine If.no ?_
  rw [wrap_i64 (n := i + 1) (by omega) (by omega)]
  exact ⟨⟨by first | omega | (dsimp only; omega), by first | omega | (dsimp only; omega), rfl⟩, by first | omega | (dsimp only; omega)⟩

theorem votes_len {n : Nat} {com : Int} {m : Ms} {row : List Bool} : (votesF n com m row).length ≤ n + 1 := by
  unfold votesF
  split
  · simp
  · rw [List.length_map]; exact speak_len

theorem keys64 {L : List Vd} (hk : ∀ v ∈ L, KeyOk v) : ∀ v ∈ L, v.key.length ≤ 64 := fun v hv => by have := (hk v hv).2; omega

theorem speak_tag_ok (n : Nat) (com : Int) (L : List Vd) (m : Ms) (row : List Bool) : (tagF n com L m row).2 = (speakF n com m row).2 := by
  unfold tagF
  split
  · rename_i h; exact h.symm
  · rename_i h; simp at h; exact h.symm

/-- WHAT A MESSAGE'S TAG IS PLAYS NO PART. -/
theorem sealOwn_spec {m : Ms} {t : Bs 16} (hc : ∃ L, Elems 2 h c.vals (vds L)) (hm : ∃ row, Elems 1 h m.bits (bools row)) (hr : ∀ h', Ext h h' → R (TV.bool true).val h') : CallsH Try.prog 4 (TVs.vals [c.tv, m.tv, .bytes 16 t]) h R := by
  obtain ⟨L, e⟩ := hc
  obtain ⟨row, em⟩ := hm
  apply tollerlaw08_SealOwn_calls c.vals c.ep c.com c.no c.orp c.ear c.quo c.pe c.by_ c.win c.ban c.dec m.kind m.slot m.target m.member m.body m.bits m.tag
  unfold tollerlaw08_SealOwn_vc
  refine newTV_in fun h1 v1 x1 s1 => newTV_in fun h2 v2 x2 s2 => newTV_in fun h3 v3 x3 s3 => ?_
  have v1 : Var 24 h3 h.size c.tv := (Var.ext (t := c.tv) v1 x2).ext x3
  have v2 : Var 32 h3 h1.size m.tv := Var.ext (t := m.tv) v2 x3
  have x03 := (x1.trans x2).trans x3
  refine alive_spec fun h4 x4 => ⟨_, rfl, If.no ?_⟩
  have x04 := x03.trans x4
  have v14 := v1.ext x4
  have v24 := v2.ext x4
  refine cf_at v14 (ms_at v24 (great8_spec (e.ext x04) (em.ext x04) (fun h5 x5 => ⟨_, rfl, If.yes (hr h5 (x04.trans x5))⟩) fun h5 x5 hf h200 => ⟨_, rfl, If.no ?_⟩))
  have x05 := x04.trans x5
  have hv : c.vals.len < 900 := by have := hf.fine.len; omega
  have hk := keys64 hf.keys
  have v15 := v14.ext x5
  have v25 := v24.ext x5
  refine ms_at v25 (newTV_in fun h6 v6 x6 s6 => put_n (t0 := zeroM.tv) v6 (t := m.tv) mssz1 mssz fun h7 v7 f7 s7 => ?_)
  have x57 : Ext h5 h7 := Only.cut x6 f7 fun i hi => by omega
  have v37 : Var 30 h7 h2.size (.bytes 16 t) := ((v3.ext x4).ext x5).ext x57
  refine ⟨t, v37.bytes, ?_⟩
  refine field_in (i := 6) (t := .bytes 16 t) (t0 := .bytes 16 m.tag) v7 rfl rfl rfl rfl fun h8 v8 f8 s8 => ?_
  have v8 : Var 32 h8 h5.size ({ m with tag := t } : Ms).tv := v8
  have x58 : Ext h5 h8 := Only.cut x57 f8 fun i hi => by omega
  have x08 := x05.trans x58
  refine cf_at (v15.ext x58) (ms_at (v25.ext x58) (tag_spec hv (e.ext x08) hk (em.ext x08) (by omega) fun h9 x9 => ⟨_, _, rfl, ?_⟩))
  have x09 := x08.trans x9
  refine newTV_in fun h10 v10 x10 s10 => put_n v10 (t := .bytes 16 (tagF c.vals.len c.com L m row).1) rfl rfl fun h11 v11 f11 s11 => ?_
  have x911 : Ext h9 h11 := Only.cut x10 f11 fun i hi => by omega
  have x011 := x09.trans x911
  have x811 := x9.trans x911
  have x511 := x58.trans x811
  refine cf_at (v15.ext x511) (ms_at (v8.ext x811) (tag_spec (m := { m with tag := t }) hv (e.ext x011) hk (em.ext x011) (by omega) fun h12 x12 => ⟨_, _, rfl, ?_⟩))
  rw [tagF_tag]
  refine newTV_in fun h13 v13 x13 s13 => put_n v13 (t := .bytes 16 (tagF c.vals.len c.com L m row).1) rfl rfl fun h14 v14' f14 s14 => ?_
  have x1214 : Ext h12 h14 := Only.cut x13 f14 fun i hi => by omega
  have x1114 := x12.trans x1214
  have x014 := x011.trans x1114
  have x514 := x511.trans x1114
  have x814 := x811.trans x1114
  refine cf_at (v15.ext x514) (ms_at (v25.ext x514) (speak_spec hv (em.ext x014) (by omega) fun h15 s15 e15 x15 => ⟨_, _, rfl, ?_⟩))
  have x515 := x514.trans x15
  have x815 := x814.trans x15
  have x015 := x014.trans x15
  refine cf_at (v15.ext x515) (ms_at (v8.ext x815) (speak_spec (m := { m with tag := t }) hv (em.ext x015) (by omega) fun h16 s16 e16 x16 => ⟨_, _, rfl, ?_⟩))
  have x516 := x515.trans x16
  have x816 := x815.trans x16
  have x016 := x015.trans x16
  rw [speak_tag] at e16 ⊢
  have w11 : Var 30 h16 h9.size (.bytes 16 (tagF c.vals.len c.com L m row).1) := ((v11.ext x1114).ext x15).ext x16
  have w14 : Var 30 h16 h12.size (.bytes 16 (tagF c.vals.len c.com L m row).1) := (v14'.ext x15).ext x16
  refine ⟨_, w11.bytes, _, w14.bytes, ?_⟩
  rw [speak_tag_ok]
  refine If.dec.2 ⟨fun _ => ?_, fun hx => absurd rfl hx⟩
  have yes : ∀ (b : Bool) (p q : Prop), p → If (b == b) p q := fun b p q hp => by cases b <;> exact hp
  refine yes _ _ _ (yes _ _ _ (yes _ _ _ ?_))
  refine same_spec (e15.ext x16) e16 (by have := speak_len (n := c.vals.len) (com := c.com) (m := m) (row := row); omega) ⟨_, rfl, ?_⟩
  rw [decide_eq_true rfl]
  refine If.yes (cf_at (v15.ext x516) (ms_at (v25.ext x516) (cf_at (v15.ext x516) (ms_at (v8.ext x816) ?_))))
  refine votes_spec (m := m) hv (em.ext x016) (by omega) fun h17 s17 e17 x17 => ⟨_, rfl, x17, ?_⟩
  have x017 := x016.trans x17
  refine votes_spec (m := { m with tag := t }) hv (em.ext x017) (by omega) fun h18 s18 e18 x18 => ⟨_, rfl, ?_⟩
  rw [votes_tag] at e18
  refine vsame_spec (e17.ext x18) e18 (by have := votes_len (n := c.vals.len) (com := c.com) (m := m) (row := row); omega) ⟨_, rfl, If.yes ?_⟩
  have x1618 := x17.trans x18
  have x018 := x016.trans x1618
  refine cf_at ((v15.ext x516).ext x1618) (ms_at ((v8.ext x816).ext x1618) (check_spec (m := { m with tag := t }) hv (e.ext x018) hk (em.ext x018) (by omega) fun h19 x19 => ⟨_, rfl, ?_⟩))
  have hend := hr h19 (x018.trans x19)
  unfold checkF
  rw [tagF_tag, speak_tag_ok]
  refine If.split (fun hb => ?_) fun hb => ?_
  · refine ⟨_, ((((v37.only f8 (by have := x4.size; have := x5.size; omega)).ext (x816.trans x1618)).ext x19)).bytes, _, ((w11.ext x1618).ext x19).bytes, ?_⟩
    rw [hb, Bool.true_and]
    have : (decide ((tagF c.vals.len c.com L m row).1.l = t.l) == decide (t.l = (tagF c.vals.len c.com L m row).1.l)) = true := by
      by_cases hx : (tagF c.vals.len c.com L m row).1.l = t.l
      · rw [decide_eq_true hx, decide_eq_true hx.symm]; rfl
      · rw [decide_eq_false hx, decide_eq_false (fun hy => hx hy.symm)]; rfl
    show R (TV.bool (decide ((tagF c.vals.len c.com L m row).1.l = t.l) == decide (t.l = (tagF c.vals.len c.com L m row).1.l))).val h19
    rw [this]
    exact hend
  · rw [hb, Bool.false_and]
    exact hend

end
end Go.Proofs.Ytgdhddignbkloaa.Board
