/- A message's tag, what is signed and checked, its votes. -/
import Derived.Test.YtgdhddignbkloaaSealC
namespace Go.Proofs.Ytgdhddignbkloaa.Board
open Go Go.Vc
section
variable {R : Value → Heap → Prop} {h : Heap}

def keyAt (L : List Vd) (i : Int) : List UInt8 := (L.getD i.toNat ⟨0, []⟩).key
/-- The tag of one who speaks. -/
def tag1 (L : List Vd) (m : Ms) (row : List Bool) (i : Int) : Bs 16 := macF (keyAt L i) (plainF (oneF m i) (oneR m row))
noncomputable def tagF (n : Nat) (com : Int) (L : List Vd) (m : Ms) (row : List Bool) : Bs 16 × Bool :=
  if (speakF n com m row).2 = true then (joinF ((speakF n com m row).1.map (tag1 L m row)) (Bs.zero 16), true) else (Bs.zero 16, false)

theorem bytes30 : (ctx.ti 30).bytes = 16 := by kernel_rfl
theorem size30 : (ctx.ti 30).size = 16 := by kernel_rfl
theorem zsize30 : (ctx.ti 30).z.size = 16 := by kernel_rfl

theorem one_elems {m : Ms} {row : List Bool} {h' : Heap} (e : Elems 1 h' m.bits (bools row)) (who : Int) : Elems 1 h' (oneF m who).bits (bools (oneR m row)) := by
  unfold oneF oneR
  split
  · exact Elems.nil_ 1 h'
  · exact e

theorem oneR_len (m : Ms) (row : List Bool) : (oneR m row).length ≤ row.length := by
  unfold oneR
  split <;> simp

set_option maxRecDepth 100000 in
theorem tag_spec {c : Cf} {m : Ms} {row : List Bool} {L : List Vd} (hv : c.vals.len < 900) (ev : Elems 2 h c.vals (vds L)) (hkey : ∀ v ∈ L, v.key.length ≤ 64) (e : Elems 1 h m.bits (bools row)) (hl : row.length < 500)
    (hr : ∀ h', Ext h h' → R (TV.tup [.bytes 16 (tagF c.vals.len c.com L m row).1, .bool (tagF c.vals.len c.com L m row).2]).val h') : CallsH Try.prog 11 (TVs.vals [c.tv, m.tv]) h R := by
  apply seal_Tag_calls c.vals c.ep c.com c.no c.orp c.ear c.quo c.pe c.by_ c.win c.ban c.dec m.kind m.slot m.target m.member m.body m.bits m.tag
  unfold seal_Tag_vc
  have lv : L.length = c.vals.len := by have := ev.len; rwa [List.length_map] at this
  refine newTV_in fun h1 v1 x1 s1 => newTV_in fun h2 v2 x2 s2 => newTV_in fun h3 v3 x3 s3 => ?_
  have v1 : Var 24 h3 h.size c.tv := (Var.ext (t := c.tv) v1 x2).ext x3
  have v2 : Var 32 h3 h1.size m.tv := Var.ext (t := m.tv) v2 x3
  have x03 := (x1.trans x2).trans x3
  refine cf_at v1 (ms_at v2 (speak_spec hv (e.ext x03) (by omega) fun h4 s4 e4 x4 => ⟨_, _, rfl, ?_⟩))
  have x04 := x03.trans x4
  have w1 := v1.ext x4
  have w2 := v2.ext x4
  have w3 := v3.ext x4
  refine If.split (fun hb => ?_) fun hb => ?_
  · have ht : tagF c.vals.len c.com L m row = (Bs.zero 16, false) := by
      unfold tagF
      rw [if_neg (by simpa using hb)]
    refine put_n w3 (t := .bytes 16 (Bs.zero 16)) rfl rfl fun h5 v5 f5 s5 => ⟨_, v5.bytes, ?_⟩
    have := hr h5 (Only.cut x04 f5 fun i hi => by have := x1.size; have := x2.size; omega)
    rw [ht] at this
    exact this
  · have hb : (speakF c.vals.len c.com m row).2 = true := by simpa using hb
    have ht : tagF c.vals.len c.com L m row = (joinF ((speakF c.vals.len c.com m row).1.map (tag1 L m row)) (Bs.zero 16), true) := by
      unfold tagF
      rw [if_pos hb]
    have hrange : ∀ x ∈ (speakF c.vals.len c.com m row).1, 0 ≤ x ∧ x < c.vals.len := fun x hx => mem_range (speak_mem hx)
    have hlen := speak_len (n := c.vals.len) (com := c.com) (m := m) (row := row)
    generalize (speakF c.vals.len c.com m row).1 = l at e4 ht hrange hlen
    have el := ints_len e4
    refine ⟨fun σ hh => 0 ≤ σ.2 ∧ σ.2 ≤ s4.len ∧ Own 30 16 hh σ.1 (tags ((l.take σ.2.toNat).map (tag1 L m row))) ∧ (∀ p, σ.1.a = some p → h4.size ≤ p.b) ∧ Ext h4 hh, fun σ _ => ((s4.len : Int) - σ.2).toNat,
      ⟨Int.le_refl 0, by first | omega | (dsimp only; omega), Own.nil _ _ _, (fun p hp => by cases hp), Ext.refl _⟩, ?_⟩
    rintro ⟨t, i⟩ h5 ⟨i0, i1, o5, b5, x5⟩
    dsimp only at i0 i1 o5 b5 x5 ⊢
    refine If.dec.2 ⟨fun hi => ?_, fun hi => ?_⟩
    · refine read_int (e4.ext x5) i0 (by omega) fun x hx => ?_
      have hxr := hrange x (List.mem_of_getElem? hx)
      refine ⟨c.vals, (w1.ext x5).at.1, ?_⟩
      refine ((ev.ext x04).ext x5).read hxr.1 (by omega) fun lv' tv hla htv hat => ?_
      rw [List.getElem?_map] at htv
      obtain ⟨vd, hvd, rfl⟩ := Option.map_eq_some_iff.1 htv
      have hky : keyAt L x = vd.key := by unfold keyAt; rw [List.getD_eq_getElem?_getD, hvd]; rfl
      have hk64 := hkey vd (List.mem_of_getElem? hvd)
      refine ⟨vd.key, hat.2, ms_at (w2.ext x5) ?_⟩
      have e5 : Elems 1 h5 m.bits (bools row) := (e.ext x04).ext x5
      refine one_spec (m := m) (who := x) fun h6 x6 => ⟨_, _, _, _, _, _, _, rfl, x6, ?_⟩
      have hol := oneR_len m row
      refine plain_spec (m := oneF m x) (one_elems (e5.ext x6) x) (by omega) fun h7 x7 => ⟨_, rfl, x7, Ext.push _ _, ?_⟩
      have hpl := plainF_len (oneF m x) (oneR m row)
      refine macof_spec (ts := [plainF (oneF m x) (oneR m row)]) hk64 (strs_elems (T := 9) h7 [plainF (oneF m x) (oneR m row)]) (by simp only [List.flatten_cons, List.flatten_nil, List.append_nil]; omega) (by simp) fun h8 x8 => ⟨_, rfl, ?_⟩
      have hf1 : [plainF (oneF m x) (oneR m row)].flatten = plainF (oneF m x) (oneR m row) := by simp
      rw [hf1]
      have x58 : Ext h5 h8 := ((x6.trans x7).trans (Ext.push _ _)).trans x8
      have o8 := o5.ext x58
      have tl := o8.len
      rw [List.length_map, List.length_map, List.length_take] at tl
      have hx' : macF vd.key (plainF (oneF m x) (oneR m row)) = tag1 L m row x := by unfold tag1; rw [hky]
      refine append1 (C := ctx) (T := 30) (sz := 16) (x := .bytes 16 (macF vd.key (plainF (oneF m x) (oneR m row)))) size30 zsize30 (by rw [bytes30]; decide) (by rw [bytes30]; omega) o8 rfl rfl fun s9 h9 o9 f9 b9 => ?_
      rw [wrap_i64 (n := i + 1) (by omega) (by omega)]
      have x9 : Ext h4 h9 := Only.cut (x5.trans x58) f9 fun j ⟨p, hp, hj⟩ => by have := b5 p hp; omega
      have z8 := (x5.trans x58).size
      refine ⟨⟨by omega, by omega, ?_, fun p hp => ?_, x9⟩, by first | omega | (dsimp only; omega)⟩
      · rw [show (i + 1).toNat = i.toNat + 1 by omega, take_snoc hx, List.map_append, List.map_cons, List.map_nil, ← hx']
        simpa [tags] using o9
      · rcases b9 p hp with ⟨p', h1', h2'⟩ | h1'
        · have := b5 p' h1'; omega
        · omega
    · have hall : l.take i.toNat = l := List.take_of_length_le (by omega)
      rw [hall] at o5
      refine join_spec o5.elems (by rw [List.length_map]; omega) fun h6 x6 => ⟨_, rfl, ?_⟩
      have x06 := (x04.trans x5).trans x6
      refine put_n ((w3.ext x5).ext x6) (t := .bytes 16 (joinF (l.map (tag1 L m row)) (Bs.zero 16))) rfl rfl fun h7 v7 f7 s7 => ⟨_, v7.bytes, ?_⟩
      have := hr h7 (Only.cut x06 f7 fun j hj => by have := x1.size; have := x2.size; omega)
      rw [ht] at this
      exact this

/-! ### Checked, signed -/

noncomputable def checkF (n : Nat) (com : Int) (L : List Vd) (m : Ms) (row : List Bool) : Bool := (tagF n com L m row).2 && decide ((tagF n com L m row).1.l = m.tag.l)

theorem check_spec {c : Cf} {m : Ms} {row : List Bool} {L : List Vd} (hv : c.vals.len < 900) (ev : Elems 2 h c.vals (vds L)) (hkey : ∀ v ∈ L, v.key.length ≤ 64) (e : Elems 1 h m.bits (bools row)) (hl : row.length < 500)
    (hr : ∀ h', Ext h h' → R (TV.bool (checkF c.vals.len c.com L m row)).val h') : CallsH Try.prog 17 (TVs.vals [c.tv, m.tv]) h R := by
  apply seal_Check_calls c.vals c.ep c.com c.no c.orp c.ear c.quo c.pe c.by_ c.win c.ban c.dec m.kind m.slot m.target m.member m.body m.bits m.tag
  unfold seal_Check_vc
  refine newTV_in fun h1 v1 x1 s1 => newTV_in fun h2 v2 x2 s2 => ?_
  have v1 : Var 24 h2 h.size c.tv := Var.ext (t := c.tv) v1 x2
  have v2 : Var 32 h2 h1.size m.tv := v2
  have x02 := x1.trans x2
  refine cf_at v1 (ms_at v2 (tag_spec hv (ev.ext x02) hkey (e.ext x02) hl fun h3 x3 => ⟨_, _, rfl, ?_⟩))
  refine newTV_in fun h4 v4 x4 s4 => put_n v4 (t := .bytes 16 (tagF c.vals.len c.com L m row).1) rfl rfl fun h5 v5 f5 s5 => ?_
  have x35 : Ext h3 h5 := Only.cut x4 f5 fun i hi => by omega
  have x05 := (x02.trans x3).trans x35
  have hr5 := hr h5 x05
  unfold checkF at hr5
  refine If.split (fun hb => ?_) fun hb => ?_
  · rw [hb, Bool.true_and] at hr5
    have w2 := (v2.ext x3).ext x35
    exact ⟨_, v5.bytes, m.tag, w2.at.2.2.2.2.2.2, hr5⟩
  · rw [hb, Bool.false_and] at hr5
    exact hr5

noncomputable def signF (n : Nat) (com : Int) (L : List Vd) (m : Ms) (row : List Bool) : Ms × Bool :=
  if (tagF n com L m row).2 = true then ({ m with tag := (tagF n com L m row).1 }, true) else (zeroM, false)

set_option maxRecDepth 100000 in
theorem sign_spec {c : Cf} {m : Ms} {row : List Bool} {L : List Vd} (hv : c.vals.len < 900) (ev : Elems 2 h c.vals (vds L)) (hkey : ∀ v ∈ L, v.key.length ≤ 64) (e : Elems 1 h m.bits (bools row)) (hl : row.length < 500)
    (hr : ∀ h', Ext h h' → R (TV.tup [(signF c.vals.len c.com L m row).1.tv, .bool (signF c.vals.len c.com L m row).2]).val h') : CallsH Try.prog 22 (TVs.vals [c.tv, m.tv]) h R := by
  apply seal_Sign_calls c.vals c.ep c.com c.no c.orp c.ear c.quo c.pe c.by_ c.win c.ban c.dec m.kind m.slot m.target m.member m.body m.bits m.tag
  unfold seal_Sign_vc
  refine newTV_in fun h1 v1 x1 s1 => newTV_in fun h2 v2 x2 s2 => newTV_in fun h3 v3 x3 s3 => ?_
  have v1 : Var 24 h3 h.size c.tv := (Var.ext (t := c.tv) v1 x2).ext x3
  have v2 : Var 32 h3 h1.size m.tv := Var.ext (t := m.tv) v2 x3
  have v3 : Var 32 h3 h2.size zeroM.tv := v3
  have x03 := (x1.trans x2).trans x3
  refine cf_at v1 (ms_at v2 (tag_spec hv (ev.ext x03) hkey (e.ext x03) hl fun h4 x4 => ⟨_, _, rfl, ?_⟩))
  have z1 := x1.size
  have z2 := x2.size
  have z3 := x3.size
  have z4 := x4.size
  refine newTV_in fun h5 v5 x5 s5 => put_n v5 (t := .bytes 16 (tagF c.vals.len c.com L m row).1) rfl rfl fun h6 v6 f6 s6 => ?_
  have x46 : Ext h4 h6 := Only.cut x5 f6 fun i hi => by omega
  have x06 := (x03.trans x4).trans x46
  have w2 : Var 32 h6 h1.size m.tv := (v2.ext x4).ext x46
  have w3 : Var 32 h6 h2.size zeroM.tv := (v3.ext x4).ext x46
  refine If.split (fun hb => ?_) fun hb => ⟨_, v6.bytes, ?_⟩
  · have hs : signF c.vals.len c.com L m row = (zeroM, false) := by
      unfold signF
      rw [if_neg (by simpa using hb)]
    refine put_n w3 (t := zeroM.tv) mssz1 mssz fun h7 v7 f7 s7 => ms_at v7 ?_
    have := hr h7 (Only.cut x06 f7 fun i hi => by omega)
    rw [hs] at this
    exact this
  · have hs : signF c.vals.len c.com L m row = ({ m with tag := (tagF c.vals.len c.com L m row).1 }, true) := by
      unfold signF
      rw [if_pos (by simpa using hb)]
    refine field_in (i := 6) (t := .bytes 16 (tagF c.vals.len c.com L m row).1) (t0 := .bytes 16 m.tag) w2 rfl rfl rfl rfl fun h7 v7 f7 s7 => ?_
    have v7 : Var 32 h7 h1.size ({ m with tag := (tagF c.vals.len c.com L m row).1 } : Ms).tv := v7
    have x07 : Ext h h7 := Only.cut x06 f7 fun i hi => by omega
    refine ms_at v7 ?_
    have w3' : Var 32 h7 h2.size zeroM.tv := w3.only f7 (by omega)
    refine put_n w3' (t := ({ m with tag := (tagF c.vals.len c.com L m row).1 } : Ms).tv) mssz1 mssz fun h8 v8 f8 s8 => ms_at v8 ?_
    have := hr h8 (Only.cut x07 f8 fun i hi => by omega)
    rw [hs] at this
    exact this

/-! ### Votes -/

structure Vt where
  who : Int
  slot : Int
  target : Bs 32
def Vt.tv (v : Vt) : TV := .agg [.int .i64 v.who, .int .i64 v.slot, .bytes 32 v.target]
abbrev vts (l : List Vt) : List TV := l.map Vt.tv
theorem Vt.size (v : Vt) : v.tv.size = 34 := by simp only [Vt.tv, TV.size, TVs.size]
theorem Vt.plain (v : Vt) : v.tv.plain = true := by simp only [Vt.tv, TV.plain, TVs.plain, Bool.and_self]

noncomputable def votesF (n : Nat) (com : Int) (m : Ms) (row : List Bool) : List Vt :=
  if (speakF n com m row).2 = false ∨ m.kind = 1 then [] else (speakF n com m row).1.map fun i => ⟨i, m.slot, m.target⟩

theorem bytes41 : (ctx.ti 41).bytes = 48 := by kernel_rfl
theorem size41 : (ctx.ti 41).size = 34 := by kernel_rfl
theorem zsize41 : (ctx.ti 41).z.size = 34 := by kernel_rfl

theorem votes_spec {c : Cf} {m : Ms} {row : List Bool} (hv : c.vals.len < 900) (e : Elems 1 h m.bits (bools row)) (hl : row.length < 500)
    (hr : ∀ h' s', Elems 34 h' s' (vts (votesF c.vals.len c.com m row)) → Ext h h' → R (TV.slice s').val h') : CallsH Try.prog 12 (TVs.vals [c.tv, m.tv]) h R := by
  apply seal_Votes_calls c.vals c.ep c.com c.no c.orp c.ear c.quo c.pe c.by_ c.win c.ban c.dec m.kind m.slot m.target m.member m.body m.bits m.tag
  unfold seal_Votes_vc
  refine newTV_in fun h1 v1 x1 s1 => newTV_in fun h2 v2 x2 s2 => ?_
  have v1 : Var 24 h2 h.size c.tv := Var.ext (t := c.tv) v1 x2
  have v2 : Var 32 h2 h1.size m.tv := v2
  have x02 := x1.trans x2
  refine cf_at v1 (ms_at v2 (speak_spec hv (e.ext x02) (by omega) fun h3 s3 e3 x3 => ⟨_, _, rfl, ?_⟩))
  have x03 := x02.trans x3
  have w2 := v2.ext x3
  intro J HJ
  refine If.split (fun hb => ?_) fun hb => ⟨_, w2.at.1, If.dec.2 ⟨fun hk => ?_, fun hk => HJ _ _ ?_⟩⟩
  · have hs : votesF c.vals.len c.com m row = [] := if_pos (.inl (by simpa using hb))
    exact hr h3 Sl.nil (by rw [hs]; exact Elems.nil_ _ _) x03
  · have hs : votesF c.vals.len c.com m row = [] := if_pos (.inr hk)
    exact hr h3 Sl.nil (by rw [hs]; exact Elems.nil_ _ _) x03
  · have hb : (speakF c.vals.len c.com m row).2 = true := by simpa using hb
    have hs : votesF c.vals.len c.com m row = (speakF c.vals.len c.com m row).1.map fun i => ⟨i, m.slot, m.target⟩ := if_neg (by rw [hb]; rintro (h | h); cases h; exact hk h)
    have hlen := speak_len (n := c.vals.len) (com := c.com) (m := m) (row := row)
    generalize (speakF c.vals.len c.com m row).1 = l at e3 hs hlen
    have el := ints_len e3
    refine ⟨fun σ hh => 0 ≤ σ.2 ∧ σ.2 ≤ s3.len ∧ Own 41 34 hh σ.1 (vts ((l.take σ.2.toNat).map fun i => ⟨i, m.slot, m.target⟩)) ∧ (∀ p, σ.1.a = some p → h3.size ≤ p.b) ∧ Ext h3 hh, fun σ _ => ((s3.len : Int) - σ.2).toNat,
      ⟨Int.le_refl 0, by first | omega | (dsimp only; omega), Own.nil _ _ _, (fun p hp => by cases hp), Ext.refl _⟩, ?_⟩
    rintro ⟨t, i⟩ h5 ⟨i0, i1, o5, b5, x5⟩
    dsimp only at i0 i1 o5 b5 x5 ⊢
    refine If.dec.2 ⟨fun hi => ?_, fun hi => ?_⟩
    · refine read_int (e3.ext x5) i0 (by omega) fun x hx => ?_
      have w5 := w2.ext x5
      refine ⟨_, w5.at.2.1, _, w5.at.2.2.1, ?_⟩
      have tl := o5.len
      rw [List.length_map, List.length_map, List.length_take] at tl
      refine append1 (C := ctx) (T := 41) (sz := 34) (x := Vt.tv ⟨x, m.slot, m.target⟩) size41 zsize41 (by rw [bytes41]; decide) (by rw [bytes41]; omega) o5 (Vt.size _) (Vt.plain _) fun s9 h9 o9 f9 b9 => ?_
      rw [wrap_i64 (n := i + 1) (by omega) (by omega)]
      have x9 : Ext h3 h9 := Only.cut x5 f9 fun j ⟨p, hp, hj⟩ => by have := b5 p hp; omega
      have z5 := x5.size
      refine ⟨⟨by omega, by omega, ?_, fun p hp => ?_, x9⟩, by first | omega | (dsimp only; omega)⟩
      · rw [show (i + 1).toNat = i.toNat + 1 by omega, take_snoc hx, List.map_append]
        simpa [vts] using o9
      · rcases b9 p hp with ⟨p', h1', h2'⟩ | h1'
        · have := b5 p' h1'; omega
        · omega
    · have hall : l.take i.toNat = l := List.take_of_length_le (by omega)
      rw [hall] at o5
      refine hr h5 t ?_ (x03.trans x5)
      rw [hs]
      exact o5.elems

end
end Go.Proofs.Ytgdhddignbkloaa.Board
