/- Slices in memory, continued: all of another slice is appended; a copy with one element more. -/
import Derived.Test.YtgdhddignbkloaaVcS
namespace Go.Vc
open Go

theorem Elems.cells {sz : Nat} {h : Heap} {s : Sl} {us : List TV} (e : Elems sz h s us) (hs : ∀ u ∈ us, u.size = sz) (hp : 0 < sz) : slAt h s sz (TVs.cells us) := by
  have hl := TVs.cells_uniform us hs
  refine ⟨by rw [hl, e.len], ?_⟩
  cases ha : s.a with
  | none =>
    left
    have := e.nil ha
    have hlen := e.len
    rw [this] at hlen
    exact ⟨hlen.symm, rfl⟩
  | some l =>
    right
    refine ⟨l, rfl, fun j hj => ?_⟩
    rw [hl] at hj
    have hi : j / sz < us.length := by rw [Nat.div_lt_iff_lt_mul hp]; exact hj
    have hget : us[j / sz]? = some us[j / sz] := List.getElem?_eq_getElem hi
    have hm : j % sz < sz := Nat.mod_lt _ hp
    have hd : j / sz * sz + j % sz = j := by rw [Nat.mul_comm]; exact Nat.div_add_mod j sz
    have h1 := e.get l ha (j / sz) _ hget
    rw [TV.at_iff] at h1
    have h2 := h1 (j % sz) (by rw [hs _ (List.getElem_mem hi)]; exact hm)
    have h3 := TVs.cells_get us (j / sz) (j % sz) _ hs hget hm
    rw [hd] at h3
    rw [h3, ← h2, Nat.add_assoc, hd]

theorem TVs.plain_cells_of {us : List TV} (hp : ∀ u ∈ us, u.plain = true) : ∀ v ∈ TVs.cells us, isOne v = true := by
  induction us with
  | nil => intro v hv; cases hv
  | cons x xs ih =>
    intro v hv
    simp only [TVs.cells, List.mem_append] at hv
    rcases hv with h1 | h1
    · exact TV.plain_cells x (hp x (List.mem_cons_self ..)) v h1
    · exact ih (fun u hu => hp u (List.mem_cons_of_mem _ hu)) v h1

/-- All elements of another slice are appended. -/
theorem appendN {C : Ctx} {T : TypeId} {sz : Nat} {h : Heap} {t s : Sl} {ts us : List TV} {K : Sl → Heap → Prop} (hsz : (C.ti T).size = sz) (hz : (C.ti T).z.size = sz) (hpos : 0 < (C.ti T).bytes) (h0 : 0 < sz)
    (hb : (t.len + s.len) * (C.ti T).bytes ≤ 70368744177664) (o : Own T sz h t ts) (e : Elems sz h s us) (hs : ∀ u ∈ us, u.size = sz) (hp : ∀ u ∈ us, u.plain = true)
    (hk : ∀ t' h', Own T sz h' t' (ts ++ us) → (t.len = t.cap → Ext h h') → Only (fun b => ∃ l, t.a = some l ∧ l.b = b) h h' → (∀ l, t'.a = some l → (∃ l', t.a = some l' ∧ l'.b = l.b) ∨ h.size ≤ l.b) → K t' h') :
    ∃ new, slAt h s sz new ∧ (∀ v ∈ new, isOne v = true) ∧ vcAppend C T t s.len new h K := by
  have hlu := TVs.cells_uniform us hs
  refine ⟨TVs.cells us, e.cells hs h0, TVs.plain_cells_of hp, ?_⟩
  have hsize : ∀ x ∈ ts ++ us, x.size = sz := fun x hx => by
    rcases List.mem_append.1 hx with h1 | h1
    · exact o.size x h1
    · exact hs x h1
  have hlen := TVs.cells_uniform ts o.size
  have elen := e.len
  have olen := o.len
  have ocap := o.cap
  refine ⟨TVs.cells ts, ?_, hb, hpos, ?_, ?_, ?_⟩
  · rw [hsz]
    exact o.elems.cells o.size h0
  · intro hroom
    rcases o.row with rfl | ⟨b, rest, ha, hbk, hr⟩
    · simp only [Sl.nil] at hroom ⊢
      exact ⟨.inl (by omega), fun l hl => by cases hl⟩
    · refine ⟨.inr (by rw [ha]; rfl), fun l hl => ?_⟩
      rw [ha] at hl
      cases hl
      rw [hsz]
      simp only [Nat.zero_add]
      have hcl : s.len * sz ≤ rest.length := by
        rw [hr]
        exact Nat.mul_le_mul_right _ (by omega)
      have hfit : t.len * sz + (TVs.cells us).length ≤ (TVs.cells ts ++ rest).length := by
        simp only [List.length_append, hlen, ← o.len, hlu, elen]
        omega
      refine ⟨wok_row hbk hfit, ?_⟩
      obtain ⟨g1, g2, g3⟩ := putl_get (TVs.cells us) h b (t.len * sz) _ T hbk hfit
      have hcc : TVs.cells (ts ++ us) = TVs.cells ts ++ TVs.cells us := TVs.cells_append _ _
      have hrow : (putl h b (t.len * sz) (TVs.cells us))[b]? = some (Go.Vc.row (TVs.cells (ts ++ us) ++ rest.drop (s.len * sz)) T) := by
        rw [g1, hcc, ← o.len, ← hlen]
        congr 2
        simp [hlu, elen]
      have hrl : (rest.drop (s.len * sz)).length = (t.cap - (t.len + s.len)) * sz := by
        simp only [List.length_drop, hr]
        rw [← Nat.sub_sub, Nat.sub_mul (t.cap - t.len)]
      refine hk _ _ ⟨hsize, by simp [olen, elen], by simp only; omega, .inr ⟨b, rest.drop (s.len * sz), rfl, hrow, hrl⟩⟩ ?_ ?_ ?_
      · intro hfull
        have hs0 : s.len = 0 := by omega
        refine ⟨by rw [g2]; exact Nat.le_refl _, fun b' hb' => ?_⟩
        by_cases hbb : b' = b
        · subst hbb
          have hu0 : us = [] := List.eq_nil_of_length_eq_zero (by omega)
          rw [hrow, hbk, hu0, hs0]
          simp
        · exact g3 b' hbb
      · refine ⟨by rw [g2]; exact Nat.le_refl _, fun b' hb' hn => ?_⟩
        exact g3 b' (fun hx => hn ⟨_, ha, hx.symm⟩)
      · intro l hl
        cases hl
        exact .inl ⟨_, ha, rfl⟩
  · intro hroom hn
    rcases o.row with rfl | ⟨b, rest, ha, _⟩
    · simp only [Sl.nil] at hroom
      have hs0 : s.len = 0 := by omega
      have hu0 : us = [] := List.eq_nil_of_length_eq_zero (by omega)
      have ht0 : ts = [] := List.eq_nil_of_length_eq_zero (by simpa [Sl.nil] using olen)
      rw [hs0]
      refine hk _ _ ?_ (fun _ => Ext.refl _) (Only.refl _ _) (fun l hl => by cases hl)
      rw [hu0, ht0]
      exact Own.nil T sz h
    · rw [ha] at hn; cases hn
  · intro hroom c hc
    refine hk _ _ ⟨hsize, by simp [olen, elen], hc, .inr ⟨_, zeros (C.ti T).z (c - (t.len + s.len)), rfl, ?_, ?_⟩⟩ ?_ ?_ ?_
    · rw [push_get, TVs.cells_append]
    · rw [zeros_length, hz]
    · intro _; exact Ext.push _ _
    · exact Only.of_ext (Ext.push _ _)
    · intro l hl
      cases hl
      right
      exact Nat.le_refl _

/-- A copy with one element more, in all three orders. -/
theorem append_copy {C : Ctx} {T : TypeId} {sz : Nat} {H : Heap} {s : Sl} {us : List TV} {x : TV} {K1 K2 K3 : Sl → Heap → Sl → Heap → Prop} (hsz : (C.ti T).size = sz) (hz : (C.ti T).z.size = sz) (hpos : 0 < (C.ti T).bytes) (h0 : 0 < sz)
    (hb : (s.len + 1) * (C.ti T).bytes ≤ 70368744177664) (e : Elems sz H s us) (hs : ∀ u ∈ us, u.size = sz) (hp : ∀ u ∈ us, u.plain = true) (hx : x.size = sz) (hxp : x.plain = true)
    (hk : ∀ s20 h s21 h7, Own T sz h7 s21 (us ++ [x]) → Ext H h7 → (∀ l, s21.a = some l → H.size ≤ l.b) → K1 s20 h s21 h7 ∧ K2 s20 h s21 h7 ∧ K3 s20 h s21 h7) :
    (Ext H (H.push (row (TVs.cells []) T)) ∧
     (∃ new, slAt (H.push (row (TVs.cells []) T)) s sz new ∧ (∀ v ∈ new, isOne v = true) ∧
       vcAppend C T (Sl.mk (some (Loc.mk H.size 0)) 0 0) s.len new (H.push (row (TVs.cells []) T)) fun s20 h => Ext (H.push (row (TVs.cells []) T)) h ∧ Ext h (h.push (row (TVs.cells [x]) T)) ∧
         ∃ new, slAt (h.push (row (TVs.cells [x]) T)) (Sl.mk (some (Loc.mk h.size 0)) 1 1) sz new ∧ (∀ v ∈ new, isOne v = true) ∧ vcAppend C T s20 1 new (h.push (row (TVs.cells [x]) T)) fun s21 h7 => K1 s20 h s21 h7) ∧
     Ext (H.push (row (TVs.cells []) T)) ((H.push (row (TVs.cells []) T)).push (row (TVs.cells [x]) T)) ∧
     ∃ new, slAt ((H.push (row (TVs.cells []) T)).push (row (TVs.cells [x]) T)) s sz new ∧ (∀ v ∈ new, isOne v = true) ∧
       vcAppend C T (Sl.mk (some (Loc.mk H.size 0)) 0 0) s.len new ((H.push (row (TVs.cells []) T)).push (row (TVs.cells [x]) T)) fun s20 h => Ext ((H.push (row (TVs.cells []) T)).push (row (TVs.cells [x]) T)) h ∧
         ∃ new, slAt h (Sl.mk (some (Loc.mk (H.push (row (TVs.cells []) T)).size 0)) 1 1) sz new ∧ (∀ v ∈ new, isOne v = true) ∧ vcAppend C T s20 1 new h fun s21 h7 => K2 s20 h s21 h7) ∧
    Ext H (H.push (row (TVs.cells [x]) T)) ∧ Ext (H.push (row (TVs.cells [x]) T)) ((H.push (row (TVs.cells [x]) T)).push (row (TVs.cells []) T)) ∧
    ∃ new, slAt ((H.push (row (TVs.cells [x]) T)).push (row (TVs.cells []) T)) s sz new ∧ (∀ v ∈ new, isOne v = true) ∧
       vcAppend C T (Sl.mk (some (Loc.mk (H.push (row (TVs.cells [x]) T)).size 0)) 0 0) s.len new ((H.push (row (TVs.cells [x]) T)).push (row (TVs.cells []) T)) fun s20 h => Ext ((H.push (row (TVs.cells [x]) T)).push (row (TVs.cells []) T)) h ∧
         ∃ new, slAt h (Sl.mk (some (Loc.mk H.size 0)) 1 1) sz new ∧ (∀ v ∈ new, isOne v = true) ∧ vcAppend C T s20 1 new h fun s21 h7 => K3 s20 h s21 h7 := by
  have lb : (0 + s.len) * (C.ti T).bytes ≤ 70368744177664 := Nat.le_trans (Nat.mul_le_mul_right _ (by omega)) hb
  have one : ∀ t ∈ [x], t.size = sz := fun t ht => by rw [List.mem_singleton.1 ht]; exact hx
  have onep : ∀ t ∈ [x], t.plain = true := fun t ht => by rw [List.mem_singleton.1 ht]; exact hxp
  have e1 := Ext.push H (row (TVs.cells []) T)
  have f1 := Ext.push H (row (TVs.cells [x]) T)
  refine ⟨⟨e1, ?_, Ext.push _ _, ?_⟩, f1, Ext.push _ _, ?_⟩
  · have o0 := Own.new (T := T) (sz := sz) H [] (by simp)
    refine appendN hsz hz hpos h0 lb o0 (e.ext e1) hs hp fun t' h' o' x' _ b' => ?_
    have x'' := x' rfl
    have hlen := o'.len
    simp only [List.nil_append] at hlen
    have elen := e.len
    refine ⟨x'', Ext.push _ _, ?_⟩
    have := x''.size
    have := e1.size
    have hbt : ∀ l, t'.a = some l → H.size ≤ l.b := fun l hl => by
      rcases b' l hl with ⟨l', hl', he⟩ | hx
      · cases hl'; rw [← he]; exact Nat.le_refl _
      · omega
    refine append1 hsz hz hpos (by rw [← hlen, elen]; exact hb) o' hx hxp fun s' h7 o7 w7 b7 => (hk t' h' s' h7 (by simpa using o7) (Only.cut (e1.trans x'') w7 ?_) ?_).1
    · rintro b ⟨l, hl, rfl⟩
      exact hbt l hl
    · intro l hl
      rcases b7 l hl with ⟨l', hl', he⟩ | hx
      · rw [← he]; exact hbt l' hl'
      · omega
  · have o0 := (Own.new (T := T) (sz := sz) H [] (by simp)).ext (Ext.push _ (row (TVs.cells [x]) T))
    have e2 := Ext.push (H.push (row (TVs.cells []) T)) (row (TVs.cells [x]) T)
    have ox := Own.new (T := T) (sz := sz) (H.push (row (TVs.cells []) T)) [x] one
    refine appendN hsz hz hpos h0 lb o0 ((e.ext e1).ext e2) hs hp fun t' h' o' x' _ b' => ?_
    have x'' := x' rfl
    have hlen := o'.len
    simp only [List.nil_append] at hlen
    have elen := e.len
    refine ⟨x'', ?_⟩
    have := x''.size
    have := e1.size
    have := e2.size
    have hbt : ∀ l, t'.a = some l → H.size ≤ l.b := fun l hl => by
      rcases b' l hl with ⟨l', hl', he⟩ | hx
      · cases hl'; rw [← he]; exact Nat.le_refl _
      · omega
    refine appendN (s := Sl.mk (some (Loc.mk (H.push (row (TVs.cells []) T)).size 0)) 1 1) hsz hz hpos h0 (by rw [← hlen, elen]; exact hb) o' (ox.elems.ext x'') one onep fun s' h7 o7 _ w7 b7 => (hk t' h' s' h7 (by simpa using o7) (Only.cut ((e1.trans e2).trans x'') w7 ?_) ?_).2.1
    · rintro b ⟨l, hl, rfl⟩
      exact hbt l hl
    · intro l hl
      rcases b7 l hl with ⟨l', hl', he⟩ | hx
      · rw [← he]; exact hbt l' hl'
      · omega
  · have o0 := Own.new (T := T) (sz := sz) (H.push (row (TVs.cells [x]) T)) [] (by simp)
    have e2 := Ext.push (H.push (row (TVs.cells [x]) T)) (row (TVs.cells []) T)
    have ox := (Own.new (T := T) (sz := sz) H [x] one).ext e2
    refine appendN hsz hz hpos h0 lb o0 ((e.ext f1).ext e2) hs hp fun t' h' o' x' _ b' => ?_
    have x'' := x' rfl
    have hlen := o'.len
    simp only [List.nil_append] at hlen
    have elen := e.len
    refine ⟨x'', ?_⟩
    have := x''.size
    have := f1.size
    have := e2.size
    have hbt : ∀ l, t'.a = some l → H.size ≤ l.b := fun l hl => by
      rcases b' l hl with ⟨l', hl', he⟩ | hx
      · cases hl'; rw [← he]; exact f1.size
      · omega
    refine appendN (s := Sl.mk (some (Loc.mk H.size 0)) 1 1) hsz hz hpos h0 (by rw [← hlen, elen]; exact hb) o' (ox.elems.ext x'') one onep fun s' h7 o7 _ w7 b7 => (hk t' h' s' h7 (by simpa using o7) (Only.cut ((f1.trans e2).trans x'') w7 ?_) ?_).2.2
    · rintro b ⟨l, hl, rfl⟩
      exact hbt l hl
    · intro l hl
      rcases b7 l hl with ⟨l', hl', he⟩ | hx
      · rw [← he]; exact hbt l' hl'
      · omega

end Go.Vc
