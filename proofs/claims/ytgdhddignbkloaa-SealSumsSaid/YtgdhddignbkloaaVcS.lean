/- Slices in memory: what stands in them, and what append makes of them. -/
import Derived.Test.YtgdhddignbkloaaVcL
namespace Go.Vc
open Go

theorem TVs.cells_append : ∀ a b : List TV, TVs.cells (a ++ b) = TVs.cells a ++ TVs.cells b
  | [], b => rfl
  | x :: a, b => by simp only [List.cons_append, TVs.cells, TVs.cells_append a b, List.append_assoc]

theorem TVs.cells_uniform {sz : Nat} : ∀ ts : List TV, (∀ t ∈ ts, t.size = sz) → (TVs.cells ts).length = ts.length * sz
  | [], _ => by simp [TVs.cells]
  | x :: a, h => by
    simp only [TVs.cells, List.length_append, List.length_cons, TV.cells_length, h x (List.mem_cons_self ..), TVs.cells_uniform a (fun t ht => h t (List.mem_cons_of_mem _ ht)), Nat.succ_mul]
    omega

theorem TVs.cells_get {sz : Nat} : ∀ (ts : List TV) (i j : Nat) (t : TV), (∀ t ∈ ts, t.size = sz) → ts[i]? = some t → j < sz → (TVs.cells ts)[i * sz + j]? = t.cells[j]?
  | [], i, j, t, _, ht, _ => by simp at ht
  | x :: a, 0, j, t, h, ht, hj => by
    simp only [List.getElem?_cons_zero, Option.some.injEq] at ht
    subst ht
    have := h x (List.mem_cons_self ..)
    simp only [TVs.cells, Nat.zero_mul, Nat.zero_add]
    rw [List.getElem?_append_left (by rw [TV.cells_length]; omega)]
  | x :: a, i + 1, j, t, h, ht, hj => by
    simp only [List.getElem?_cons_succ] at ht
    have hx := h x (List.mem_cons_self ..)
    simp only [TVs.cells]
    rw [List.getElem?_append_right (by rw [TV.cells_length, hx, Nat.succ_mul]; omega), TV.cells_length, hx]
    have : (i + 1) * sz + j - sz = i * sz + j := by rw [Nat.succ_mul]; omega
    rw [this]
    exact TVs.cells_get a i j t (fun t ht => h t (List.mem_cons_of_mem _ ht)) ht hj

/-- What stands in a slice. -/
structure Elems (sz : Nat) (h : Heap) (s : Sl) (ts : List TV) : Prop where
  len : ts.length = s.len
  nil : s.a = none → ts = []
  get : ∀ l, s.a = some l → ∀ (i : Nat) (t : TV), ts[i]? = some t → t.at h l.b (l.o + i * sz)

theorem Elems.ext {sz : Nat} {h h' : Heap} {s : Sl} {ts : List TV} (he : Elems sz h s ts) (e : Ext h h') : Elems sz h' s ts :=
  ⟨he.len, he.nil, fun l hl i t ht => TV.at_ext e (he.get l hl i t ht)⟩

theorem TV.at_only {S : Nat → Prop} {h h' : Heap} (e : Only S h h') {b o : Nat} {t : TV} (hb : ¬ S b) (ha : t.at h b o) : t.at h' b o := by
  rw [TV.at_iff] at ha ⊢
  intro j hj
  have h1 := ha j hj
  have hl : j < t.cells.length := by rw [TV.cells_length]; exact hj
  rw [List.getElem?_eq_getElem hl] at h1 ⊢
  have := e.same b (cel_lt h1) hb
  unfold cel at h1 ⊢
  rw [this]
  exact h1

theorem at1_only {S : Nat → Prop} {h h' : Heap} (e : Only S h h') {b o : Nat} {v : Value} (hb : ¬ S b) (ha : at1 h b o v) : at1 h' b o v := by
  have := e.same b (cel_lt ha) hb
  unfold at1 cel at *
  rw [this]
  exact ha

theorem Elems.only {sz : Nat} {S : Nat → Prop} {h h' : Heap} {s : Sl} {ts : List TV} (he : Elems sz h s ts) (e : Only S h h') (hs : ∀ l, s.a = some l → ¬ S l.b) : Elems sz h' s ts :=
  ⟨he.len, he.nil, fun l hl i t ht => TV.at_only e (hs l hl) (he.get l hl i t ht)⟩

theorem Elems.read {sz : Nat} {h : Heap} {s : Sl} {ts : List TV} (he : Elems sz h s ts) {i : Int} (h0 : 0 ≤ i) (h1 : i < s.len) {K : Loc → Prop}
    (hk : ∀ l t, s.a = some l → ts[i.toNat]? = some t → t.at h l.b (l.o + i.toNat * sz) → K l) : 0 ≤ i ∧ i < s.len ∧ Nn s.a K := by
  refine ⟨h0, h1, ?_⟩
  have hl := he.len
  have hi : i.toNat < ts.length := by omega
  cases ha : s.a with
  | none => have := he.nil ha; subst this; simp at hi
  | some l => exact hk l ts[i.toNat] ha (by simp [hi]) (he.get l ha _ _ (by simp [hi]))

theorem Elems.nil_ (sz : Nat) (h : Heap) : Elems sz h Sl.nil [] := ⟨rfl, fun _ => rfl, fun l hl => by cases hl⟩

/-- A slice that has its row for itself. -/
structure Own (T : TypeId) (sz : Nat) (h : Heap) (s : Sl) (ts : List TV) : Prop where
  size : ∀ t ∈ ts, t.size = sz
  len : ts.length = s.len
  cap : s.len ≤ s.cap
  row : (s = Sl.nil) ∨ ∃ b rest, s.a = some ⟨b, 0⟩ ∧ h[b]? = some (Go.Vc.row (TVs.cells ts ++ rest) T) ∧ rest.length = (s.cap - s.len) * sz

theorem Own.nil (T : TypeId) (sz : Nat) (h : Heap) : Own T sz h Sl.nil [] := ⟨(fun t ht => by cases ht), rfl, Nat.le_refl _, .inl rfl⟩

theorem Own.lt {T : TypeId} {sz : Nat} {h : Heap} {s : Sl} {ts : List TV} (o : Own T sz h s ts) : ∀ l, s.a = some l → l.b < h.size := fun l hl => by
  rcases o.row with rfl | ⟨b, rest, ha, hb, _⟩
  · cases hl
  · rw [ha] at hl; cases hl; exact row_lt hb

theorem Own.elems {T : TypeId} {sz : Nat} {h : Heap} {s : Sl} {ts : List TV} (o : Own T sz h s ts) : Elems sz h s ts := by
  refine ⟨o.len, fun hn => ?_, fun l hl i t ht => ?_⟩
  · rcases o.row with rfl | ⟨b, rest, ha, _⟩
    · exact List.eq_nil_of_length_eq_zero o.len
    · rw [ha] at hn; cases hn
  · rcases o.row with rfl | ⟨b, rest, ha, hb, _⟩
    · cases hl
    · rw [ha] at hl
      cases hl
      rw [TV.at_iff]
      intro j hj
      have hsz := o.size t (List.mem_of_getElem? ht)
      have hcel := TVs.cells_get ts i j t o.size ht (by omega)
      have hlen := TVs.cells_uniform ts o.size
      have hi : i < ts.length := (List.getElem?_eq_some_iff.1 ht).1
      have hlt : i * sz + j < (TVs.cells ts).length := by
        rw [hlen]
        have : (i + 1) * sz ≤ ts.length * sz := Nat.mul_le_mul_right _ hi
        rw [Nat.succ_mul] at this
        omega
      unfold cel
      rw [hb]
      simp only [Go.Vc.row, Nat.zero_add]
      rw [List.getElem?_toArray, List.getElem?_append_left hlt, hcel]

theorem Own.only {T : TypeId} {sz : Nat} {S : Nat → Prop} {h h' : Heap} {s : Sl} {ts : List TV} (o : Own T sz h s ts) (e : Only S h h') (hs : ∀ l, s.a = some l → ¬ S l.b) : Own T sz h' s ts := by
  refine ⟨o.size, o.len, o.cap, ?_⟩
  rcases o.row with h1 | ⟨b, rest, ha, hb, hr⟩
  · exact .inl h1
  · exact .inr ⟨b, rest, ha, by rw [e.same b (row_lt hb) (hs _ ha), hb], hr⟩

theorem Own.ext {T : TypeId} {sz : Nat} {h h' : Heap} {s : Sl} {ts : List TV} (o : Own T sz h s ts) (e : Ext h h') : Own T sz h' s ts :=
  o.only (S := fun _ => False) (Only.of_ext e) (fun _ _ h => h)

/-- A row made just now. -/
theorem Own.new {T : TypeId} {sz : Nat} (h : Heap) (ts : List TV) (hs : ∀ t ∈ ts, t.size = sz) : Own T sz (h.push (Go.Vc.row (TVs.cells ts) T)) ⟨some ⟨h.size, 0⟩, ts.length, ts.length⟩ ts :=
  ⟨hs, rfl, Nat.le_refl _, .inr ⟨h.size, [], rfl, by simp, by simp⟩⟩

theorem zeros_length {z : TV} {n : Nat} : (zeros z n).length = n * z.size := by
  induction n with
  | zero => simp [zeros]
  | succ n ih => simp only [zeros, List.length_append, TV.cells_length, ih, Nat.succ_mul]; omega

/-- One element more. -/
theorem append1 {C : Ctx} {T : TypeId} {sz : Nat} {h : Heap} {s : Sl} {ts : List TV} {x : TV} {K : Sl → Heap → Prop} (hsz : (C.ti T).size = sz) (hz : (C.ti T).z.size = sz) (hpos : 0 < (C.ti T).bytes)
    (hb : (s.len + 1) * (C.ti T).bytes ≤ 70368744177664) (o : Own T sz h s ts) (hx : x.size = sz) (hp : x.plain = true)
    (hk : ∀ s' h', Own T sz h' s' (ts ++ [x]) → Only (fun b => ∃ l, s.a = some l ∧ l.b = b) h h' → (∀ l, s'.a = some l → (∃ l', s.a = some l' ∧ l'.b = l.b) ∨ h.size ≤ l.b) → K s' h') :
    ∃ new, slAt (h.push (row (TVs.cells [x]) T)) (Sl.mk (some (Loc.mk h.size 0)) 1 1) sz new ∧ (∀ v ∈ new, isOne v = true) ∧ vcAppend C T s 1 new (h.push (row (TVs.cells [x]) T)) K := by
  have hcx : TVs.cells [x] = x.cells := by simp [TVs.cells]
  have hlx : x.cells.length = sz := by rw [TV.cells_length, hx]
  refine ⟨x.cells, ⟨by simp [hlx], .inr ⟨_, rfl, fun j hj => ?_⟩⟩, TV.plain_cells x hp, ?_⟩
  · unfold cel
    simp [row, hcx]
  have e1 : Ext h (h.push (row (TVs.cells [x]) T)) := Ext.push h _
  have o1 := o.ext e1
  have hsize : ∀ t ∈ ts ++ [x], t.size = sz := fun t ht => by
    rcases List.mem_append.1 ht with h1 | h1
    · exact o.size t h1
    · simp only [List.mem_singleton] at h1; rw [h1]; exact hx
  have hlen := TVs.cells_uniform ts o.size
  have hcells : TVs.cells (ts ++ [x]) = TVs.cells ts ++ x.cells := by rw [TVs.cells_append, hcx]
  refine ⟨TVs.cells ts, ?_, hb, hpos, ?_, ?_, ?_⟩
  · rw [hsz]
    refine ⟨by rw [hlen, o.len], ?_⟩
    rcases o1.row with rfl | ⟨b, rest, ha, hbk, _⟩
    · exact .inl ⟨rfl, rfl⟩
    · refine .inr ⟨_, ha, fun j hj => ?_⟩
      unfold cel
      rw [hbk]
      simp only [row, Nat.zero_add]
      rw [List.getElem?_toArray, List.getElem?_append_left hj]
  · intro hroom
    rcases o1.row with rfl | ⟨b, rest, ha, hbk, hr⟩
    · simp [Sl.nil] at hroom
    · refine ⟨.inr (by rw [ha]; rfl), fun l hl => ?_⟩
      rw [ha] at hl
      cases hl
      rw [hsz]
      simp only [Nat.zero_add]
      have hrl : x.cells.length ≤ rest.length := by
        rw [hlx, hr]
        exact Nat.le_mul_of_pos_left _ (by omega)
      refine ⟨wok_row hbk (by simp only [List.length_append, hlen, ← o.len]; omega), ?_⟩
      obtain ⟨g1, g2, g3⟩ := putl_get x.cells (h.push (row (TVs.cells [x]) T)) b (s.len * sz) _ T hbk (by simp only [List.length_append, hlen, ← o.len]; omega)
      refine hk _ _ ⟨hsize, by simp [o.len], by simp only; omega, .inr ⟨b, rest.drop sz, rfl, ?_, by simp only [List.length_drop, hr]; rw [← Nat.sub_sub, Nat.sub_mul (s.cap - s.len), Nat.one_mul]⟩⟩ ?_ ?_
      · rw [g1, hcells, ← o.len]
        congr 1
        congr 1
        rw [← hlen]
        simp [hlx]
      · refine ⟨by rw [g2]; exact e1.size, fun b' hb' hn => ?_⟩
        rw [g3 b' (fun hx => hn ⟨_, ha, hx.symm⟩), e1.same b' hb']
      · intro l hl
        cases hl
        exact .inl ⟨_, ha, rfl⟩
  · intro hroom hn
    rcases o1.row with rfl | ⟨b, rest, ha, _⟩
    · simp [Sl.nil] at hroom
    · rw [ha] at hn; cases hn
  · intro hroom c hc
    have hh : (h.push (row (TVs.cells [x]) T)).size = h.size + 1 := by simp
    refine hk _ _ ⟨hsize, by simp [o.len], hc, .inr ⟨_, zeros (C.ti T).z (c - (s.len + 1)), rfl, ?_, ?_⟩⟩ ?_ ?_
    · rw [push_get, hcells]
    · rw [zeros_length, hz]
    · refine Only.of_ext (e1.trans (Ext.push _ _))
    · intro l hl
      cases hl
      right
      simp only
      omega

end Go.Vc
