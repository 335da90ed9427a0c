/- Small laws for proving conditions. -/
import Derived.Test.YtgdhddignbkloaaVcI
namespace Go.Vc
open Go

theorem If.yes {p q : Prop} (hp : p) : If true p q := hp
theorem If.no {p q : Prop} (hq : q) : If false p q := hq

/-! ### Reading -/

theorem at1_fun {h : Heap} {b o : Nat} {u v : Value} (h1 : at1 h b o u) (h2 : at1 h b o v) : u = v := Option.some.inj (h1.symm.trans h2)

theorem ex_int {h : Heap} {b o : Nat} {k : IntKind} {n0 : Int} (hc : at1 h b o (.int k n0)) {P : Int → Prop} (hp : P n0) : ∃ n, at1 h b o (.int k n) ∧ P n := ⟨n0, hc, hp⟩
theorem ex_ptr {h : Heap} {b o : Nat} {p : Option Loc} (hc : at1 h b o (.pointer (p.map Loc.addr))) {P : Option Loc → Prop} (hp : P p) : ∃ n : Option Loc, at1 h b o (.pointer (n.map Loc.addr)) ∧ P n := ⟨p, hc, hp⟩
theorem ex_slice {h : Heap} {b o : Nat} {s : Sl} (hc : at1 h b o (slVal s)) {P : Sl → Prop} (hp : P s) : ∃ n, at1 h b o (slVal n) ∧ P n := ⟨s, hc, hp⟩

theorem at1_ext {h h' : Heap} (e : Ext h h') {b o : Nat} {v : Value} (ha : at1 h b o v) : at1 h' b o v := by
  unfold at1 at *
  rw [e.cel (cel_lt ha), ha]

theorem atBytes_ext {h h' : Heap} (e : Ext h h') {b o n : Nat} {x : Bs n} (ha : atBytes h b o n x) : atBytes h' b o n x := fun j hj => by
  rw [e.cel (cel_lt (ha j hj)), ha j hj]

/-! ### Rows -/

theorem at1_row {h : Heap} {b o : Nat} {vs : List Value} {T : TypeId} {v : Value} (hb : h[b]? = some (row vs T)) (hv : vs[o]? = some v) : at1 h b o v := by
  unfold at1 cel row at *
  rw [hb]
  simpa using hv

theorem wok_row {h : Heap} {b o n : Nat} {vs : List Value} {T : TypeId} (hb : h[b]? = some (row vs T)) (hn : o + n ≤ vs.length) : wok h b o n := fun j hj => by
  unfold cel frz row at *
  rw [hb]
  have : o + j < vs.length := by omega
  simp [this]

theorem row_lt {h : Heap} {b : Nat} {x : Obj} (hb : h[b]? = some x) : b < h.size := (Array.getElem?_eq_some_iff.1 hb).1

/-- Only blocks of S may have changed of those that stood. -/
structure Only (S : Nat → Prop) (h h' : Heap) : Prop where
  size : h.size ≤ h'.size
  same : ∀ b, b < h.size → ¬ S b → h'[b]? = h[b]?

theorem Only.refl (S : Nat → Prop) (h : Heap) : Only S h h := ⟨Nat.le_refl _, fun _ _ _ => rfl⟩
theorem Only.of_ext {S : Nat → Prop} {h h' : Heap} (e : Ext h h') : Only S h h' := ⟨e.size, fun b hb _ => e.same b hb⟩
theorem Only.trans {S : Nat → Prop} {a b c : Heap} (h : Only S a b) (k : Only S b c) : Only S a c := ⟨Nat.le_trans h.size k.size, fun i hi hs => (k.same i (Nat.lt_of_lt_of_le hi h.size) hs).trans (h.same i hi hs)⟩
theorem Only.mono {S S' : Nat → Prop} {a b : Heap} (h : Only S a b) (hs : ∀ i, S i → S' i) : Only S' a b := ⟨h.size, fun i hi hn => h.same i hi (fun hx => hn (hs i hx))⟩
theorem Only.ext {S : Nat → Prop} {a b : Heap} (h : Only S a b) (hs : ∀ i, i < a.size → ¬ S i) : Ext a b := ⟨h.size, fun i hi => h.same i hi (hs i hi)⟩
/-- Blocks of the call's own don't count. -/
theorem Only.cut {S : Nat → Prop} {a b c : Heap} (e : Ext a b) (h : Only S b c) (hs : ∀ i, S i → a.size ≤ i) : Ext a c :=
  ⟨Nat.le_trans e.size h.size, fun i hi => (h.same i (Nat.lt_of_lt_of_le hi e.size) (fun hx => by have := hs i hx; omega)).trans (e.same i hi)⟩

/-! ### New rows -/

theorem newTV_get (h : Heap) (t : TV) (T : TypeId) : (newTV h t T)[h.size]? = some (row t.cells T) := by simp [newTV]
theorem newTV_ext (h : Heap) (t : TV) (T : TypeId) : Ext h (newTV h t T) := Ext.push h _
theorem newTV_size (h : Heap) (t : TV) (T : TypeId) : (newTV h t T).size = h.size + 1 := by simp [newTV]
theorem push_get (h : Heap) (x : Obj) : (h.push x)[h.size]? = some x := by simp

/-! ### Putting -/

theorem putl_get : ∀ (vs : List Value) (h : Heap) (b o : Nat) (us : List Value) (T : TypeId), h[b]? = some (row us T) → o + vs.length ≤ us.length →
    (putl h b o vs)[b]? = some (row (us.take o ++ vs ++ us.drop (o + vs.length)) T) ∧ (putl h b o vs).size = h.size ∧ ∀ b', b' ≠ b → (putl h b o vs)[b']? = h[b']?
  | [], h, b, o, us, T, hb, hl => by simp [putl, hb]
  | v :: vs, h, b, o, us, T, hb, hl => by
    simp only [List.length_cons] at hl
    have h1 : (putc h b o v)[b]? = some (row (us.set o v) T) := by
      unfold putc row at *
      rw [Array.getElem?_modify, if_pos rfl, hb]
      simp
    have h2 : (putc h b o v).size = h.size := by simp [putc]
    have h3 : ∀ b', b' ≠ b → (putc h b o v)[b']? = h[b']? := fun b' hb' => by
      unfold putc
      rw [Array.getElem?_modify, if_neg (Ne.symm hb')]
    obtain ⟨g1, g2, g3⟩ := putl_get vs (putc h b o v) b (o + 1) (us.set o v) T h1 (by simp; omega)
    refine ⟨?_, by simp only [putl]; rw [g2, h2], fun b' hb' => by simp only [putl]; rw [g3 b' hb', h3 b' hb']⟩
    simp only [putl]
    rw [g1]
    congr 2
    have hlo : o < us.length := by omega
    have e1 : (us.set o v).take (o + 1) = us.take o ++ [v] := by
      rw [List.take_add_one, List.take_set_of_le (Nat.le_refl _), List.getElem?_set, if_pos rfl, if_pos hlo]
      rfl
    have e2 : (us.set o v).drop (o + 1 + vs.length) = us.drop (o + (vs.length + 1)) := by
      rw [List.drop_set, if_pos (by omega)]
      congr 1
      omega
    rw [e1, e2]
    simp

theorem put_row {h : Heap} {b o : Nat} {us : List Value} {T : TypeId} {t : TV} (hb : h[b]? = some (row us T)) (hl : o + t.size ≤ us.length) :
    (t.put h b o)[b]? = some (row (us.take o ++ t.cells ++ us.drop (o + t.size)) T) := by
  have := (putl_get t.cells h b o us T hb (by rw [TV.cells_length]; exact hl)).1
  rw [TV.cells_length] at this
  exact this

theorem put_only {h : Heap} {b o : Nat} {us : List Value} {T : TypeId} {t : TV} (hb : h[b]? = some (row us T)) (hl : o + t.size ≤ us.length) : Only (· = b) h (t.put h b o) := by
  have := putl_get t.cells h b o us T hb (by rw [TV.cells_length]; exact hl)
  exact ⟨by rw [TV.put, this.2.1]; exact Nat.le_refl _, fun b' _ hn => this.2.2 b' hn⟩

theorem put_size {h : Heap} {b o : Nat} {us : List Value} {T : TypeId} {t : TV} (hb : h[b]? = some (row us T)) (hl : o + t.size ≤ us.length) : (t.put h b o).size = h.size :=
  (putl_get t.cells h b o us T hb (by rw [TV.cells_length]; exact hl)).2.1

/-! ### Numbers -/

theorem wrap_i64 {n : Int} (h0 : -9223372036854775808 ≤ n) (h1 : n ≤ 9223372036854775807) : IntKind.wrap .i64 n = n := IntWalk.i64_in n ⟨h0, h1⟩

theorem mn_eq (a b : Int) : mn a b = min a b := by unfold mn; omega
theorem mx_eq (a b : Int) : mx a b = max a b := by unfold mx; omega

theorem byte_i64 {n : Int} (h : (Lit.int .i64 n).wf = true) : -9223372036854775808 ≤ n ∧ n ≤ 9223372036854775807 := by
  simp only [Lit.wf, Bool.and_eq_true, decide_eq_true_eq] at h
  exact h

/-- A slice of integers. -/
structure Ints (k : IntKind) (h : Heap) (s : Sl) (zs : List Int) : Prop where
  len : zs.length = s.len
  nil : s.a = none → zs = []
  get : ∀ l, s.a = some l → ∀ i (hi : i < zs.length), at1 h l.b (l.o + i) (.int k zs[i])
  fit : ∀ n ∈ zs, (Lit.int k n).wf = true
  low : ∀ l, s.a = some l → zs ≠ [] → l.b < h.size

theorem Ints.ext {k : IntKind} {h h' : Heap} {s : Sl} {zs : List Int} (hz : Ints k h s zs) (e : Ext h h') : Ints k h' s zs :=
  ⟨hz.len, hz.nil, fun l hl i hi => at1_ext e (hz.get l hl i hi), hz.fit, fun l hl hn => Nat.lt_of_lt_of_le (hz.low l hl hn) e.size⟩

theorem Ints.read {k : IntKind} {h : Heap} {s : Sl} {zs : List Int} (hz : Ints k h s zs) {i : Int} (h0 : 0 ≤ i) (h1 : i < s.len) {K : Loc → Prop}
    (hk : ∀ l, s.a = some l → (∀ n, (Lit.int k n).wf = true → at1 h l.b (l.o + i.toNat * 1) (.int k n) → zs[i.toNat]? = some n → K l)) : Nn s.a K := by
  have hl := hz.len
  cases ha : s.a with
  | none => have := hz.nil ha; subst this; simp at hl; omega
  | some l =>
    have hi : i.toNat < zs.length := by omega
    refine hk l ha zs[i.toNat] (hz.fit _ (List.getElem_mem _)) ?_ (by simp [hi])
    rw [Nat.mul_one]
    exact hz.get l ha _ hi

/-! ### From a heap to worlds -/

theorem below_of {w w' : World} (hs : SameEnv w w') (e : Ext w.heap w'.heap) : Go.RowKit.Below w.heap.size w w' := ⟨hs.os, hs.tape, hs.output, e.size, e.same⟩

theorem CallsH.fin {P : Program} {f : FuncId} {args : List Value} {w : World} (hc : CallsH P f args w.heap (fun v h' => v = .bool true ∧ Ext w.heap h')) :
    Calls P f args.toArray w fun e w' => e = .returned (.bool true) ∧ Go.RowKit.Below w.heap.size w w' :=
  (hc w rfl).mono fun _ _ ⟨se, _, he, hv, ex⟩ => ⟨by rw [he, hv], below_of se ex⟩

theorem cel_of_cell {w : World} {x : Addr} {v : Value} (hs : x.spot = none) {i : Nat} (h : w.cell? (x.add i) = some v) : cel w.heap x.block (x.off + i) = some v := by
  have e : x.add i = ⟨x.block, x.off + i, none⟩ := by
    unfold Addr.add
    cases x
    simp only at hs
    subst hs
    split
    · subst i; rfl
    · rfl
  rw [e] at h
  unfold World.cell? at h
  unfold cel
  split at h
  · simp_all
  · cases h

/-- A slice of integers that came in. -/
theorem ints_of {w : World} {k : IntKind} {a : Option Addr} {len cap : Nat} {zs : List Int} (hs : ∀ x, a = some x → x.spot = none)
    (h : (a = none ∧ len = 0 ∧ cap = 0 ∧ zs = []) ∨ ∃ x, a = some x ∧ len ≤ cap ∧ cap ≤ maxLen ∧ zs.length = cap ∧ (∀ i, i < zs.length → w.cell? (x.add i) = some (.int k (zs.getD i 0))) ∧ ∀ n ∈ zs, (Lit.int k n).wf = true) :
    ∃ s : Sl, Value.slice a len cap = slVal s ∧ s.len = len ∧ s.cap = cap ∧ Ints k w.heap s (zs.take len) := by
  rcases h with ⟨rfl, rfl, rfl, rfl⟩ | ⟨x, rfl, hl, _, hz, hc, hw⟩
  · exact ⟨⟨none, 0, 0⟩, rfl, rfl, rfl, ⟨rfl, fun _ => rfl, fun _ h => by (cases h), fun _ h => by (cases h), fun _ h => by (cases h)⟩⟩
  · have hx := hs x rfl
    have hg : ∀ i (hi : i < (zs.take len).length), at1 w.heap x.block (x.off + i) (.int k (zs.take len)[i]) := fun i hi => by
      have h1 : i < zs.length := by simp at hi; omega
      have := cel_of_cell hx (hc i h1)
      unfold at1
      rw [this]
      simp [h1]
    refine ⟨⟨some ⟨x.block, x.off⟩, len, cap⟩, ?_, rfl, rfl, ⟨by simp [hz, hl], fun h => by (cases h), ?_, fun n hn => hw n (List.mem_of_mem_take hn), ?_⟩⟩
    · cases x
      simp only at hx
      subst hx
      rfl
    · rintro l ⟨rfl⟩ i hi
      exact hg i hi
    · rintro l ⟨rfl⟩ hn
      exact cel_lt (hg 0 (List.length_pos_iff.2 hn))

theorem okWide_spot {P : Program} {w : World} {r : Reach} {base : Nat} {t e : TypeId} (ht : P.underlying t = some (.slice e)) {a : Addr} {len cap : Nat} (h : Value.okWide P w r base t (.slice (some a) len cap)) : a.spot = none := by
  unfold Value.okWide at h
  rw [ht] at h
  simp only at h
  unfold Cell.okWide at h
  rw [ht] at h
  simp only at h
  unfold Cell.ok at h
  rw [ht] at h
  exact h.2.2.2.1

end Go.Vc
