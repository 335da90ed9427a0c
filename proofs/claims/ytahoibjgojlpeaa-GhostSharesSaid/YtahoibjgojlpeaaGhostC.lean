/- What the reference of ghost does: names, order, places. -/
import Derived.Test.YtahoibjgojlpeaaGhostB
namespace Go.Proofs.Ytahoibjgojlpeaa.Ghost
open Go Go.Vc

theorem put_byte {T : TypeId} {h : Heap} {b n i : Nat} {x : Bs n} (v : Var T h b (.bytes n x)) (hi : i < n) {c : Int} (h0 : 0 ≤ c) (h1 : c < 256) :
    ∃ h1, (TV.int .u8 c).put h b i = h1 ∧ Var T h1 b (.bytes n (x.set i (UInt8.ofNat c.toNat))) ∧ Only (· = b) h h1 ∧ h1.size = h.size := by
  have hl : i + (TV.int .u8 c).size ≤ (TV.bytes n x).cells.length := by rw [TV.cells_length]; simp only [TV.size]; omega
  refine ⟨_, rfl, ?_, put_only v hl, put_size v hl⟩
  have := put_row (t := .int .u8 c) v hl
  unfold Var
  rw [this]
  congr 2
  simp only [TV.cells, TV.size, Bs.set, List.map_set]
  have e : ((UInt8.ofNat c.toNat).toNat : Int) = c := by
    rw [UInt8.toNat_ofNat']
    omega
  rw [e, List.set_eq_take_append_cons_drop, if_pos (by rw [List.length_map, x.h]; exact hi)]
  simp

section
variable {R : Value → Heap → Prop} {h : Heap}

/-- The document's name of a number. -/
def name (n : Int) : Bs 32 := ((Bs.zero 32).set 0 (UInt8.ofNat (n % 256).toNat)).set 31 (UInt8.ofNat ((7 * n) % 256).toNat)

theorem wrap_u8 (n : Int) : IntKind.wrap .u8 n = n % 256 := by
  unfold IntKind.wrap
  show (if (false && _) = true then _ else n % 2 ^ 8) = n % 256
  simp

theorem wrap_u8_i64 (n : Int) : IntKind.wrap .u8 (IntKind.wrap .i64 n) = n % 256 := by
  obtain ⟨q, e⟩ := wrap_off n
  rw [wrap_u8, e]
  omega

theorem name_spec {n : Int} (hr : ∀ h', Ext h h' → R (TV.bytes 32 (name n)).val h') : CallsH Try.prog 37 (TVs.vals [.int .i64 n]) h R := by
  apply tollerref10_Name_calls
  unfold tollerref10_Name_vc
  obtain ⟨h1, e1, v1, x1, s1⟩ := newTV_spec h (.bytes 32 (Bs.zero 32)) 37
  rw [e1]
  obtain ⟨h2, e2, v2, x2, s2⟩ := newTV_spec h1 (.bytes 32 (Bs.zero 32)) 37
  rw [e2, wrap_u8, wrap_u8_i64]
  obtain ⟨h3, e3, v3, o3, s3⟩ := put_byte v2 (i := 0) (by omega) (c := n % 256) (by omega) (by omega)
  have e3' : (TV.int .u8 (n % 256)).put h2 h1.size (0 + Int.toNat 0 * 1) = h3 := e3
  rw [e3']
  obtain ⟨h4, e4, v4, o4, s4⟩ := put_byte v3 (i := 31) (by omega) (c := (7 * n) % 256) (by omega) (by omega)
  have e4' : (TV.int .u8 (7 * n % 256)).put h3 h1.size (0 + Int.toNat 31 * 1) = h4 := e4
  rw [e4']
  have v1' : Var 37 h4 h.size (.bytes 32 (Bs.zero 32)) := ((v1.ext x2).only o3 (by omega)).only o4 (by omega)
  obtain ⟨h5, e5, v5, o5, s5⟩ := put_spec v1' (.bytes 32 (name n)) rfl
  refine ⟨by decide, by decide, v2.wok (by simp [TV.size]), by decide, by decide, v3.wok (by simp [TV.size]), name n, v4.bytes, v1'.wok (by simp [TV.size]), ?_⟩
  rw [e5]
  refine ⟨name n, v5.bytes, hr _ ?_⟩
  have w1 : Ext h1 h4 := Only.cut x2 (o3.trans o4) (fun i hi => by omega)
  exact Only.cut (x1.trans w1) o5 (fun i hi => by omega)

theorem byte_at {T : TypeId} {b : Nat} {x : Bs 32} (v : Var T h b (.bytes 32 x)) {i : Nat} (hi : i < 32) : at1 h b (0 + i * 1) (.int .u8 ((x.l[i]'(by rw [x.h]; exact hi)).toNat : Int)) := by
  have := v.bytes i hi
  rw [Nat.mul_one]
  unfold at1
  rw [this]
  have hl : i < x.l.length := by rw [x.h]; exact hi
  simp [List.getD, hl]

theorem Less_spec {a b : Bs 32} (hr : ∀ h', Ext h h' → R (TV.bool (Op.bytesLess a.l b.l)).val h') : CallsH Try.prog 38 (TVs.vals [.bytes 32 a, .bytes 32 b]) h R := by
  apply tollerref03_Less_calls
  unfold tollerref03_Less_vc
  obtain ⟨h1, e1, v1, x1, s1⟩ := newTV_spec h (.bytes 32 a) 37
  rw [e1]
  obtain ⟨h2, e2, v2, x2, s2⟩ := newTV_spec h1 (.bytes 32 b) 37
  rw [e2]
  have v1' := v1.ext x2
  refine ⟨fun s hh => 0 ≤ s.2 ∧ s.2 ≤ 32 ∧ hh = h2 ∧ Op.bytesLess a.l b.l = Op.bytesLess (a.l.drop s.2.toNat) (b.l.drop s.2.toNat), fun s _ => ((32 : Int) - s.2).toNat, ⟨by simp, by simp, rfl, by simp⟩, ?_⟩
  rintro ⟨x, i⟩ hh ⟨i0, i1, rfl, hl⟩
  simp only at i0 i1 hl ⊢
  have ha := a.h
  have hb := b.h
  refine If.dec.2 ⟨fun hi => ?_, fun hi => ?_⟩
  · have ni : i.toNat < 32 := by omega
    have da : a.l.drop i.toNat = a.l[i.toNat] :: a.l.drop (i.toNat + 1) := List.drop_eq_getElem_cons (by omega)
    have db : b.l.drop i.toNat = b.l[i.toNat] :: b.l.drop (i.toNat + 1) := List.drop_eq_getElem_cons (by omega)
    rw [da, db] at hl
    simp only [Op.bytesLess] at hl
    refine ⟨i0, hi, _, byte_at v1' ni, i0, hi, _, byte_at v2 ni, ?_⟩
    refine If.split (fun hne => ?_) (fun he => ?_)
    · refine ⟨i0, hi, _, byte_at v1' ni, i0, hi, _, byte_at v2 ni, ?_⟩
      have hne' : (a.l[i.toNat] == b.l[i.toNat]) = false := by
        rw [beq_eq_false_iff_ne]
        intro hx
        rw [hx] at hne
        simp at hne
      rw [hne', Bool.false_and, Bool.or_false] at hl
      have : Op.bytesLess a.l b.l = decide (((a.l[i.toNat]).toNat : Int) < ((b.l[i.toNat]).toNat : Int)) := by
        rw [hl]
        refine decide_eq_decide.2 ?_
        rw [UInt8.lt_iff_toNat_lt]
        omega
      rw [← this]
      exact hr _ (x1.trans x2)
    · have he' : a.l[i.toNat] = b.l[i.toNat] := by
        simp only [Bool.not_eq_false', decide_eq_true_eq] at he
        exact UInt8.toNat_inj.1 (by omega)
      rw [wrap_i64 (by omega) (by omega)]
      refine ⟨⟨by omega, by omega, by trivial, ?_⟩, by omega⟩
      have hi' : (i + 1).toNat = i.toNat + 1 := by omega
      rw [hi', hl, he']
      have : ¬ (b.l[i.toNat] < b.l[i.toNat]) := UInt8.lt_irrefl _
      simp [this]
  · have hi' : i.toNat = 32 := by omega
    rw [hi', List.drop_eq_nil_of_le (by omega), List.drop_eq_nil_of_le (by omega)] at hl
    simp only [Op.bytesLess] at hl
    rw [hl] at hr
    exact hr _ (x1.trans x2)

/-! ### The document's chain -/

def rtTV (x : Rt) : TV := .bytes 32 x
def intTV (n : Int) : TV := .int .i64 n

structure Doc where
  roots : List Rt
  pars : List Rt
  tgs : List Rt
  sts : List Int

/-- The document's chain in memory. -/
structure RCh (h : Heap) (A P T K : Sl) (d : Doc) : Prop where
  a : Elems 32 h A (d.roots.map rtTV)
  p : Elems 32 h P (d.pars.map rtTV)
  t : Elems 32 h T (d.tgs.map rtTV)
  k : Elems 1 h K (d.sts.map intTV)
  few : d.roots.length < 1000000
  fewt : d.tgs.length < 1000000
  fewk : d.sts.length < 1000000

theorem RCh.ext {h h' : Heap} {A P T K : Sl} {d : Doc} (c : RCh h A P T K d) (e : Ext h h') : RCh h' A P T K d := ⟨c.a.ext e, c.p.ext e, c.t.ext e, c.k.ext e, c.few, c.fewt, c.fewk⟩

theorem names_len {h : Heap} {A : Sl} {l : List Rt} (e : Elems 32 h A (l.map rtTV)) : A.len = l.length := by have := e.len; simp at this; omega
theorem names_at {h : Heap} {A : Sl} {l : List Rt} (e : Elems 32 h A (l.map rtTV)) {i : Int} (h0 : 0 ≤ i) (h1 : i < l.length) {K : Go.Vc.Loc → Prop}
    (hk : ∀ p x, l[i.toNat]? = some x → atBytes h p.b (p.o + i.toNat * 32) 32 x → K p) : 0 ≤ i ∧ i < A.len ∧ Nn A.a K := by
  refine e.read h0 (by rw [names_len e]; exact h1) fun p t _ ht hat => ?_
  rw [List.getElem?_map, Option.map_eq_some_iff] at ht
  obtain ⟨x, hx, rfl⟩ := ht
  exact hk p x hx hat
theorem ints_len {h : Heap} {A : Sl} {l : List Int} (e : Elems 1 h A (l.map intTV)) : A.len = l.length := by have := e.len; simp at this; omega
theorem ints_at {h : Heap} {A : Sl} {l : List Int} (e : Elems 1 h A (l.map intTV)) {i : Int} (h0 : 0 ≤ i) (h1 : i < l.length) {K : Go.Vc.Loc → Prop}
    (hk : ∀ p x, l[i.toNat]? = some x → at1 h p.b (p.o + i.toNat * 1) (.int .i64 x) → K p) : 0 ≤ i ∧ i < A.len ∧ Nn A.a K := by
  refine e.read h0 (by rw [ints_len e]; exact h1) fun p t _ ht hat => ?_
  rw [List.getElem?_map, Option.map_eq_some_iff] at ht
  obtain ⟨x, hx, rfl⟩ := ht
  exact hk p x hx hat

theorem Ints.elems {h : Heap} {s : Sl} {zs : List Int} (z : Ints .i64 h s zs) : Elems 1 h s (zs.map intTV) := by
  refine ⟨by simpa using z.len, fun hn => by rw [z.nil hn]; rfl, fun l hl i t ht => ?_⟩
  rw [List.getElem?_map, Option.map_eq_some_iff] at ht
  obtain ⟨x, hx, rfl⟩ := ht
  obtain ⟨hi, rfl⟩ := List.getElem?_eq_some_iff.1 hx
  rw [Nat.mul_one]
  exact z.get l hl i hi

def bytesOf (l : List Rt) : List (List UInt8) := l.map fun x => x.l

/-- Where the document says a name stands. -/
def Doc.place (d : Doc) (r : Rt) : Int := placeOf (bytesOf d.roots) r.l

theorem placeOf_hit {l : List (List UInt8)} {r : List UInt8} {i : Nat} (hi : l[i]? = some r) (hn : ∀ j : Nat, j < i → l[j]? ≠ some r) : placeOf l r = i := by
  obtain ⟨hlt, he⟩ := List.getElem?_eq_some_iff.1 hi
  have : l.findIdx? (· = r) = some i := by
    rw [List.findIdx?_eq_some_iff_getElem]
    refine ⟨hlt, by simpa using he, fun j hj => ?_⟩
    have hj' : j < l.length := by omega
    have := hn j hj
    rw [List.getElem?_eq_getElem hj'] at this
    simpa using this
  unfold placeOf
  rw [this]

theorem placeOf_miss {l : List (List UInt8)} {r : List UInt8} (hn : ∀ j : Nat, l[j]? ≠ some r) : placeOf l r = -1 := by
  have : l.findIdx? (· = r) = none := by
    rw [List.findIdx?_eq_none_iff]
    intro x hx
    obtain ⟨j, hj, rfl⟩ := List.getElem_of_mem hx
    have := hn j
    rw [List.getElem?_eq_getElem hj] at this
    simpa using this
  unfold placeOf
  rw [this]

theorem Place_spec {A P T K : Sl} {d : Doc} (c : RCh h A P T K d) {r : Rt} (hr : ∀ h', Ext h h' → R (TV.int .i64 (d.place r)).val h') :
    CallsH Try.prog 36 (TVs.vals [.agg [.slice A, .slice P, .slice T, .slice K], .bytes 32 r]) h R := by
  apply tollerref20_Chain_Place_calls
  unfold tollerref20_Chain_Place_vc
  obtain ⟨h1, e1, v1, x1, s1⟩ := newTV_spec h (.agg [.slice A, .slice P, .slice T, .slice K]) 41
  rw [e1]
  obtain ⟨h2, e2, v2, x2, s2⟩ := newTV_spec h1 (.bytes 32 r) 37
  rw [e2]
  have hf := c.few
  have hA := names_len c.a
  refine ⟨A, (v1.ext x2).at1 rfl, ?_⟩
  refine ⟨fun s hh => 0 ≤ s.2 ∧ s.2 ≤ d.roots.length ∧ (∀ i, i < s.2.toNat → (bytesOf d.roots)[i]? ≠ some r.l) ∧ Ext h2 hh, fun s _ => ((d.roots.length : Int) - s.2).toNat, ⟨by simp, by simp, by simp, Ext.refl _⟩, ?_⟩
  rintro ⟨n, i⟩ hh ⟨i0, i1, hn, x⟩
  simp only at i0 i1 hn ⊢
  have c' := ((c.ext x1).ext x2).ext x
  refine If.dec.2 ⟨fun hi => ?_, fun hi => ?_⟩
  · refine names_at c'.a i0 (by omega) fun l y hy hp => ?_
    refine ⟨y, hp, ?_⟩
    obtain ⟨w3, h3, e3, v3, x3, s3⟩ := newput_spec hh (.bytes 32 (Bs.zero 32)) (.bytes 32 y) 37 rfl
    refine ⟨w3, ?_⟩
    rw [e3]
    refine ⟨y, v3.bytes, r, ((v2.ext x).ext x3).bytes, ?_⟩
    have hy' : (bytesOf d.roots)[i.toNat]? = some y.l := by unfold bytesOf; rw [List.getElem?_map, hy]; rfl
    refine If.dec.2 ⟨fun he => ?_, fun he => ?_⟩
    · have h9 : d.place r = i := by
        have := placeOf_hit (hy'.trans (by rw [he])) hn
        unfold Doc.place
        rw [this]
        omega
      rw [h9] at hr
      exact hr _ (((x1.trans x2).trans x).trans x3)
    · rw [wrap_i64 (n := i + 1) (by omega) (by omega)]
      refine ⟨⟨by omega, by omega, fun j hj => ?_, x.trans x3⟩, by omega⟩
      have : (i + 1).toNat = i.toNat + 1 := by omega
      rw [this] at hj
      rcases Nat.lt_succ_iff_lt_or_eq.1 hj with h9 | h9
      · exact hn j h9
      · rw [h9, hy']
        intro hx
        exact he (Option.some.inj hx)
  · have h9 : d.place r = -1 := by
      refine placeOf_miss fun j => ?_
      by_cases hj : j < i.toNat
      · exact hn j hj
      · have : (bytesOf d.roots)[j]? = none := List.getElem?_eq_none (by simp [bytesOf]; omega)
        rw [this]
        simp
    rw [h9] at hr
    exact hr _ ((x1.trans x2).trans x)

end
end Go.Proofs.Ytahoibjgojlpeaa.Ghost
