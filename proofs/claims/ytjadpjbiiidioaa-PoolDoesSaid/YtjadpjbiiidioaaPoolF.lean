/- What the laws' own small functions do; Take. -/
import Derived.Test.YtjadpjbiiidioaaPoolE
import Derived.Test.YtjadpjbiiidioaaVsPoolT
namespace Go.Proofs.Ytjadpjbiiidioaa.Pool
open Go Go.Vc

structure Cl where
  kind : Int
  slot : Int
  n : Int
  peer : Int
  text : List UInt8

def Cl.tv (c : Cl) : TV := .agg [.int .i64 c.kind, .int .i64 c.slot, .int .i64 c.n, .int .i64 c.peer, .str c.text]
def Cl.fit (c : Cl) : Prop := (Lit.int .i64 c.kind).wf = true ∧ (Lit.int .i64 c.slot).wf = true ∧ (Lit.int .i64 c.n).wf = true ∧ (Lit.int .i64 c.peer).wf = true
instance : Inhabited Cl := ⟨⟨0, 0, 0, 0, []⟩⟩

/-- The document's name of a number. -/
def name (n : Int) : Bs 32 := ((Bs.zero 32).set 0 (UInt8.ofNat (n % 256).toNat)).set 31 (UInt8.ofNat ((7 * n) % 256).toNat)
def Cl.item (c : Cl) : It := ⟨c.slot, name c.n, c.peer, Bs.zero 32, c.text⟩

section
variable {R : Value → Heap → Prop} {h : Heap} {b : Nat} {A : Sl} {L S : List It} {most quota : Int}

theorem wrap_u8 (n : Int) : IntKind.wrap .u8 n = n % 256 := by
  unfold IntKind.wrap
  show (if (false && _) = true then _ else n % 2 ^ 8) = n % 256
  simp

theorem wrap_u8_i64 (n : Int) : IntKind.wrap .u8 (IntKind.wrap .i64 n) = n % 256 := by
  obtain ⟨q, e⟩ := wrap_off n
  rw [wrap_u8, e]
  omega

theorem put_byte {T : TypeId} {h : Heap} {b n i o : Nat} {x : Bs n} {K : Heap → Prop} (v : Var T h b (.bytes n x)) (hi : i < n) (ho : o = i) {c : Int} (h0 : 0 ≤ c) (h1 : c < 256)
    (hk : ∀ h1, Var T h1 b (.bytes n (x.set i (UInt8.ofNat c.toNat))) → Only (· = b) h h1 → h1.size = h.size → K h1) : wok h b o 1 ∧ Bind ((TV.int .u8 c).put h b o) K := by
  subst ho
  have hl : o + (TV.int .u8 c).size ≤ (TV.bytes n x).cells.length := by rw [TV.cells_length]; simp only [TV.size]; omega
  refine ⟨v.wok (by simp only [TV.size]; omega), hk _ ?_ (put_only v hl) (put_size v hl)⟩
  have := put_row (t := .int .u8 c) v hl
  unfold Var
  rw [this]
  congr 2
  simp only [TV.cells, TV.size, Bs.set, List.map_set]
  have e : ((UInt8.ofNat c.toNat).toNat : Int) = c := by
    rw [UInt8.toNat_ofNat']
    omega
  rw [e, List.set_eq_take_append_cons_drop, if_pos (by rw [List.length_map, x.h]; exact hi)]
  simp

theorem name_spec {n : Int} (hr : ∀ h', Ext h h' → R (TV.bytes 32 (name n)).val h') : CallsH Try.prog 27 (TVs.vals [.int .i64 n]) h R := by
  apply tollerref10_Name_calls
  unfold tollerref10_Name_vc
  refine newTV_in fun h1 v1 x1 s1 => newTV_in fun h2 v2 x2 s2 => ?_
  rw [wrap_u8, wrap_u8_i64]
  refine ⟨by decide, by decide, put_byte v2 (i := 0) (by omega) rfl (by omega) (by omega) fun h3 v3 o3 s3 => ?_⟩
  refine ⟨by decide, by decide, put_byte v3 (i := 31) (by omega) rfl (by omega) (by omega) fun h4 v4 o4 s4 => ?_⟩
  have v1' : Var 30 h4 h.size (.bytes 32 (Bs.zero 32)) := ((v1.ext x2).only o3 (by omega)).only o4 (by omega)
  refine ⟨name n, v4.bytes, put_in v1' (t := .bytes 32 (name n)) rfl fun h5 v5 o5 s5 => ?_⟩
  refine ⟨name n, v5.bytes, hr _ ?_⟩
  have w1 : Ext h1 h4 := Only.cut x2 (o3.trans o4) (fun i hi => by omega)
  exact Only.cut (x1.trans w1) o5 (fun i hi => by omega)

theorem item_spec (c : Cl) (hr : ∀ h', Ext h h' → R c.item.tv.val h') : CallsH Try.prog 14 (TVs.vals [c.tv]) h R := by
  apply tollerlaw15_Call_item_calls c.kind c.slot c.n c.peer c.text
  unfold tollerlaw15_Call_item_vc
  refine newTV_in fun h1 v1 x1 s1 => newTV_in fun h2 v2 x2 s2 => ?_
  have v1' := v1.ext x2
  refine ⟨c.slot, v1'.at1 rfl, c.n, v1'.at1 rfl, c.peer, v1'.at1 rfl, c.text, v1'.at1 rfl, ?_⟩
  refine name_spec fun h3 x3 => ⟨_, rfl, x3, ?_⟩
  refine put_in (t0 := It.zero.tv) (v2.ext x3) (t := c.item.tv) rfl fun h4 v4 o4 s4 => v_it (x := c.item) v4 ?_
  have := x2.size
  have := x3.size
  exact hr h4 (Only.cut ((x1.trans x2).trans x3) o4 fun i hi => by omega)

abbrev cls (l : List Cl) : List TV := l.map Cl.tv

theorem c_ex {h : Heap} {b o : Nat} {x : Cl} (ha : x.tv.at h b o) : at1 h b o (.int .i64 x.kind) ∧ at1 h b (o + 1) (.int .i64 x.slot) ∧ at1 h b (o + 1 + 1) (.int .i64 x.n) ∧ at1 h b (o + 1 + 1 + 1) (.int .i64 x.peer) ∧ at1 h b (o + 1 + 1 + 1 + 1) (.string (ByteArray.mk (List.toArray x.text))) := ha

theorem cls_at {h : Heap} {s : Sl} {l : List Cl} {i : Int} (e : Elems 5 h s (cls l)) (i0 : 0 ≤ i) (i1 : i < l.length) {K : Vc.Loc → Int → Int → Int → Int → List UInt8 → Prop}
    (hk : ∀ p x, s.a = some p → l[i.toNat]? = some x → K p x.kind x.slot x.n x.peer x.text) :
    0 ≤ i ∧ i < (s.len : Int) ∧ Nn s.a fun (p : Vc.Loc) => ∃ (n : Int), ∃ (n1 : Int), ∃ (n2 : Int), ∃ (n3 : Int), ∃ (t : List UInt8), (at1 h p.b (p.o + i.toNat * 5) (.int .i64 n) ∧ at1 h p.b (p.o + i.toNat * 5 + 1) (.int .i64 n1) ∧ at1 h p.b (p.o + i.toNat * 5 + 1 + 1) (.int .i64 n2) ∧ at1 h p.b (p.o + i.toNat * 5 + 1 + 1 + 1) (.int .i64 n3) ∧ at1 h p.b (p.o + i.toNat * 5 + 1 + 1 + 1 + 1) (.string (ByteArray.mk (List.toArray t)))) ∧ K p n n1 n2 n3 t := by
  have hl := e.len
  rw [List.length_map] at hl
  refine e.read i0 (by omega) fun p t hla ht ha => ?_
  rw [List.getElem?_map] at ht
  obtain ⟨x, hx, rfl⟩ := Option.map_eq_some_iff.1 ht
  exact ⟨_, _, _, _, _, c_ex ha, hk p x hla hx⟩

theorem v_cl {T : TypeId} {h : Heap} {b : Nat} {x : Cl} (v : Var T h b x.tv) {K : Int → Int → Int → Int → List UInt8 → Prop} (hk : K x.kind x.slot x.n x.peer x.text) :
    ∃ (n : Int), ∃ (n1 : Int), ∃ (n2 : Int), ∃ (n3 : Int), ∃ (t : List UInt8), (at1 h b 0 (.int .i64 n) ∧ at1 h b 1 (.int .i64 n1) ∧ at1 h b 2 (.int .i64 n2) ∧ at1 h b 3 (.int .i64 n3) ∧ at1 h b 4 (.string (ByteArray.mk (List.toArray t)))) ∧ K n n1 n2 n3 t :=
  ⟨_, _, _, _, _, ⟨v.at1 rfl, v.at1 rfl, v.at1 rfl, v.at1 rfl, v.at1 rfl⟩, hk⟩

def greatB (l : List Cl) : Bool := decide (150 < l.length) || l.any fun c => decide (100 < c.text.length)

theorem great_few {l : List Cl} (h : greatB l = false) : l.length ≤ 150 := by
  unfold greatB at h
  rw [Bool.or_eq_false_iff] at h
  have := h.1
  simp at this
  exact this

theorem great_spec {s : Sl} {l : List Cl} (e : Elems 5 h s (cls l)) (hr : ∀ h', Ext h h' → R (TV.bool (greatB l)).val h') : CallsH Try.prog 11 (TVs.vals [.slice s]) h R := by
  apply tollerlaw15_great_calls
  unfold tollerlaw15_great_vc
  have hel := e.len
  rw [List.length_map] at hel
  unfold greatB at hr
  refine If.dec.2 ⟨fun hg => ?_, fun hg => ?_⟩
  · have := hr h (Ext.refl _)
    rw [decide_eq_true (show 150 < l.length by omega)] at this
    exact this
  rw [decide_eq_false (show ¬ 150 < l.length by omega), Bool.false_or] at hr
  refine ⟨fun s hh => 0 ≤ s.2 ∧ s.2 ≤ l.length ∧ Ext h hh ∧ ((l.take s.2.toNat).any fun c => decide (100 < c.text.length)) = false, fun s _ => ((l.length : Int) - s.2).toNat, ⟨Int.le_refl _, Int.natCast_nonneg _, Ext.refl _, rfl⟩, ?_⟩
  rintro ⟨x0, i⟩ hh ⟨i0, i1, x, ha⟩
  simp only at i0 i1 ha ⊢
  refine If.dec.2 ⟨fun hi => ?_, fun hi => ?_⟩
  · refine cls_at (e.ext x) i0 (by omega) fun p c _ hc => ?_
    refine newTV_in fun h2 v2 x2 s2 => ?_
    refine put_in v2 (t := c.tv) rfl fun h3 v3 o3 s3 => ?_
    have x23 : Ext hh h3 := Only.cut x2 o3 fun j hj => by omega
    refine ⟨c.text, v3.at1 rfl, If.dec.2 ⟨fun hlong => ?_, fun hshort => ?_⟩⟩
    · have := hr _ (x.trans x23)
      rw [show (l.any fun c => decide (100 < c.text.length)) = true from List.any_eq_true.2 ⟨c, List.mem_of_getElem? hc, by simp; omega⟩] at this
      exact this
    · rw [wrap_i64 (n := i + 1) (by omega) (by omega)]
      have hi' : (i + 1).toNat = i.toNat + 1 := by omega
      refine ⟨⟨by omega, by omega, x.trans x23, ?_⟩, by first | omega | (dsimp only; omega)⟩
      rw [hi', List.take_add_one, hc, List.any_append, ha]
      simp
      omega
  · have : i.toNat = l.length := by omega
    rw [this, List.take_length] at ha
    rw [ha] at hr
    exact hr _ x

theorem bytes68 : (ctx.ti 68).bytes = 96 := by kernel_rfl
theorem size68 : (ctx.ti 68).size = 67 := by kernel_rfl
theorem zsize68 : (ctx.ti 68).z.size = 67 := by kernel_rfl

theorem plain_spec {s : Sl} (e : Elems 67 h s (its L)) (hl : L.length < 1000) (hr : ∀ h' s', Own 68 67 h' s' (its L) → Ext h h' → Fresh h s' → R (TV.slice s').val h') : CallsH Try.prog 16 (TVs.vals [.slice s]) h R := by
  apply tollerlaw15_plain_calls
  unfold tollerlaw15_plain_vc
  have hel := e.len
  rw [List.length_map] at hel
  refine ⟨fun s hh => 0 ≤ s.2 ∧ s.2 ≤ L.length ∧ Ext h hh ∧ Own 68 67 hh s.1 (its (L.take s.2.toNat)) ∧ Fresh h s.1, fun s _ => ((L.length : Int) - s.2).toNat, ⟨Int.le_refl _, Int.natCast_nonneg _, Ext.refl _, Own.nil 68 67 h, fun l hl => by cases hl⟩, ?_⟩
  rintro ⟨out, i⟩ hh ⟨i0, i1, x, o, f⟩
  simp only at i0 i1 o f ⊢
  refine If.dec.2 ⟨fun hi => ?_, fun hi => ?_⟩
  · refine its_at (e.ext x) i0 (by omega) fun p c _ hc => ?_
    refine newTV_in fun h2 v2 x2 s2 => ?_
    refine put_in v2 (t := c.tv) rfl fun h3 v3 o3 s3 => ?_
    have x23 : Ext hh h3 := Only.cut x2 o3 fun j hj => by omega
    refine ⟨c.slot, v_slot v3, c.root, v_root v3, c.peer, v_peer v3, c.fr, v_fr v3, c.text, v_text v3, ?_⟩
    have ol := o.len
    rw [List.length_map, List.length_take] at ol
    refine append1 (C := ctx) (T := 68) (sz := 67) (x := c.tv) size68 zsize68 (by rw [bytes68]; decide) (by rw [bytes68]; omega) (o.ext x23) rfl rfl fun s' h4 o4 f4 b4 => ?_
    rw [wrap_i64 (n := i + 1) (by omega) (by omega)]
    have hi' : (i + 1).toNat = i.toNat + 1 := by omega
    have hs := x.size
    have hs3 := x23.size
    refine ⟨⟨by omega, by omega, Only.cut (x.trans x23) f4 fun j ⟨l, hl, e⟩ => by rw [← e]; exact f l hl, ?_, fun l hl => ?_⟩, by first | omega | (dsimp only; omega)⟩
    · rw [hi', List.take_add_one, hc]
      simpa [its] using o4
    · rcases b4 l hl with ⟨l', h9, h10⟩ | h9
      · rw [← h10]; exact f l' h9
      · omega
  · have : i.toNat = L.length := by omega
    rw [this, List.take_length] at o
    exact hr _ _ o x f

def eqIt (x y : It) : Bool := decide (x.slot = y.slot) && (decide (x.root.1 = y.root.1) && (decide (x.peer = y.peer) && (decide (x.fr.1 = y.fr.1) && (decide (x.text = y.text) && true))))

theorem eqIt_iff {x y : It} : eqIt x y = true ↔ x = y := by
  unfold eqIt
  cases x; cases y
  simp only [Bool.and_eq_true, decide_eq_true_eq, and_true, It.mk.injEq]
  constructor
  · rintro ⟨h1, h2, h3, h4, h5⟩
    exact ⟨h1, Bs.ext' h2, h3, Bs.ext' h4, h5⟩
  · rintro ⟨h1, h2, h3, h4, h5⟩
    exact ⟨h1, by rw [h2], h3, by rw [h4], h5⟩

instance : DecidableEq It := fun x y => decidable_of_iff (eqIt x y = true) eqIt_iff

theorem same_spec {s t : Sl} {M : List It} (e1 : Elems 67 h s (its L)) (e2 : Elems 67 h t (its M)) (hl : L.length < 1000) (hr : R (TV.bool (decide (L = M))).val h) : CallsH Try.prog 15 (TVs.vals [.slice s, .slice t]) h R := by
  apply tollerref15_Same_calls
  unfold tollerref15_Same_vc
  have hel := e1.len
  have hel2 := e2.len
  rw [List.length_map] at hel hel2
  refine If.split (fun hne => ?_) (fun heq => ?_)
  · have : ¬ L = M := fun e => by
      subst e
      simp at hne
      omega
    rw [decide_eq_false this] at hr
    exact hr
  have hlen : L.length = M.length := by simp at heq; omega
  refine ⟨fun s hh => 0 ≤ s.2 ∧ s.2 ≤ L.length ∧ hh = h ∧ L.take s.2.toNat = M.take s.2.toNat, fun s _ => ((L.length : Int) - s.2).toNat, ⟨Int.le_refl _, Int.natCast_nonneg _, rfl, rfl⟩, ?_⟩
  rintro ⟨x0, i⟩ hh ⟨i0, i1, rfl, ht⟩
  simp only at i0 i1 ht ⊢
  refine If.dec.2 ⟨fun hi => ?_, fun hi => ?_⟩
  · refine its_at e1 i0 (by omega) fun p x _ hx => its_at e2 i0 (by omega) fun p2 y _ hy => ?_
    have hd : (decide (x.slot = y.slot) && (decide (x.root.1 = y.root.1) && (decide (x.peer = y.peer) && (decide (x.fr.1 = y.fr.1) && (decide (x.text = y.text) && true))))) = eqIt x y := rfl
    rw [hd]
    cases he : eqIt x y with
    | false =>
      refine If.yes ?_
      have : ¬ L = M := fun e => by
        subst e
        rw [hx] at hy
        cases hy
        rw [eqIt_iff.2 rfl] at he
        cases he
      rw [decide_eq_false this] at hr
      exact hr
    | true =>
      have := eqIt_iff.1 he
      subst this
      refine If.no ?_
      rw [wrap_i64 (n := i + 1) (by omega) (by omega)]
      have hi' : (i + 1).toNat = i.toNat + 1 := by omega
      refine ⟨⟨by omega, by omega, by trivial, ?_⟩, by first | omega | (dsimp only; omega)⟩
      rw [hi', List.take_add_one, List.take_add_one, hx, hy, ht]
  · have e1' : i.toNat = L.length := by omega
    rw [e1', List.take_length, hlen, List.take_length] at ht
    rw [decide_eq_true ht] at hr
    exact hr

/-! ### Take -/

theorem app32 {s : Sl} {x : It} {K : Sl → Heap → Prop} (o : Own 32 67 h s (its L)) (hl : L.length < 1000)
    (hk : ∀ s' h', Own 32 67 h' s' (its (L ++ [x])) → Only (In s) h h' → (∀ l, s'.a = some l → (∃ l', s.a = some l' ∧ l'.b = l.b) ∨ h.size ≤ l.b) → K s' h') :
    ∃ new, slAt (h.push (row (TVs.cells [x.tv]) 32)) (Sl.mk (some (Vc.Loc.mk h.size 0)) 1 1) 67 new ∧ (∀ v ∈ new, isOne v = true) ∧ vcAppend ctx 32 s 1 new (h.push (row (TVs.cells [x.tv]) 32)) K := by
  have ol := o.len
  rw [List.length_map] at ol
  refine append1 (C := ctx) (T := 32) (sz := 67) (x := x.tv) size32 zsize32 (by rw [bytes32]; decide) (by rw [bytes32]; omega) o rfl rfl fun s' h4 o4 f4 b4 => hk s' h4 ?_ f4 b4
  simpa [its] using o4

theorem filter_few (pred : It → Bool) (hf : S.length < 800) : (S.filter pred).length < 800 := by
  have := List.length_filter_le pred S
  omega

theorem take_filter {i : Nat} {x : It} (pred : It → Bool) (hx : S[i]? = some x) : (S.take (i + 1)).filter pred = (S.take i).filter pred ++ if pred x = true then [x] else [] := by
  rw [List.take_add_one, hx, List.filter_append]
  cases h : pred x <;> simp [h]

theorem take_spec (p : PL h b A S most quota) {f : One} {pred : It → Bool} (t : Tells h f pred)
    (hr : ∀ h' A' out, PL h' b A' (S.filter fun x => !pred x) most quota → Own 32 67 h' out (its (S.filter pred)) → Grown b A h A' h' → Fresh h out → (∀ i, In out i → ¬ Mine b A' i) → R (TV.slice out).val h') :
    CallsH Try.prog 22 (TVs.vals [.ptr (some ⟨b, 0⟩), .one f]) h R := by
  apply pool_Pool_Take_calls
  unfold pool_Pool_Take_vc
  have few := p.few
  have hblt := p.lt (i := b) (.inl rfl)
  refine If.no ?_
  refine all_spec p fun h1 s1 o1 x1 f1 => ⟨s1, rfl, ?_⟩
  have hel := o1.len
  rw [List.length_map] at hel
  have hs1 := x1.size
  refine ⟨fun s hh => 0 ≤ s.2.2 ∧ s.2.2 ≤ S.length ∧ Ext h1 hh ∧ Own 32 67 hh s.1 (its ((S.take s.2.2.toNat).filter pred)) ∧ Own 32 67 hh s.2.1 (its ((S.take s.2.2.toNat).filter fun x => !pred x)) ∧ Fresh h1 s.1 ∧ Fresh h1 s.2.1 ∧ (∀ i, In s.1 i → ¬ In s.2.1 i), fun s _ => ((S.length : Int) - s.2.2).toNat,
    ⟨Int.le_refl _, Int.natCast_nonneg _, Ext.refl _, Own.nil 32 67 h1, Own.nil 32 67 h1, fun l hl => (by cases hl), fun l hl => (by cases hl), fun i ⟨l, hl, _⟩ => (by cases hl)⟩, ?_⟩
  rintro ⟨out, rest, i⟩ hh ⟨i0, i1, x, oo, ro, fo, fr, dj⟩
  simp only at i0 i1 oo ro fo fr dj ⊢
  have hs := x.size
  refine If.dec.2 ⟨fun hi => ?_, fun hi => ?_⟩
  · refine its_at (o1.elems.ext x) i0 (by omega) fun l y _ hy => ?_
    refine newTV_in fun h2 v2 x2 s2 => ?_
    refine put_in v2 (t := y.tv) rfl fun h3 v3 o3 s3 => ?_
    have x23 : Ext hh h3 := Only.cut x2 o3 fun j hj => by omega
    refine v_it (x := y) v3 ?_
    obtain ⟨g, first, cap, t1, t2, t3⟩ := t.ex
    refine ⟨g, first, cap, t1, t2, t3 h3 y _ ((x1.trans x).trans x23) fun h4 x4 => ⟨_, rfl, ?_⟩⟩
    have x34 := x23.trans x4
    have s34 := x34.size
    have hi' : (i + 1).toNat = i.toNat + 1 := by omega
    have tf := take_filter pred hy
    have tn := take_filter (fun x => !pred x) hy
    rw [wrap_i64 (n := i + 1) (by omega) (by omega)]
    have lo : ((S.take i.toNat).filter pred).length < 1000 := Nat.lt_of_le_of_lt (Nat.le_trans (List.length_filter_le _ _) (by rw [List.length_take]; omega : (S.take i.toNat).length ≤ 799)) (by decide)
    have lr : ((S.take i.toNat).filter fun x => !pred x).length < 1000 := Nat.lt_of_le_of_lt (Nat.le_trans (List.length_filter_le _ _) (by rw [List.length_take]; omega : (S.take i.toNat).length ≤ 799)) (by decide)
    cases hp : pred y with
    | true =>
      rw [hp] at tf tn
      simp only [if_true, Bool.not_true, Bool.false_eq_true, if_false, List.append_nil] at tf tn
      refine If.yes (v_it (x := y) (v3.ext x4) ?_)
      refine app32 (x := y) (oo.ext x34) lo fun s5 h5 o5 f5 b5 => ?_
      have x5 : Ext h1 h5 := Only.cut (x.trans x34) f5 fun j ⟨l, hl, e⟩ => by rw [← e]; exact fo l hl
      refine ⟨⟨by omega, by omega, x5, by rw [hi', tf]; exact o5, ?_, fun l hl => ?_, fr, fun j ⟨l, hl, e⟩ hj => ?_⟩, by first | omega | (dsimp only; omega)⟩
      · rw [hi', tn]
        exact (ro.ext x34).only f5 fun l hl h9 => dj _ h9 ⟨l, hl, rfl⟩
      · rcases b5 l hl with ⟨l', h9, h10⟩ | h9
        · rw [← h10]; exact fo l' h9
        · omega
      · rcases b5 l hl with ⟨l', h9, h10⟩ | h9
        · exact dj j ⟨l', h9, h10.trans e⟩ hj
        · obtain ⟨l2, hl2, e2⟩ := hj
          have := ro.lt l2 hl2
          omega
    | false =>
      rw [hp] at tf tn
      simp only [if_true, Bool.not_false, Bool.false_eq_true, if_false, List.append_nil] at tf tn
      refine If.no (v_it (x := y) (v3.ext x4) ?_)
      refine app32 (x := y) (ro.ext x34) lr fun s5 h5 o5 f5 b5 => ?_
      have x5 : Ext h1 h5 := Only.cut (x.trans x34) f5 fun j ⟨l, hl, e⟩ => by rw [← e]; exact fr l hl
      refine ⟨⟨by omega, by omega, x5, ?_, by rw [hi', tn]; exact o5, fo, fun l hl => ?_, fun j hj ⟨l, hl, e⟩ => ?_⟩, by first | omega | (dsimp only; omega)⟩
      · rw [hi', tf]
        exact (oo.ext x34).only f5 fun l hl h9 => dj _ ⟨l, hl, rfl⟩ h9
      · rcases b5 l hl with ⟨l', h9, h10⟩ | h9
        · rw [← h10]; exact fr l' h9
        · omega
      · rcases b5 l hl with ⟨l', h9, h10⟩ | h9
        · exact dj j hj ⟨l', h9, h10.trans e⟩
        · obtain ⟨l2, hl2, e2⟩ := hj
          have := oo.lt l2 hl2
          omega
  · have hi2 : i.toNat = S.length := by omega
    rw [hi2, List.take_length] at oo ro
    have xx := x1.trans x
    obtain ⟨hsrt, hn, hf, L, H, hh', hp⟩ := p.ext xx
    refine nn_some ?_
    have bne : ∀ l, rest.a = some l → l.b ≠ b := fun l hl => by have := fr l hl; omega
    have one : ∀ j, In out j → j ≠ b := fun j ⟨l, hl, e⟩ => by have := fo l hl; omega
    refine field_in (i := 0) (t0 := .slice A) H.var rfl rfl rfl rfl fun h2 v2 o2 s2 => ?_
    refine nn_some ?_
    have lr : (S.filter fun x => !pred x).length < 800 := filter_few _ few
    have H2 : HL h2 b rest (S.filter fun x => !pred x) most quota := ⟨v2, ro.only o2 bne, fun ⟨l, hl, e⟩ => bne l hl e, by omega⟩
    refine hinit_spec H2 (v := ⟨.iface 66 (TV.ptr (some ⟨b, 0⟩)).val, rfl⟩) rfl fun h3 L3 H3 hp3 hh3 o3 => ⟨rfl, ?_⟩
    have hsub : (S.filter fun x => !pred x).Sublist S := List.filter_sublist
    refine hr h3 rest out ⟨hsrt.sublist hsub, hn.sublist (hsub.map _), lr, L3, H3, hh3, hp3⟩ ?_ ⟨?_, fun i hi => ?_⟩ (fun l hl => by have := fo l hl; omega) (fun j hj hm => ?_)
    · exact (oo.only o2 (fun l hl => one l.b ⟨l, hl, rfl⟩)).only o3 (fun l hl h9 => dj l.b ⟨l, hl, rfl⟩ h9)
    · refine ⟨by have := xx.size; have := o2.size; have := o3.size; omega, fun j hj hnm => ?_⟩
      rw [o3.same j (by have := xx.size; omega) (fun ⟨l, hl, e⟩ => by have := fr l hl; omega), o2.same j (by have := xx.size; omega) (fun e => hnm (.inl e)), xx.same j hj]
    · rcases hi with e | ⟨l, hl, e⟩
      · exact .inl (.inl e)
      · right
        have := fr l hl
        omega
    · rcases hm with e | hm
      · exact one j hj e
      · exact dj j hj hm

theorem take_nil {f : One} (hr : R (TV.slice Sl.nil).val h) : CallsH Try.prog 22 (TVs.vals [.ptr none, .one f]) h R := by
  apply pool_Pool_Take_calls
  exact If.yes hr

end
end Go.Proofs.Ytjadpjbiiidioaa.Pool
