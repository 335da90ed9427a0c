/- Place, Proposer, Pick, Same; whether a configuration can be. -/
import Derived.Test.YtgdhddignbkloaaBoardE
import Derived.Test.YtgdhddignbkloaaVsBoardL
namespace Go.Proofs.Ytgdhddignbkloaa.Board
open Go Go.Vc

structure Vd where
  stake : Int
  key : List UInt8
instance : Inhabited Vd := ⟨⟨0, []⟩⟩
def Vd.tv (v : Vd) : TV := .agg [.int .i64 v.stake, .str v.key]
theorem Vd.size (v : Vd) : v.tv.size = 2 := by simp only [Vd.tv, TV.size, TVs.size]
abbrev vds (l : List Vd) : List TV := l.map Vd.tv
abbrev bools (l : List Bool) : List TV := l.map TV.bool

/-- Where a number stands in a row. -/
def idx : List Int → Int → Int → Int
  | [], _, _ => -1
  | x :: xs, v, i => if v = x then i else idx xs v (i + 1)

def firstOf : List Int → Int
  | [] => -1
  | x :: _ => x

/-- Of whom a row says yes. -/
def pk : List Int → List Bool → List Int
  | x :: xs, b :: bs => if b = true then x :: pk xs bs else pk xs bs
  | _, _ => []

theorem pk_snoc : ∀ (xs : List Int) (bs : List Bool) (x : Int) (b : Bool), xs.length = bs.length → pk (xs ++ [x]) (bs ++ [b]) = pk xs bs ++ (if b = true then [x] else [])
  | [], [], x, b, _ => by cases b <;> simp [pk]
  | [], _ :: _, _, _, h => by cases h
  | _ :: _, [], _, _, h => by cases h
  | y :: ys, c :: cs, x, b, h => by
    have ih := pk_snoc ys cs x b (by simpa using h)
    simp only [List.cons_append, pk]
    rw [ih]
    cases c <;> simp

section
variable {R : Value → Heap → Prop} {h : Heap} {c : Cf}

theorem read_int {s : Sl} {l : List Int} {i : Int} (e : Elems 1 h s (ints l)) (i0 : 0 ≤ i) (i1 : i < l.length) {K : Int → Prop} (hk : ∀ x, l[i.toNat]? = some x → K x) :
    0 ≤ i ∧ i < (s.len : Int) ∧ Nn s.a fun (p : Vc.Loc) => ∃ (n : Int), at1 h p.b (p.o + i.toNat * 1) (.int .i64 n) ∧ K n := by
  have hl := e.len
  rw [List.length_map] at hl
  refine e.read i0 (by omega) fun p t hla ht ha => ?_
  rw [List.getElem?_map] at ht
  obtain ⟨x, hx, rfl⟩ := Option.map_eq_some_iff.1 ht
  exact ⟨x, ha, hk x hx⟩

theorem read_bool {s : Sl} {l : List Bool} {i : Int} (e : Elems 1 h s (bools l)) (i0 : 0 ≤ i) (i1 : i < l.length) {K : Bool → Prop} (hk : ∀ x, l[i.toNat]? = some x → K x) :
    0 ≤ i ∧ i < (s.len : Int) ∧ Nn s.a fun (p : Vc.Loc) => ∃ (n : Bool), at1 h p.b (p.o + i.toNat * 1) (.bool n) ∧ K n := by
  have hl := e.len
  rw [List.length_map] at hl
  refine e.read i0 (by omega) fun p t hla ht ha => ?_
  rw [List.getElem?_map] at ht
  obtain ⟨x, hx, rfl⟩ := Option.map_eq_some_iff.1 ht
  exact ⟨x, ha, hk x hx⟩

theorem ints_len {s : Sl} {l : List Int} (e : Elems 1 h s (ints l)) : l.length = s.len := by have := e.len; rwa [List.length_map] at this

theorem drop_get {α : Type} {l : List α} {i : Nat} {x : α} (h : l[i]? = some x) : l.drop i = x :: l.drop (i + 1) := by
  obtain ⟨hi, rfl⟩ := List.getElem?_eq_some_iff.1 h
  exact List.drop_eq_getElem_cons hi

theorem same_spec {s t : Sl} {l m : List Int} (e : Elems 1 h s (ints l)) (k : Elems 1 h t (ints m)) (hl : l.length < 100000) (hr : R (TV.bool (decide (l = m))).val h) : CallsH Try.prog 15 (TVs.vals [.slice s, .slice t]) h R := by
  apply tollerref06_Same_calls
  unfold tollerref06_Same_vc
  have el := ints_len e
  have kl := ints_len k
  have no : l ≠ m → R (TV.val (TV.bool false)) h := fun hn => by rw [decide_eq_false hn] at hr; exact hr
  refine If.split (fun hb => ?_) fun hb => ?_
  · exact no fun hlm => by subst hlm; simp at hb; omega
  · have hlen : s.len = t.len := by simp at hb; omega
    refine ⟨fun σ hh => 0 ≤ σ.2 ∧ σ.2 ≤ s.len ∧ hh = h ∧ l.take σ.2.toNat = m.take σ.2.toNat, fun σ _ => ((s.len : Int) - σ.2).toNat, ⟨Int.le_refl 0, by first | omega | (dsimp only; omega), rfl, rfl⟩, ?_⟩
    rintro ⟨f, i⟩ hh ⟨i0, i1, rfl, ht⟩
    dsimp only at i0 i1 ht ⊢
    refine If.dec.2 ⟨fun hi => ?_, fun hi => ?_⟩
    · refine read_int e i0 (by omega) fun x hx => read_int k i0 (by omega) fun y hy => ?_
      refine If.split (fun hb => ?_) fun hb => ?_
      · refine no fun hlm => ?_
        subst hlm
        rw [hx] at hy
        injection hy with hy
        subst hy
        simp at hb
      · have hxy : x = y := by simpa using hb
        rw [wrap_i64 (n := i + 1) (by omega) (by omega)]
        have hi1 : (i + 1).toNat = i.toNat + 1 := by omega
        refine ⟨⟨by first | omega | (dsimp only; omega), by first | omega | (dsimp only; omega), rfl, ?_⟩, by first | omega | (dsimp only; omega)⟩
        try dsimp only
        rw [hi1, take_snoc hx, take_snoc hy, ht, hxy]
    · have hi2 : i.toNat = l.length := by omega
      have hi3 : l.length = m.length := by omega
      rw [hi2, List.take_length, hi3, List.take_length] at ht
      rw [decide_eq_true ht] at hr
      exact hr

theorem index_spec {s : Sl} {l : List Int} {v : Int} (e : Elems 1 h s (ints l)) (hl : l.length < 100000) (hr : R (TV.int .i64 (idx l v 0)).val h) : CallsH Try.prog 52 (TVs.vals [.slice s, .int .i64 v]) h R := by
  apply slices_Index___int_int__calls
  unfold slices_Index___int_int__vc
  have el := ints_len e
  refine ⟨fun σ hh => 0 ≤ σ.2 ∧ σ.2 ≤ s.len ∧ hh = h ∧ idx l v 0 = idx (l.drop σ.2.toNat) v σ.2, fun σ _ => ((s.len : Int) - σ.2).toNat, ⟨Int.le_refl 0, by first | omega | (dsimp only; omega), rfl, rfl⟩, ?_⟩
  rintro ⟨f, i⟩ hh ⟨i0, i1, rfl, ht⟩
  dsimp only at i0 i1 ht ⊢
  refine If.dec.2 ⟨fun hi => ?_, fun hi => ?_⟩
  · refine read_int e i0 (by omega) fun x hx => ?_
    rw [drop_get hx, idx] at ht
    refine If.dec.2 ⟨fun hv => ?_, fun hv => ?_⟩
    · rw [if_pos hv] at ht
      rw [ht] at hr
      exact hr
    · rw [if_neg hv] at ht
      rw [wrap_i64 (n := i + 1) (by omega) (by omega)]
      have hi1 : (i + 1).toNat = i.toNat + 1 := by omega
      refine ⟨⟨by first | omega | (dsimp only; omega), by first | omega | (dsimp only; omega), rfl, ?_⟩, by first | omega | (dsimp only; omega)⟩
      try dsimp only
      rw [hi1]
      exact ht
  · have hi2 : l.drop i.toNat = [] := List.drop_eq_nil_of_le (by omega)
    rw [hi2, idx] at ht
    rw [ht] at hr
    exact hr

/-- A configuration's fields are read. -/
theorem mem_length (n : Nat) (com slot : Int) : (mem n com slot).length ≤ n := by
  unfold mem
  split
  · exact Nat.zero_le _
  · rw [List.length_map, List.length_take, sorted_length]
    omega

theorem place_spec {slot who : Int} (hv : c.vals.len < 900) (hr : ∀ h', Ext h h' → R (TV.int .i64 (idx (mem c.vals.len c.com slot) who 0)).val h') : CallsH Try.prog 33 (TVs.vals [c.tv, .int .i64 slot, .int .i64 who]) h R := by
  apply board_Place_calls c.vals c.ep c.com c.no c.orp c.ear c.quo c.pe c.by_ c.win c.ban c.dec slot who
  unfold board_Place_vc
  refine newTV_in fun h1 v1 x1 s1 => ?_
  refine ⟨c.vals, c.ep, c.com, c.no, c.orp, c.ear, c.quo, c.pe, c.by_, c.win, c.ban, c.dec, v1.at, ?_⟩
  refine members_spec (c := c) hv fun h2 s2 o2 x2 _ => ⟨_, rfl, ?_⟩
  have := mem_length c.vals.len c.com slot
  exact index_spec o2.elems (by omega) ⟨_, rfl, hr h2 (x1.trans x2)⟩

theorem proposer_spec {slot : Int} (hv : c.vals.len < 900) (hr : ∀ h', Ext h h' → R (TV.int .i64 (firstOf (mem c.vals.len c.com slot))).val h') : CallsH Try.prog 32 (TVs.vals [c.tv, .int .i64 slot]) h R := by
  apply board_Proposer_calls c.vals c.ep c.com c.no c.orp c.ear c.quo c.pe c.by_ c.win c.ban c.dec slot
  unfold board_Proposer_vc
  refine newTV_in fun h1 v1 x1 s1 => ?_
  refine ⟨c.vals, c.ep, c.com, c.no, c.orp, c.ear, c.quo, c.pe, c.by_, c.win, c.ban, c.dec, v1.at, ?_⟩
  refine members_spec (c := c) hv fun h2 s2 o2 x2 _ => ⟨_, rfl, ?_⟩
  have hr2 := hr h2 (x1.trans x2)
  have el := ints_len o2.elems
  generalize mem c.vals.len c.com slot = l at *
  refine If.dec.2 ⟨fun hi => read_int o2.elems (Int.le_refl 0) (by omega) fun x hx => ?_, fun hi => ?_⟩
  · cases l with
    | nil => cases hx
    | cons y ys =>
      injection hx with hx
      subst hx
      exact hr2
  · have : l = [] := List.eq_nil_of_length_eq_zero (by omega)
    subst this
    exact hr2

theorem pick_spec {slot : Int} {bits : Sl} {row : List Bool} (hv : c.vals.len < 900) (e : Elems 1 h bits (bools row))
    (hn : ∀ h', Ext h h' → (mem c.vals.len c.com slot = [] ∨ row.length ≠ (mem c.vals.len c.com slot).length) → R (TV.tup [.slice Sl.nil, .bool false]).val h')
    (hy : ∀ h' s', Own 3 1 h' s' (ints (pk (mem c.vals.len c.com slot) row)) → Ext h h' → mem c.vals.len c.com slot ≠ [] → row.length = (mem c.vals.len c.com slot).length → R (TV.tup [.slice s', .bool true]).val h') :
    CallsH Try.prog 31 (TVs.vals [c.tv, .int .i64 slot, .slice bits]) h R := by
  apply board_Pick_calls c.vals c.ep c.com c.no c.orp c.ear c.quo c.pe c.by_ c.win c.ban c.dec slot bits
  unfold board_Pick_vc
  refine newTV_in fun h1 v1 x1 s1 => ?_
  refine ⟨c.vals, c.ep, c.com, c.no, c.orp, c.ear, c.quo, c.pe, c.by_, c.win, c.ban, c.dec, v1.at, ?_⟩
  refine members_spec (c := c) hv fun h2 s2 o2 x2 _ => ⟨_, rfl, ?_⟩
  have x02 := x1.trans x2
  have el := ints_len o2.elems
  have ml := mem_length c.vals.len c.com slot
  generalize mem c.vals.len c.com slot = l at *
  have bl : row.length = bits.len := by have := e.len; rwa [List.length_map] at this
  intro J hJ
  refine If.dec.2 ⟨fun h0 => hn h2 x02 (.inl (List.eq_nil_of_length_eq_zero (by omega))), fun h0 => If.split (fun hb => ?_) fun hb => ?_⟩
  · refine hn h2 x02 (.inr fun hx => ?_)
    rw [bl, el] at hx
    simp [hx] at hb
  · have hbl : bits.len = s2.len := by
      have : ((bits.len : Nat) : Int) = ((s2.len : Nat) : Int) := by simpa using hb
      omega
    refine hJ _ _ ?_
    refine ⟨fun σ hh => 0 ≤ σ.2 ∧ σ.2 ≤ s2.len ∧ Own 3 1 hh σ.1 (ints (pk (l.take σ.2.toNat) (row.take σ.2.toNat))) ∧ (∀ p, σ.1.a = some p → h2.size ≤ p.b) ∧ Ext h2 hh ∧ σ.1.len ≤ σ.2.toNat, fun σ _ => ((s2.len : Int) - σ.2).toNat,
      ⟨Int.le_refl 0, by first | omega | (dsimp only; omega), Own.nil _ _ _, (fun p hp => by cases hp), Ext.refl _, Nat.zero_le _⟩, ?_⟩
    rintro ⟨t, i⟩ h3 ⟨i0, i1, o3, b3, x3, tl⟩
    dsimp only at i0 i1 o3 b3 tl ⊢
    refine If.dec.2 ⟨fun hi => ?_, fun hi => ?_⟩
    · refine read_int (o2.elems.ext x3) i0 (by omega) fun x hx => read_bool ((e.ext x02).ext x3) i0 (by omega) fun b hb2 => ?_
      have hi1 : (i + 1).toNat = i.toNat + 1 := by omega
      have hpk := pk_snoc (l.take i.toNat) (row.take i.toNat) x b (by rw [List.length_take, List.length_take]; omega)
      rw [← take_snoc hx, ← take_snoc hb2] at hpk
      rw [wrap_i64 (n := i + 1) (by omega) (by omega)]
      have z3 := x3.size
      cases b with
      | false =>
        refine If.no ⟨⟨by first | omega | (dsimp only; omega), by first | omega | (dsimp only; omega), ?_, b3, x3, by first | omega | (dsimp only; omega)⟩, by first | omega | (dsimp only; omega)⟩
        try dsimp only
        rw [hi1, hpk]
        simpa using o3
      | true =>
        have hlen := o3.len
        rw [List.length_map] at hlen
        refine If.yes (append1 (C := ctx) (T := 3) (sz := 1) (x := .int .i64 x) size3 zsize3 (by rw [bytes3]; decide) (by rw [bytes3]; omega) o3 rfl rfl fun s4 h4 o4 f4 b4 => ?_)
        have hlen4 := o4.len
        rw [List.length_append, List.length_map, List.length_singleton] at hlen4
        refine ⟨⟨by first | omega | (dsimp only; omega), by first | omega | (dsimp only; omega), ?_, fun p hp => ?_, ?_, by first | omega | (dsimp only; omega)⟩, by first | omega | (dsimp only; omega)⟩
        · try dsimp only
          rw [hi1, hpk]
          simp only [ints, if_true, List.map_append, List.map_cons, List.map_nil] at o4 ⊢
          exact o4
        · rcases b4 p hp with ⟨l', h9, h10⟩ | h9
          · rw [← h10]; exact b3 l' h9
          · omega
        · refine Only.cut x3 f4 fun j ⟨p, hp, ej⟩ => ?_
          rw [← ej]; exact b3 p hp
    · have hi2 : i.toNat = l.length := by omega
      have hi3 : row.length = l.length := by omega
      rw [hi2, List.take_length, ← hi3, List.take_length] at o3
      exact hy h3 t o3 (x02.trans x3) (fun hx => by subst hx; simp at el; omega) hi3

/-! ### Whether a configuration can be -/

theorem read_vd {s : Sl} {l : List Vd} {i : Int} (e : Elems 2 h s (vds l)) (i0 : 0 ≤ i) (i1 : i < l.length) {K : Int → List UInt8 → Prop} (hk : ∀ x, l[i.toNat]? = some x → K x.stake x.key) :
    0 ≤ i ∧ i < (s.len : Int) ∧ Nn s.a fun (p : Vc.Loc) => ∃ (n : Int), ∃ (k : List UInt8), (at1 h p.b (p.o + i.toNat * 2) (.int .i64 n) ∧ at1 h p.b (p.o + i.toNat * 2 + 1) (.string (ByteArray.mk k.toArray))) ∧ K n k := by
  have hl := e.len
  rw [List.length_map] at hl
  refine e.read i0 (by omega) fun p t hla ht ha => ?_
  rw [List.getElem?_map] at ht
  obtain ⟨x, hx, rfl⟩ := Option.map_eq_some_iff.1 ht
  exact ⟨x.stake, x.key, ha, hk x hx⟩

theorem great_spec {L : List Vd} (e : Elems 2 h c.vals (vds L)) (hy : ∀ h', Ext h h' → R (TV.bool true).val h') (hn : ∀ h', Ext h h' → c.vals.len ≤ 100 → R (TV.bool false).val h') : CallsH Try.prog 24 (TVs.vals [c.tv]) h R := by
  apply tollerref05_Great_calls c.vals c.ep c.com c.no c.orp c.ear c.quo c.pe c.by_ c.win c.ban c.dec
  unfold tollerref05_Great_vc
  refine newTV_in fun h1 v1 x1 s1 => ⟨c.vals, v1.at1 rfl, If.dec.2 ⟨fun hb => hy h1 x1, fun hb => ⟨c.vals, v1.at1 rfl, ?_⟩⟩⟩
  have el : L.length = c.vals.len := by have := e.len; rwa [List.length_map] at this
  refine ⟨fun σ hh => 0 ≤ σ.2 ∧ σ.2 ≤ c.vals.len ∧ Ext h hh, fun σ _ => ((c.vals.len : Int) - σ.2).toNat, ⟨Int.le_refl 0, by first | omega | (dsimp only; omega), x1⟩, ?_⟩
  rintro ⟨f, i⟩ h2 ⟨i0, i1, x2⟩
  dsimp only at i0 i1 ⊢
  refine If.dec.2 ⟨fun hi => ?_, fun hi => hn h2 x2 (by omega)⟩
  refine read_vd (e.ext x2) i0 (by omega) fun x hx => newTV_in fun h3 v3 x3 s3 => put_in v3 (t := x.tv) rfl fun h4 v4 o4 s4 => ?_
  have x4 : Ext h h4 := x2.trans (Only.cut x3 o4 fun i hi => by omega)
  refine ⟨x.key, v4.at1 rfl, If.dec.2 ⟨fun _ => hy h4 x4, fun _ => ?_⟩⟩
  rw [wrap_i64 (n := i + 1) (by omega) (by omega)]
  exact ⟨⟨by first | omega | (dsimp only; omega), by first | omega | (dsimp only; omega), x4⟩, by first | omega | (dsimp only; omega)⟩

theorem total_spec {s : Sl} {L : List Vd} (e : Elems 2 h s (vds L)) (hl : s.len < 100000) (hr : ∀ h' n b, Ext h h' → R (TV.tup [.int .i64 n, .bool b]).val h') : CallsH Try.prog 42 (TVs.vals [.slice s]) h R := by
  apply tollerref05_Total_calls
  unfold tollerref05_Total_vc
  have el : L.length = s.len := by have := e.len; rwa [List.length_map] at this
  refine ⟨fun σ hh => 0 ≤ σ.2.2.2 ∧ σ.2.2.2 ≤ s.len ∧ Ext h hh, fun σ _ => ((s.len : Int) - σ.2.2.2).toNat, ⟨Int.le_refl 0, by first | omega | (dsimp only; omega), Ext.refl _⟩, ?_⟩
  rintro ⟨a1, a2, a3, i⟩ h2 ⟨i0, i1, x2⟩
  dsimp only at i0 i1 ⊢
  refine If.dec.2 ⟨fun hi => ?_, fun hi => hr h2 _ _ x2⟩
  refine read_vd (e.ext x2) i0 (by omega) fun x hx => newTV_in fun h3 v3 x3 s3 => put_in v3 (t := x.tv) rfl fun h4 v4 o4 s4 => ?_
  have x4 : Ext h h4 := x2.trans (Only.cut x3 o4 fun i hi => by omega)
  refine ⟨x.stake, v4.at1 rfl, If.dec.2 ⟨fun _ => hr h4 _ _ x4, fun _ => ⟨x.key, v4.at1 rfl, If.dec.2 ⟨fun _ => hr h4 _ _ x4, fun _ => ⟨x.key, v4.at1 rfl, If.dec.2 ⟨fun _ => hr h4 _ _ x4, fun _ => ⟨x.stake, v4.at1 rfl, If.dec.2 ⟨fun _ => hr h4 _ _ x4, fun _ => ?_⟩⟩⟩⟩⟩⟩⟩⟩
  rw [wrap_i64 (n := i + 1) (by omega) (by omega)]
  exact ⟨⟨by first | omega | (dsimp only; omega), by first | omega | (dsimp only; omega), x4⟩, by first | omega | (dsimp only; omega)⟩

/-- The configuration's numbers, each with what it is at most. -/
def nums (c : Cf) : List Int := [c.ep, 32, c.com, mn 16 (c.vals.len : Int), c.no, 256, c.orp, 64, c.ear, 64, c.quo, 64, c.pe, 16, c.by_, 256, c.win, 64, c.ban, 1048576, c.dec, 1048576, (c.vals.len : Int), 64]

theorem numbers_spec (hr : ∀ h' s, Elems 1 h' s (ints (nums c)) → Ext h h' → R (TV.slice s).val h') : CallsH Try.prog 41 (TVs.vals [c.tv]) h R := by
  apply tollerref05_Numbers_calls c.vals c.ep c.com c.no c.orp c.ear c.quo c.pe c.by_ c.win c.ban c.dec
  unfold tollerref05_Numbers_vc
  refine newTV_in fun h1 v1 x1 s1 => ?_
  refine ⟨c.ep, v1.at1 rfl, c.com, v1.at1 rfl, c.vals, v1.at1 rfl, c.no, v1.at1 rfl, c.orp, v1.at1 rfl, c.ear, v1.at1 rfl, c.quo, v1.at1 rfl, c.pe, v1.at1 rfl, c.by_, v1.at1 rfl, c.win, v1.at1 rfl, c.ban, v1.at1 rfl, c.dec, v1.at1 rfl, c.vals, v1.at1 rfl, ?_⟩
  have o := Own.new (T := 3) (sz := 1) h1 (ints (nums c)) (fun t ht => by
    obtain ⟨x, _, rfl⟩ := List.mem_map.1 ht
    rfl)
  exact hr _ _ o.elems (x1.trans (Ext.push _ _))

/-- What of a configuration that can be is of use here. -/
structure Fine (c : Cf) : Prop where
  com1 : 1 ≤ c.com
  com2 : c.com ≤ c.vals.len
  com3 : c.com ≤ 16
  len : c.vals.len ≤ 64

theorem good_spec {L : List Vd} (e : Elems 2 h c.vals (vds L)) (hv : c.vals.len ≤ 100) (hn : ∀ h', Ext h h' → R (TV.bool false).val h') (hy : ∀ h', Ext h h' → Fine c → R (TV.bool true).val h') : CallsH Try.prog 25 (TVs.vals [c.tv]) h R := by
  apply tollerref05_Good_calls c.vals c.ep c.com c.no c.orp c.ear c.quo c.pe c.by_ c.win c.ban c.dec
  unfold tollerref05_Good_vc
  refine newTV_in fun h1 v1 x1 s1 => ?_
  refine ⟨c.vals, c.ep, c.com, c.no, c.orp, c.ear, c.quo, c.pe, c.by_, c.win, c.ban, c.dec, v1.at, ?_⟩
  refine numbers_spec (c := c) fun h2 s2 e2 x2 => ⟨_, rfl, ?_⟩
  have x02 := x1.trans x2
  have el := ints_len e2
  have hl24 : (nums c).length = 24 := rfl
  refine ⟨fun σ hh => 0 ≤ σ.2 ∧ σ.2 ≤ 24 ∧ σ.2 % 2 = 0 ∧ hh = h2 ∧ (∀ j : Nat, j < σ.2.toNat → j % 2 = 0 → ∀ x y, (nums c)[j]? = some x → (nums c)[j + 1]? = some y → 1 ≤ x ∧ x ≤ y), fun σ _ => ((24 : Int) - σ.2).toNat,
    ⟨Int.le_refl 0, by decide, by decide, rfl, fun j hj => by simp at hj⟩, ?_⟩
  rintro ⟨f, i⟩ hh ⟨i0, i1, i2, rfl, hall⟩
  dsimp only at i0 i1 i2 hall ⊢
  refine If.dec.2 ⟨fun hi => ?_, fun hi => ?_⟩
  · refine read_int e2 i0 (by omega) fun x hx => If.dec.2 ⟨fun _ => hn _ x02, fun hx1 => ?_⟩
    rw [wrap_i64 (n := i + 1) (by omega) (by omega), wrap_i64 (n := i + 2) (by omega) (by omega)]
    refine read_int e2 i0 (by omega) fun x' hx' => read_int e2 (i := i + 1) (by omega) (by omega) fun y hy' => If.dec.2 ⟨fun _ => hn _ x02, fun hxy => ?_⟩
    rw [hx] at hx'
    injection hx' with hx'
    subst hx'
    refine ⟨⟨by first | omega | (dsimp only; omega), by first | omega | (dsimp only; omega), by first | omega | (dsimp only; omega), rfl, fun j hj h2' => ?_⟩, by first | omega | (dsimp only; omega)⟩
    try dsimp only at hj
    by_cases hji : j < i.toNat
    · exact hall j hji h2'
    · have hj2 : j = i.toNat := by omega
      subst hj2
      intro a b ha hb
      rw [hx] at ha
      injection ha with ha
      have hi1 : (i + 1).toNat = i.toNat + 1 := by omega
      rw [hi1] at hy'
      rw [hy'] at hb
      injection hb with hb
      omega
  · refine ⟨c.vals, (v1.ext x2).at1 rfl, total_spec (e.ext x02) (by omega) fun h3 n b x3 => ⟨n, b, rfl, ?_⟩⟩
    have hi3 : i.toNat = 24 := by omega
    rw [hi3] at hall
    have h2 := hall 2 (by decide) (by decide) c.com (mn 16 (c.vals.len : Int)) rfl rfl
    have h22 := hall 22 (by decide) (by decide) (c.vals.len : Int) 64 rfl rfl
    rw [mn_eq] at h2
    cases b with
    | false => exact hn h3 (x02.trans x3)
    | true => exact hy h3 (x02.trans x3) ⟨h2.1, by omega, by omega, by omega⟩

end
end Go.Proofs.Ytgdhddignbkloaa.Board
