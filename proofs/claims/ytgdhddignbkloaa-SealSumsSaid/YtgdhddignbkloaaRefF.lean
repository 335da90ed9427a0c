/- The document's committee. -/
import Derived.Test.YtgdhddignbkloaaRefE
namespace Go.Proofs.Ytgdhddignbkloaa.Board
open Go Go.Vc

theorem bytes47 : (ctx.ti 26).bytes = 32 := by kernel_rfl
theorem size47 : (ctx.ti 26).size = 32 := by kernel_rfl
theorem zsize47 : (ctx.ti 26).z.size = 32 := by kernel_rfl

abbrev lots (slot : Int) (n : Nat) : List TV := (List.range n).map fun (j : Nat) => TV.bytes 32 (lotF slot (j : Int))

theorem lots_succ (slot : Int) (n : Nat) : lots slot (n + 1) = lots slot n ++ [TV.bytes 32 (lotF slot (n : Int))] := by
  unfold lots
  rw [List.range_succ, List.map_append]
  rfl

noncomputable def flags (slot : Int) (n k : Nat) : List Bool := (List.range n).map fun j => !left slot n k j

theorem flags_zero (slot : Int) (n : Nat) : flags slot n 0 = List.replicate n false := by
  unfold flags left
  apply List.ext_getElem (by simp)
  intro j h1 h2
  simp

theorem flags_get {slot : Int} {n k j : Nat} (hj : j < n) : (flags slot n k)[j]? = some (!left slot n k j) := by
  unfold flags
  rw [List.getElem?_map, List.getElem?_range hj]
  rfl

theorem flags_set {slot : Int} {n k b : Nat} (hw : (whos slot n)[k]? = some (b : Int)) : (flags slot n k).set b true = flags slot n (k + 1) := by
  unfold flags
  apply List.ext_getElem (by simp)
  intro j h1 h2
  simp only [List.length_map, List.length_range] at h2
  rw [List.getElem_set]
  simp only [List.getElem_map, List.getElem_range]
  rw [left_succ hw]
  by_cases hj : b = j
  · subst hj
    simp
  · rw [if_neg hj, if_neg (fun e => hj e.symm)]

section
variable {R : Value → Heap → Prop} {h : Heap} {c : Cf}

theorem lot_at {s : Sl} {slot : Int} {n m : Nat} {i : Int} (hm : m = s.len) (e : Elems 32 h s (lots slot n)) (i0 : 0 ≤ i) (i1 : i < n) {K : Bs 32 → Prop} (hk : K (lotF slot i)) :
    0 ≤ i ∧ i < (m : Int) ∧ Nn s.a fun (l : Vc.Loc) => ∃ (b : Bs 32), atBytes h l.b (l.o + i.toNat * 32) 32 b ∧ K b := by
  subst hm
  have hl := e.len
  rw [List.length_map, List.length_range] at hl
  refine e.read i0 (by omega) fun l t hla ht ha => ?_
  rw [List.getElem?_map, List.getElem?_range (by omega)] at ht
  injection ht with ht
  subst ht
  have hc : ((i.toNat : Nat) : Int) = i := by omega
  have ha2 : TV.at h l.b (l.o + i.toNat * 32) (TV.bytes 32 (lotF slot ((i.toNat : Nat) : Int))) := ha
  rw [hc] at ha2
  exact ⟨_, ha2, hk⟩

theorem own_bool {s : Sl} {l : List Bool} {i : Int} {b : Nat} (o : Own 4 1 h s (bools l)) (hs : s.a = some ⟨b, 0⟩) (i0 : 0 ≤ i) (i1 : i < l.length) {K : Bool → Prop} (hk : ∀ x, l[i.toNat]? = some x → K x) :
    ∃ (x : Bool), at1 h b (0 + i.toNat * 1) (.bool x) ∧ K x := by
  have hl := o.len
  rw [List.length_map] at hl
  have := read_bool o.elems i0 i1 hk
  rw [hs] at this
  obtain ⟨_, _, hx⟩ := this
  exact hx

set_option maxRecDepth 100000 in
set_option maxHeartbeats 1000000 in
theorem docmembers_spec {slot : Int} (f : Fine c) (hr : ∀ h' s', Own 3 1 h' s' (ints (mem c.vals.len c.com slot)) → Ext h h' → (∀ l, s'.a = some l → h.size ≤ l.b) → R (TV.slice s').val h') :
    CallsH Try.prog 26 (TVs.vals [c.tv, .int .i64 slot]) h R := by
  apply tollerref06_Members_calls c.vals c.ep c.com c.no c.orp c.ear c.quo c.pe c.by_ c.win c.ban c.dec slot
  unfold tollerref06_Members_vc
  refine newTV_in fun h1 v1 x1 s1 => ?_
  intro J hJ
  have none_ : slot < 0 ∨ 1073741824 < slot → R (TV.val (TV.slice Sl.nil)) h1 := fun hb => by
    refine hr h1 Sl.nil ?_ x1 (fun l hl => by cases hl)
    rw [mem_out hb]
    exact Own.nil _ _ _
  refine If.dec.2 ⟨fun hb => none_ (.inl hb), fun hb => If.dec.2 ⟨fun hb2 => none_ (.inr hb2), fun hb2 => hJ _ _ ?_⟩⟩
  clear hJ none_
  have f1 := f.com1
  have f2 := f.com2
  have f3 := f.com3
  have f4 := f.len
  have far : ∀ hh, Only (fun i => h.size < i) h1 hh → Ext h hh := fun hh o => Only.cut x1 o fun i hi => by omega
  have var : ∀ hh, Only (fun i => h.size < i) h1 hh → Var 24 hh h.size c.tv := fun hh o => v1.only o (Nat.lt_irrefl _)
  refine ⟨c.vals, v1.at1 rfl, ?_⟩
  refine ⟨fun σ hh => 0 ≤ σ.2 ∧ σ.2 ≤ c.vals.len ∧ Own 26 32 hh σ.1 (lots slot σ.2.toNat) ∧ (∀ l, σ.1.a = some l → h.size < l.b) ∧ Only (fun i => h.size < i) h1 hh, fun σ _ => ((c.vals.len : Int) - σ.2).toNat,
    ⟨Int.le_refl 0, by first | omega | (dsimp only; omega), Own.nil _ _ _, (fun l hl => by cases hl), Only.refl _ _⟩, ?_⟩
  rintro ⟨s, i⟩ h2 ⟨i0, i1, o2, b2, f2'⟩
  dsimp only at i0 i1 o2 b2 ⊢
  have z2 := f2'.size
  refine If.dec.2 ⟨fun hi => ?_, fun hi => ?_⟩
  · have lb := board_length
    have l4 := leR_length 4 (IntKind.wrap .u64 slot)
    have l2 := leR_length 2 (IntKind.wrap .u64 i)
    refine docput_spec 4 _ _ _ (by decide) fun h3 x3 => ⟨_, rfl, by show ((board.length + _ : Nat) : Int) ≤ _; rw [l4, lb]; decide, docput_spec 2 _ _ _ (by decide) fun h4 x4 => ⟨_, rfl, ?_, ?_⟩⟩
    · show (((board ++ _).length + _ : Nat) : Int) ≤ _
      rw [List.length_append, l4, l2, lb]
      decide
    refine docof_spec (s := (board ++ leR (IntKind.wrap .u64 slot) 4) ++ leR (IntKind.wrap .u64 i) 2) (by rw [List.length_append, List.length_append, l4, l2, lb]; decide) fun h5 x5 => ⟨_, rfl, ?_⟩
    have x25 := (x3.trans x4).trans x5
    have o5 := o2.ext x25
    have hlen := o5.len
    rw [List.length_map, List.length_range] at hlen
    rw [doc_lot]
    refine append1 (C := ctx) (T := 26) (sz := 32) (x := .bytes 32 (lotF slot i)) size47 zsize47 (by rw [bytes47]; decide) (by rw [bytes47]; omega) o5 rfl rfl fun s6 h6 o6 f6 b6 => ?_
    rw [wrap_i64 (n := i + 1) (by omega) (by omega)]
    have hi1 : (i + 1).toNat = i.toNat + 1 := by omega
    have z5 := x25.size
    refine ⟨⟨by first | omega | (dsimp only; omega), by first | omega | (dsimp only; omega), ?_, fun l hl => ?_, ?_⟩, by first | omega | (dsimp only; omega)⟩
    · rw [hi1, lots_succ]
      have hcast : ((i.toNat : Nat) : Int) = i := by omega
      rw [hcast]
      exact o6
    · rcases b6 l hl with ⟨l', h9, h10⟩ | h9
      · rw [← h10]; exact b2 l' h9
      · omega
    · refine f2'.trans ((Only.of_ext x25).trans (f6.mono fun j ⟨l, hl, e⟩ => ?_))
      rw [← e]; exact b2 l hl
  have hi2 : i.toNat = c.vals.len := by omega
  rw [hi2] at o2
  have hslen := o2.len
  rw [List.length_map, List.length_range] at hslen
  have hsn : Int.toNat (s.len : Int) = s.len := Int.toNat_natCast _
  refine ⟨by omega, Int.le_refl _, by omega, by omega, ?_⟩
  rw [hsn, ← hslen]
  have ob := Own.new (T := 4) (sz := 1) h2 (List.replicate c.vals.len (TV.bool false)) (fun t ht => by rw [List.eq_of_mem_replicate ht]; rfl)
  rw [List.length_replicate, ← zeros_rep] at ob
  have xp := Ext.push h2 (row_ c.vals.len)
  have szp : (Array.push h2 (row_ c.vals.len)).size = h2.size + 1 := by simp
  change Own 4 1 (Array.push h2 (row_ c.vals.len)) _ _ at ob
  show Vc.Loop _ (Array.push h2 (row_ c.vals.len)) _
  generalize Array.push h2 (row_ c.vals.len) = hp at *
  have x0p : Only (fun i => h.size < i) h1 hp := f2'.trans (Only.of_ext xp)
  have sepL : ∀ l, s.a = some l → l.b < h2.size := o2.lt
  have hb2s : h.size < h2.size := by omega
  rw [show List.replicate c.vals.len (TV.bool false) = bools (flags slot c.vals.len 0) by rw [flags_zero]; simp [bools]] at ob
  refine ⟨fun t hh => ∃ k : Nat, (k : Int) ≤ c.com ∧ Own 3 1 hh t (ints ((whos slot c.vals.len).take k)) ∧ (∀ l, t.a = some l → h2.size < l.b) ∧ Own 4 1 hh ⟨some ⟨h2.size, 0⟩, c.vals.len, c.vals.len⟩ (bools (flags slot c.vals.len k)) ∧ Only (fun i => h2.size ≤ i) hp hh, fun t _ => (c.com - (t.len : Int)).toNat,
    ⟨0, by omega, Own.nil _ _ _, (fun l hl => by cases hl), ob, Only.refl _ _⟩, ?_⟩
  rintro t h3 ⟨k, hk, ot, bt, of3, f3'⟩
  have x03 : Only (fun i => h.size < i) h1 h3 := x0p.trans (f3'.mono fun i hi => by omega)
  have v3 := var h3 x03
  have tl := ot.len
  have htk : ((whos slot c.vals.len).take k).length = k := by rw [List.length_take, whos_length]; omega
  rw [List.length_map, htk] at tl
  have z3 := f3'.size
  have hmq := mem_eq (n := c.vals.len) (com := c.com) (slot := slot) (by omega) (by omega)
  have fin : ∀ hh, Ext h3 hh → (k : Int) = c.com → R (TV.slice t).val hh := fun hh x hkc => by
    refine hr hh t ?_ ((far h3 x03).trans x) (fun l hl => by have := bt l hl; omega)
    rw [hmq, show (min (max c.com 0) (c.vals.len : Int)).toNat = k by omega]
    exact ot.ext x
  refine ⟨c.com, v3.at1 rfl, If.dec.2 ⟨fun hlt => ?_, fun hge => fin h3 (Ext.refl _) (by omega)⟩⟩
  have hkn : k < c.vals.len := by omega
  have ol3 : Own 26 32 h3 s (lots slot c.vals.len) := (o2.ext xp).only f3' (fun l hl => by have := sepL l hl; omega)
  refine ⟨fun σ hh => 0 ≤ σ.2 ∧ σ.2 ≤ c.vals.len ∧ Ext h3 hh ∧ Best slot (left slot c.vals.len k) σ.2.toNat σ.1, fun σ _ => ((c.vals.len : Int) - σ.2).toNat, ⟨Int.le_refl 0, by first | omega | (dsimp only; omega), Ext.refl _, .inl ⟨rfl, fun j hj => absurd hj (by simp)⟩⟩, ?_⟩
  rintro ⟨best, i'⟩ h4 ⟨j0, j1, x4, B⟩
  dsimp only at j0 j1 B ⊢
  refine If.dec.2 ⟨fun hi' => ?_, fun hi' => ?_⟩
  · have hi1 : (i' + 1).toNat = i'.toNat + 1 := by omega
    have hcast : ((i'.toNat : Nat) : Int) = i' := by omega
    rw [wrap_i64 (n := i' + 1) (by omega) (by omega)]
    have hn0 : Int.toNat (c.vals.len : Int) = c.vals.len := Int.toNat_natCast _
    refine ⟨j0, by first | omega | (rw [hn0]; omega), own_bool (of3.ext x4) rfl j0 (by unfold flags; rw [List.length_map, List.length_range]; omega) fun x hx => ?_⟩
    rw [flags_get (by omega)] at hx
    injection hx with hx
    have next : ∀ (hh : Heap) (b' : Int), Ext h3 hh → Best slot (left slot c.vals.len k) (i'.toNat + 1) b' → ((0 ≤ i' + 1 ∧ i' + 1 ≤ c.vals.len ∧ Ext h3 hh ∧ Best slot (left slot c.vals.len k) (i' + 1).toNat b') ∧ ((c.vals.len : Int) - (i' + 1)).toNat < ((c.vals.len : Int) - i').toNat) :=
      fun hh b' xh Bh => ⟨⟨by omega, by omega, xh, by rw [hi1]; exact Bh⟩, by omega⟩
    cases hu : left slot c.vals.len k i'.toNat with
    | false =>
      rw [hu] at hx
      subst hx
      exact If.no (next h4 best x4 (B.skip hu))
    | true =>
      rw [hu] at hx
      subst hx
      refine If.yes (If.dec.2 ⟨fun hneg => ?_, fun hpos => ?_⟩)
      · have := B.first hneg hu
        rw [hcast] at this
        exact next h4 i' x4 this
      · obtain ⟨b, hbb⟩ : ∃ b : Nat, best = (b : Int) := ⟨best.toNat, by omega⟩
        subst hbb
        have hbn : b < i'.toNat := by
          rcases B with ⟨hb', _⟩ | ⟨b', hb', hlt', _⟩
          · omega
          · omega
        have ol4 := ol3.ext x4
        refine lot_at hslen ol4.elems j0 (by omega) ?_
        refine lot_at hslen ol4.elems (by omega) (by omega) ?_
        refine docless_spec fun h5 x5 => ⟨_, rfl, ?_⟩
        rw [← hcast] 
        cases hl : Op.bytesLess (lotF slot ((i'.toNat : Nat) : Int)).l (lotF slot (b : Int)).l with
        | true =>
          have := B.less hu hl
          rw [hcast] at this ⊢
          exact If.yes (next h5 i' (x4.trans x5) this)
        | false =>
          have := B.keep hl
          rw [hcast]
          exact If.no (next h5 _ (x4.trans x5) this)
  have hi2' : i'.toNat = c.vals.len := by omega
  rw [hi2'] at B
  obtain ⟨b, hbn, hbb, hw⟩ := B.done hkn
  subst hbb
  refine If.dec.2 ⟨fun hneg => by omega, fun _ => ?_⟩
  have hput := (of3.ext x4).put_in (t := .bool true) (i := (b : Int)) (n := 1) (K := fun hh => ∃ new, slAt (hh.push (row (TVs.cells [TV.int .i64 (b : Int)]) 3)) (Sl.mk (some (Vc.Loc.mk hh.size 0)) 1 1) 1 new ∧ (∀ v ∈ new, isOne v = true) ∧
      vcAppend ctx 3 t 1 new (hh.push (row (TVs.cells [TV.int .i64 (b : Int)]) 3)) fun (s_ : Sl) (h_ : Heap) => (∃ k : Nat, (k : Int) ≤ c.com ∧ Own 3 1 h_ s_ (ints ((whos slot c.vals.len).take k)) ∧ (∀ l, s_.a = some l → h2.size < l.b) ∧ Own 4 1 h_ ⟨some ⟨h2.size, 0⟩, c.vals.len, c.vals.len⟩ (bools (flags slot c.vals.len k)) ∧ Only (fun i => h2.size ≤ i) hp h_) ∧ (c.com - (s_.len : Int)).toNat < (c.com - (t.len : Int)).toNat)
      (by omega) (by unfold flags; rw [List.length_map, List.length_map, List.length_range]; omega) rfl rfl fun h5 o5 f5 s5 => ?_
  · have hn0 : Int.toNat (c.vals.len : Int) = c.vals.len := Int.toNat_natCast _
    refine ⟨by omega, by first | omega | (rw [hn0]; omega), ?_⟩
    exact hput.2.2
  · have f5' : Only (· = h2.size) h4 h5 := f5.mono fun i ⟨l, hl, e⟩ => by cases hl; exact e.symm
    have hfl : (bools (flags slot c.vals.len k)).set ((b : Int)).toNat (TV.bool true) = bools (flags slot c.vals.len (k + 1)) := by
      rw [Int.toNat_natCast, ← flags_set hw]
      unfold bools
      rw [List.map_set]
    rw [hfl] at o5
    have ot5 := (ot.ext x4).only f5' (fun l hl => by have := bt l hl; omega)
    refine append1 (C := ctx) (T := 3) (sz := 1) (x := .int .i64 (b : Int)) size3 zsize3 (by rw [bytes3]; decide) (by rw [bytes3]; omega) ot5 rfl rfl fun s6 h6 o6 f6 b6 => ?_
    have z5 := f5'.size
    have z4 := x4.size
    have hp2 : h2.size < hp.size := by omega
    have l6 := o6.len
    rw [List.length_append, List.length_map, htk, List.length_singleton] at l6
    refine ⟨⟨k + 1, by omega, ?_, fun l hl => ?_, ?_, ?_⟩, by omega⟩
    · rw [take_snoc hw]
      simp only [ints, List.map_append, List.map_cons, List.map_nil] at o6 ⊢
      exact o6
    · rcases b6 l hl with ⟨l', h9, h10⟩ | h9
      · rw [← h10]; exact bt l' h9
      · omega
    · refine o5.only f6 fun l hl hx => ?_
      obtain ⟨l', hl', e⟩ := hx
      cases hl
      have := bt l' hl'
      have e' : l'.b = h2.size := e
      omega
    · refine f3'.trans ((Only.of_ext x4).trans ((f5'.mono fun i hi => by omega).trans (f6.mono fun i ⟨l, hl, e⟩ => ?_)))
      have := bt l hl
      omega

theorem docplace_spec {slot who : Int} (f : Fine c) (hr : ∀ h', Ext h h' → R (TV.int .i64 (idx (mem c.vals.len c.com slot) who 0)).val h') : CallsH Try.prog 36 (TVs.vals [c.tv, .int .i64 slot, .int .i64 who]) h R := by
  apply tollerref06_Place_calls c.vals c.ep c.com c.no c.orp c.ear c.quo c.pe c.by_ c.win c.ban c.dec slot who
  unfold tollerref06_Place_vc
  have f4 := f.len
  refine newTV_in fun h1 v1 x1 s1 => cf_at v1 (docmembers_spec f fun h2 s2 o2 x2 _ => ⟨_, rfl, ?_⟩)
  have hr2 := hr h2 (x1.trans x2)
  have ml := mem_length c.vals.len c.com slot
  have el := ints_len o2.elems
  generalize mem c.vals.len c.com slot = l at *
  refine ⟨fun σ hh => 0 ≤ σ.2 ∧ σ.2 ≤ s2.len ∧ hh = h2 ∧ idx l who 0 = idx (l.drop σ.2.toNat) who σ.2, fun σ _ => ((s2.len : Int) - σ.2).toNat, ⟨Int.le_refl 0, by first | omega | (dsimp only; omega), rfl, rfl⟩, ?_⟩
  rintro ⟨q, i⟩ hh ⟨i0, i1, hhe, ht⟩
  obtain rfl := hhe.symm
  dsimp only at i0 i1 ht ⊢
  refine If.dec.2 ⟨fun hi => ?_, fun hi => ?_⟩
  · refine read_int o2.elems i0 (by omega) fun x hx => ?_
    rw [drop_get hx, idx] at ht
    refine If.dec.2 ⟨fun hv => ?_, fun hv => ?_⟩
    · rw [if_pos hv.symm] at ht
      rw [ht] at hr2
      exact hr2
    · rw [if_neg (fun e => hv e.symm)] at ht
      rw [wrap_i64 (n := i + 1) (by omega) (by omega)]
      have hi1 : (i + 1).toNat = i.toNat + 1 := by omega
      refine ⟨⟨by first | omega | (dsimp only; omega), by first | omega | (dsimp only; omega), rfl, ?_⟩, by first | omega | (dsimp only; omega)⟩
      try dsimp only
      rw [hi1]
      exact ht
  · have hi2 : l.drop i.toNat = [] := List.drop_eq_nil_of_le (by omega)
    rw [hi2, idx] at ht
    rw [ht] at hr2
    exact hr2

theorem docpick_spec {slot : Int} {bits : Sl} {row : List Bool} (f : Fine c) (e : Elems 1 h bits (bools row))
    (hn : ∀ h', Ext h h' → (mem c.vals.len c.com slot = [] ∨ row.length ≠ (mem c.vals.len c.com slot).length) → R (TV.tup [.slice Sl.nil, .bool false]).val h')
    (hy : ∀ h' s', Own 3 1 h' s' (ints (pk (mem c.vals.len c.com slot) row)) → Ext h h' → mem c.vals.len c.com slot ≠ [] → row.length = (mem c.vals.len c.com slot).length → R (TV.tup [.slice s', .bool true]).val h') :
    CallsH Try.prog 35 (TVs.vals [c.tv, .int .i64 slot, .slice bits]) h R := by
  apply tollerref06_Pick_calls c.vals c.ep c.com c.no c.orp c.ear c.quo c.pe c.by_ c.win c.ban c.dec slot bits
  unfold tollerref06_Pick_vc
  have f4 := f.len
  refine newTV_in fun h1 v1 x1 s1 => cf_at v1 (docmembers_spec f fun h2 s2 o2 x2 _ => ⟨_, rfl, ?_⟩)
  have x02 := x1.trans x2
  have el := ints_len o2.elems
  have ml := mem_length c.vals.len c.com slot
  generalize mem c.vals.len c.com slot = l at *
  have bl : row.length = bits.len := by have := e.len; rwa [List.length_map] at this
  intro J hJ
  refine If.split (fun hb => ?_) fun hb => If.dec.2 ⟨fun h0 => hn h2 x02 (.inl (List.eq_nil_of_length_eq_zero (by omega))), fun h0 => ?_⟩
  · refine hn h2 x02 (.inr fun hx => ?_)
    rw [bl, el] at hx
    simp [hx] at hb
  · have hbl : bits.len = s2.len := by
      have : ((s2.len : Nat) : Int) = ((bits.len : Nat) : Int) := by simpa using hb
      omega
    refine hJ _ _ ?_
    refine ⟨fun σ hh => 0 ≤ σ.2 ∧ σ.2 ≤ s2.len ∧ Own 3 1 hh σ.1 (ints (pk (l.take σ.2.toNat) (row.take σ.2.toNat))) ∧ (∀ p, σ.1.a = some p → h2.size ≤ p.b) ∧ Ext h2 hh ∧ σ.1.len ≤ σ.2.toNat, fun σ _ => ((s2.len : Int) - σ.2).toNat,
      ⟨Int.le_refl 0, by first | omega | (dsimp only; omega), Own.nil _ _ _, (fun p hp => by cases hp), Ext.refl _, Nat.zero_le _⟩, ?_⟩
    rintro ⟨t, i⟩ h3 ⟨i0, i1, o3, b3, x3, tl⟩
    dsimp only at i0 i1 o3 b3 tl ⊢
    refine If.dec.2 ⟨fun hi => ?_, fun hi => ?_⟩
    · refine read_bool ((e.ext x02).ext x3) i0 (by omega) fun b hb2 => ?_
      have hi1 : (i + 1).toNat = i.toNat + 1 := by omega
      obtain ⟨x, hx⟩ : ∃ x, l[i.toNat]? = some x := ⟨_, List.getElem?_eq_getElem (by omega)⟩
      have hpk := pk_snoc (l.take i.toNat) (row.take i.toNat) x b (by rw [List.length_take, List.length_take]; omega)
      rw [← take_snoc hx, ← take_snoc hb2] at hpk
      rw [wrap_i64 (n := i + 1) (by omega) (by omega)]
      have z3 := x3.size
      cases b with
      | false =>
        refine If.no ⟨⟨by first | omega | (dsimp only; omega), by first | omega | (dsimp only; omega), ?_, b3, x3, by first | omega | (dsimp only; omega)⟩, by first | omega | (dsimp only; omega)⟩
        try dsimp only
        rw [hi1, hpk]
        simpa using o3
      | true =>
        have hlen := o3.len
        rw [List.length_map] at hlen
        refine If.yes (read_int (o2.elems.ext x3) i0 (by omega) fun x' hx' => ?_)
        obtain rfl : x = x' := by rw [hx] at hx'; injection hx'
        refine append1 (C := ctx) (T := 3) (sz := 1) (x := .int .i64 x) size3 zsize3 (by rw [bytes3]; decide) (by rw [bytes3]; omega) o3 rfl rfl fun s4 h4 o4 f4 b4 => ?_
        have hlen4 := o4.len
        rw [List.length_append, List.length_map, List.length_singleton] at hlen4
        refine ⟨⟨by first | omega | (dsimp only; omega), by first | omega | (dsimp only; omega), ?_, fun p hp => ?_, ?_, by first | omega | (dsimp only; omega)⟩, by first | omega | (dsimp only; omega)⟩
        · try dsimp only
          rw [hi1, hpk]
          simp only [ints, if_true, List.map_append, List.map_cons, List.map_nil] at o4 ⊢
          exact o4
        · rcases b4 p hp with ⟨l', h9, h10⟩ | h9
          · rw [← h10]; exact b3 l' h9
          · omega
        · refine Only.cut x3 f4 fun j ⟨p, hp, ej⟩ => ?_
          rw [← ej]; exact b3 p hp
    · have hi2 : i.toNat = l.length := by omega
      have hi3 : row.length = l.length := by omega
      rw [hi2, List.take_length, ← hi3, List.take_length] at o3
      exact hy h3 t o3 (x02.trans x3) (fun hx => by subst hx; simp at el; omega) hi3

end
end Go.Proofs.Ytgdhddignbkloaa.Board
