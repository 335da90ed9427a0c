/- Configurations, and rows of yes and no, that come in; BoardPicks. -/
import Derived.Test.YtjncpcdpfgjibaaBoardG
import Derived.Deep.Strs
namespace Go.Proofs.Ytjncpcdpfgjibaa.Board
open Go Go.Vc

section
variable {H : Type} {enc : TypeId × Value → H} {w : World} {base fuel : Nat} {spare : Nat → Bool} {held : Bool}

theorem cell_spot {P : Program} {r : Reach} {base : Nat} {t e : TypeId} (ht : P.underlying t = some (.slice e)) {a : Addr} {len cap : Nat} (h : Cell.okWide P w r base t (.slice (some a) len cap)) : a.spot = none := by
  unfold Cell.okWide at h
  rw [ht] at h
  simp only at h
  unfold Cell.ok at h
  rw [ht] at h
  exact h.2.2.2.1

set_option maxRecDepth 100000 in
theorem vd_in {cs : List Value} {x : DataW H × List MemPlace} (h : DataW.trod enc Try.prog w base spare held fuel 41 cs = some x) : ∃ v : Vd, cs = v.tv.cells := by
  have hd : ∃ f0 f1 : Field, Try.prog.underlying 41 = some (.struct #[f0, f1]) ∧ f0.type = 3 ∧ f0.offset = 0 ∧ f1.type = 9 ∧ f1.offset = 1 := ⟨_, _, Try.underlying41, rfl, rfl, rfl, rfl⟩
  obtain ⟨f0, f1, hu, e0, e1, e2, e3⟩ := hd
  obtain ⟨xs, n, _, rfl, hlen, hl, hf⟩ := DataW.trod_struct hu h
  have c3 : Try.prog.cellsOf 3 = 1 := by kernel_rfl
  have c9 : Try.prog.cellsOf 9 = 1 := by kernel_rfl
  have c41 : Try.prog.cellsOf 41 = 2 := by kernel_rfl
  match xs, hl with
  | [y0, y1], _ =>
    have t0 := hf 0 f0 rfl
    have t1 := hf 1 f1 rfl
    rw [e0, e1, c3] at t0
    rw [e2, e3, c9] at t1
    obtain ⟨n0, h0, _, _⟩ := DataW.trod_int Try.underlying3 t0
    obtain ⟨s, h1, _, _⟩ := DataW.trod_string Try.underlying9 t1
    rw [c41] at hlen
    match cs, hlen with
    | [v0, v1], _ =>
      simp only [List.drop_zero, List.take_succ_cons, List.take_zero, List.drop_succ_cons, List.cons.injEq, and_true] at h0 h1
      subst h0; subst h1
      exact ⟨⟨n0, s.data.toList⟩, by simp [Vd.tv, TV.cells, TVs.cells]⟩

/-- A slice whose elements are known one by one. -/
theorem slice_in {α : Type} [Inhabited α] {tv : α → TV} {sz t e : Nat} (ht : Try.prog.underlying t = some (.slice e)) (he : Try.prog.cellsOf e = sz) (hsz : ∀ x, (tv x).size = sz)
    (hin : ∀ {fuel : Nat} {cs : List Value} {x : DataW H × List MemPlace}, DataW.trod enc Try.prog w base spare held fuel e cs = some x → ∃ v : α, cs = (tv v).cells)
    {a : Option Addr} {len cap : Nat} {x : DataW H × List MemPlace} (hs : ∀ x, a = some x → x.spot = none) (h : DataW.trod enc Try.prog w base spare held fuel t [.slice a len cap] = some x) :
    ∃ (sl : Sl) (cs : List α), Value.slice a len cap = (TV.slice sl).val ∧ Elems sz w.heap sl (cs.map tv) := by
  rcases Deep.open_slice ht h with ⟨hc, _⟩ | ⟨a', l', c', m, n, D, Pl, hc, _, hl, _, hm, _, hel⟩
  · simp only [List.cons.injEq, Value.slice.injEq, and_true] at hc
    obtain ⟨rfl, rfl, rfl⟩ := hc
    exact ⟨Sl.nil, [], rfl, Elems.nil_ sz _⟩
  · simp only [List.cons.injEq, Value.slice.injEq, and_true] at hc
    obtain ⟨rfl, rfl, rfl⟩ := hc
    have hsp := hs a' rfl
    have hlm : len ≤ m := by rw [hm]; split <;> omega
    have each : ∀ i, i < len → ∃ c : α, (tv c).at w.heap a'.block (a'.off + i * sz) := by
      intro i hi
      obtain ⟨cs', h1, h2⟩ := hel i (by omega)
      rw [he] at h1
      obtain ⟨_, hlen, hcell⟩ := World.cells?_some h1
      obtain ⟨c, rfl⟩ := hin h2
      refine ⟨c, ?_⟩
      rw [TV.at_iff]
      intro j hj
      have hj5 : j < sz := by rw [hsz] at hj; exact hj
      have := hcell j hj5
      rw [Deep.add_add] at this
      have hc2 := cel_of_cell hsp (i := i * sz + j) (v := (tv c).cells[j]'(by rw [TV.cells_length]; exact hj)) (by
        rw [this]
        simp [TV.cells_length, hj])
      rw [List.getElem?_eq_getElem (by rw [TV.cells_length]; exact hj), ← hc2, Nat.add_assoc]
    obtain ⟨f, hf⟩ := Deep.choose_lt each
    refine ⟨⟨some ⟨a'.block, a'.off⟩, len, cap⟩, (List.range len).map f, ?_, ⟨?_, ?_, ?_⟩⟩
    · cases a'
      simp only at hsp
      subst hsp
      rfl
    · simp
    · intro hn; cases hn
    · rintro l ⟨rfl⟩ i t ht
      rw [List.getElem?_map, Option.map_eq_some_iff] at ht
      obtain ⟨c, hc, rfl⟩ := ht
      rw [List.getElem?_map, Option.map_eq_some_iff] at hc
      obtain ⟨k, hk, rfl⟩ := hc
      have hk' := List.getElem?_eq_some_iff.1 hk
      obtain ⟨hi, he⟩ := hk'
      simp only [List.length_range] at hi
      simp only [List.getElem_range] at he
      subst he
      exact hf i hi

theorem row_in {a : Option Addr} {len cap : Nat} {x : DataW H × List MemPlace} (hs : ∀ x, a = some x → x.spot = none) (h : DataW.trod enc Try.prog w base spare held fuel 34 [.slice a len cap] = some x) :
    ∃ sl cs, Value.slice a len cap = (TV.slice sl).val ∧ Elems 1 w.heap sl (bools cs) :=
  slice_in (tv := TV.bool) Try.underlying34 (by kernel_rfl) (fun _ => rfl) (fun {fuel cs x} h => by
    obtain ⟨b, h0, _⟩ := DataW.trod_bool Try.underlying4 h
    exact ⟨b, by rw [h0]; rfl⟩) hs h

set_option maxRecDepth 100000 in
theorem cf_in {r : Reach} {base2 : Nat} {v : Value} {d : DataW H} {p : List MemPlace} (hv : Value.okWide Try.prog w r base2 24 v) (h : DataW.Trod enc Try.prog w base spare held 24 v d p) :
    ∃ c : Cf, (∃ L, Elems 2 w.heap c.vals (vds L)) ∧ v = c.tv.val := by
  have hd : ∃ f0 f1 f2 f3 f4 f5 f6 f7 f8 f9 f10 f11 : Field, Try.prog.underlying 24 = some (.struct #[f0, f1, f2, f3, f4, f5, f6, f7, f8, f9, f10, f11]) ∧ (f0.type = 22 ∧ f0.offset = 0) ∧ (f1.type = 3 ∧ f1.offset = 1) ∧ (f2.type = 3 ∧ f2.offset = 2) ∧
      (f3.type = 3 ∧ f3.offset = 3) ∧ (f4.type = 3 ∧ f4.offset = 4) ∧ (f5.type = 3 ∧ f5.offset = 5) ∧ (f6.type = 3 ∧ f6.offset = 6) ∧ (f7.type = 3 ∧ f7.offset = 7) ∧ (f8.type = 3 ∧ f8.offset = 8) ∧ (f9.type = 3 ∧ f9.offset = 9) ∧
      (f10.type = 3 ∧ f10.offset = 10) ∧ (f11.type = 3 ∧ f11.offset = 11) := ⟨_, _, _, _, _, _, _, _, _, _, _, _, Try.underlying24, ⟨rfl, rfl⟩, ⟨rfl, rfl⟩, ⟨rfl, rfl⟩, ⟨rfl, rfl⟩, ⟨rfl, rfl⟩, ⟨rfl, rfl⟩, ⟨rfl, rfl⟩, ⟨rfl, rfl⟩, ⟨rfl, rfl⟩, ⟨rfl, rfl⟩, ⟨rfl, rfl⟩, ⟨rfl, rfl⟩⟩
  obtain ⟨f0, f1, f2, f3, f4, f5, f6, f7, f8, f9, f10, f11, hu, e0, e1, e2, e3, e4, e5, e6, e7, e8, e9, e10, e11⟩ := hd
  have hct : Try.prog.cellTypes Try.prog.depth 24 = some [22, 3, 3, 3, 3, 3, 3, 3, 3, 3, 3, 3] := by kernel_rfl
  have c24 : Try.prog.cellsOf 24 = 12 := by kernel_rfl
  have c3 : Try.prog.cellsOf 3 = 1 := by kernel_rfl
  have c22 : Try.prog.cellsOf 22 = 1 := by kernel_rfl
  unfold Value.okWide at hv
  rw [hu] at hv
  simp only at hv
  obtain ⟨cs, rfl, hs, ts, hts, _, hcell⟩ := hv
  rw [hct] at hts
  obtain rfl := Option.some.inj hts
  obtain ⟨fuel, hf0⟩ := h
  have hf1 : DataW.trod enc Try.prog w base spare held fuel 24 cs.toList = some (d, p) := hf0
  obtain ⟨xs, n, _, _, hlen, hl, hf⟩ := DataW.trod_struct hu hf1
  rw [c24] at hlen
  match xs, hl with
  | [y0, y1, y2, y3, y4, y5, y6, y7, y8, y9, y10, y11], _ =>
    have t0 := hf 0 f0 rfl
    have t1 := hf 1 f1 rfl
    have t2 := hf 2 f2 rfl
    have t3 := hf 3 f3 rfl
    have t4 := hf 4 f4 rfl
    have t5 := hf 5 f5 rfl
    have t6 := hf 6 f6 rfl
    have t7 := hf 7 f7 rfl
    have t8 := hf 8 f8 rfl
    have t9 := hf 9 f9 rfl
    have t10 := hf 10 f10 rfl
    have t11 := hf 11 f11 rfl
    rw [e0.1, e0.2, c22] at t0
    rw [e1.1, e1.2, c3] at t1
    rw [e2.1, e2.2, c3] at t2
    rw [e3.1, e3.2, c3] at t3
    rw [e4.1, e4.2, c3] at t4
    rw [e5.1, e5.2, c3] at t5
    rw [e6.1, e6.2, c3] at t6
    rw [e7.1, e7.2, c3] at t7
    rw [e8.1, e8.2, c3] at t8
    rw [e9.1, e9.2, c3] at t9
    rw [e10.1, e10.2, c3] at t10
    rw [e11.1, e11.2, c3] at t11
    clear hf hf0 hf1
    obtain ⟨n1, h1, _, _⟩ := DataW.trod_int Try.underlying3 t1
    obtain ⟨n2, h2, _, _⟩ := DataW.trod_int Try.underlying3 t2
    obtain ⟨n3, h3, _, _⟩ := DataW.trod_int Try.underlying3 t3
    obtain ⟨n4, h4, _, _⟩ := DataW.trod_int Try.underlying3 t4
    obtain ⟨n5, h5, _, _⟩ := DataW.trod_int Try.underlying3 t5
    obtain ⟨n6, h6, _, _⟩ := DataW.trod_int Try.underlying3 t6
    obtain ⟨n7, h7, _, _⟩ := DataW.trod_int Try.underlying3 t7
    obtain ⟨n8, h8, _, _⟩ := DataW.trod_int Try.underlying3 t8
    obtain ⟨n9, h9, _, _⟩ := DataW.trod_int Try.underlying3 t9
    obtain ⟨n10, h10, _, _⟩ := DataW.trod_int Try.underlying3 t10
    obtain ⟨n11, h11, _, _⟩ := DataW.trod_int Try.underlying3 t11
    clear t1 t2 t3 t4 t5 t6 t7 t8 t9 t10 t11
    obtain ⟨cl⟩ := cs
    simp only at hlen hcell h1 h2 h3 h4 h5 h6 h7 h8 h9 h10 h11 t0
    match cl, hlen with
    | [v0, v1, v2, v3, v4, v5, v6, v7, v8, v9, v10, v11], _ =>
      simp only [List.drop_zero, List.take_succ_cons, List.take_zero, List.drop_succ_cons, List.cons.injEq, and_true] at h1 h2 h3 h4 h5 h6 h7 h8 h9 h10 h11 t0
      subst h1; subst h2; subst h3; subst h4; subst h5; subst h6; subst h7; subst h8; subst h9; subst h10; subst h11
      have hsl : ∃ a len cap, v0 = Value.slice a len cap := by
        rcases Deep.open_slice Try.underlying22 t0 with ⟨hc, _⟩ | ⟨a', l', c', m, n, D, Pl, hc, _⟩
        · exact ⟨_, _, _, by simpa using hc⟩
        · exact ⟨_, _, _, by simpa using hc⟩
      obtain ⟨a, len, cap, rfl⟩ := hsl
      obtain ⟨u, hu0, hok⟩ := hcell 0 _ rfl
      have hu22 : u = 22 := by
        have : some 22 = some u := hu0
        injection this with this
        exact this.symm
      subst hu22
      have hsp : ∀ x, a = some x → x.spot = none := fun x hx => by
        subst hx
        exact cell_spot Try.underlying22 hok
      obtain ⟨sl, L, e, hel⟩ := slice_in (tv := Vd.tv) (sz := 2) Try.underlying22 (by kernel_rfl) Vd.size (fun {fuel cs x} h => vd_in h) hsp t0
      have e' : Value.slice a len cap = slVal sl := e
      rw [e']
      exact ⟨⟨sl, n1, n2, n3, n4, n5, n6, n7, n8, n9, n10, n11⟩, ⟨L, hel⟩, rfl⟩

end

section
variable {R : Value → Heap → Prop} {h : Heap} {c : Cf}

abbrev row_ (n : Nat) : Obj := row (zeros (TV.bool false) n) 4

theorem set_mid : ∀ (A : List Bool) (x y : Bool) (B : List Bool), (A ++ y :: B).set A.length x = (A ++ [x]) ++ B
  | [], _, _, _ => rfl
  | a :: A, x, y, B => by
    rw [List.cons_append, List.length_cons, List.set_cons_succ, set_mid A x y B]
    rfl

theorem own_nil_len {l : List Int} {s : Sl} (o : Own 3 1 h s (ints l)) : s.len = l.length := by have := o.len; rw [List.length_map] at this; exact this.symm

/-- What comes of picking: the row's length tells; how many. -/
theorem pick2 {slot : Int} {bits : Sl} {row : List Bool} (f : Fine c) (h0 : 0 ≤ slot) (h1 : slot ≤ 1073741824) (e : Elems 1 h bits (bools row))
    (hr : ∀ h' s' b, Ext h h' → b = decide ((row.length : Int) = c.com) → s'.len = (if b = true then (pk (mem c.vals.len c.com slot) row).length else 0) → R (TV.tup [.slice s', .bool b]).val h') :
    CallsH Try.prog 15 (TVs.vals [c.tv, .int .i64 slot, .slice bits]) h R := by
  have h2 := f.com1
  have h3 := f.com2
  have h4 := f.com3
  have h5 := f.len
  have ml := mem_len (n := c.vals.len) (com := c.com) (slot := slot) h0 h1 (by omega) h3
  refine pick_spec (c := c) (by omega) e (fun h' x hb => hr h' _ _ x ?_ rfl) fun h' s' o x hne hl => hr h' _ _ x ?_ ?_
  · rcases hb with hb | hb
    · rw [hb] at ml; simp at ml; omega
    · exact (decide_eq_false (by omega)).symm
  · exact (decide_eq_true (by omega)).symm
  · rw [if_pos rfl]; exact own_nil_len o

theorem boardPicks_spec {L : List Vd} {slot : Int} {rs : Sl} {row : List Bool} (e : Elems 2 h c.vals (vds L)) (er : Elems 1 h rs (bools row)) (hr : ∀ h', Ext h h' → R (TV.bool true).val h') :
    CallsH Try.prog 6 (TVs.vals [c.tv, .int .i64 slot, .slice rs]) h R := by
  apply tollerlaw06_BoardPicks_calls c.vals c.ep c.com c.no c.orp c.ear c.quo c.pe c.by_ c.win c.ban c.dec slot rs
  unfold tollerlaw06_BoardPicks_vc
  refine newTV_in fun h1 v1 x1 s1 => alive_spec fun h2 x2 => ⟨_, rfl, If.no ?_⟩
  have x02 := x1.trans x2
  have v2 := v1.ext x2
  intro J hJ
  refine cf_at v2 (great_spec (c := c) (e.ext x02) (fun h3 x3 => ⟨_, rfl, If.yes (hr h3 (x02.trans x3))⟩) fun h3 x3 lc => ⟨_, rfl, If.no ?_⟩)
  have x03 := x02.trans x3
  refine cf_at (v2.ext x3) (good_spec (c := c) (e.ext x03) lc (fun h4 x4 => ⟨_, rfl, If.yes (hr h4 (x03.trans x4))⟩) fun h4 x4 fc => ⟨_, rfl, If.no ?_⟩)
  have x04 := x03.trans x4
  have v4 := (v2.ext x3).ext x4
  have rl : row.length = rs.len := by have := er.len; rwa [List.length_map] at this
  refine If.dec.2 ⟨fun _ => hr h4 x04, fun l0 => If.dec.2 ⟨fun _ => hr h4 x04, fun l1 => If.dec.2 ⟨fun _ => hr h4 x04, fun l2 => hJ _ _ ?_⟩⟩⟩
  clear hJ
  have s0 : 0 ≤ slot := by omega
  have s1' : slot ≤ 1073741824 := by omega
  refine ⟨by omega, Int.le_refl _, by omega, by omega, ?_⟩
  have hsn : Int.toNat (rs.len : Int) = rs.len := Int.toNat_natCast _
  rw [hsn]
  have o5 := Own.new (T := 4) (sz := 1) h4 (List.replicate rs.len (TV.bool false)) (fun t ht => by rw [List.eq_of_mem_replicate ht]; rfl)
  rw [List.length_replicate, ← zeros_rep] at o5
  have xp := Ext.push h4 (row_ rs.len)
  have szp : (Array.push h4 (row_ rs.len)).size = h4.size + 1 := by simp
  change Own 4 1 (Array.push h4 (row_ rs.len)) _ _ at o5
  show Vc.Loop (0 : Int) (Array.push h4 (row_ rs.len)) _
  generalize Array.push h4 (row_ rs.len) = hp at *
  refine ⟨fun i hh => 0 ≤ i ∧ i ≤ rs.len ∧ Own 4 1 hh ⟨some ⟨h4.size, 0⟩, rs.len, rs.len⟩ (bools ((row.take i.toNat).map not ++ List.replicate (rs.len - i.toNat) false)) ∧ Only (· = h4.size) hp hh, fun i _ => ((rs.len : Int) - i).toNat,
    ⟨Int.le_refl 0, by omega, by simpa [bools] using o5, Only.refl _ _⟩, ?_⟩
  rintro j h6 ⟨j0, j1, o6, f6⟩
  have x46 : Ext h4 h6 := Only.cut xp f6 fun i hi => by omega
  have x06 := x04.trans x46
  refine If.dec.2 ⟨fun hj => ?_, fun hj => ?_⟩
  · refine read_bool (er.ext x06) j0 (by omega) fun b hb => ?_
    have hput := o6.put_in (t := .bool (!b)) (i := j) (n := 1) (K := fun hh => (0 ≤ IntKind.wrap IntKind.i64 (j + 1) ∧ IntKind.wrap IntKind.i64 (j + 1) ≤ rs.len ∧ Own 4 1 hh ⟨some ⟨h4.size, 0⟩, rs.len, rs.len⟩ (bools ((row.take (IntKind.wrap IntKind.i64 (j + 1)).toNat).map not ++ List.replicate (rs.len - (IntKind.wrap IntKind.i64 (j + 1)).toNat) false)) ∧ Only (· = h4.size) hp hh) ∧
      ((rs.len : Int) - IntKind.wrap IntKind.i64 (j + 1)).toNat < ((rs.len : Int) - j).toNat) j0 (by simp [bools]; omega) rfl rfl fun h7 o7 f7 s7 => ?_
    · exact hput
    · rw [wrap_i64 (n := j + 1) (by omega) (by omega)]
      refine ⟨⟨by omega, by omega, ?_, f6.trans (f7.mono fun i ⟨l, hl, ei⟩ => by cases hl; exact ei.symm)⟩, by first | omega | (dsimp only; omega)⟩
      have : (bools ((row.take j.toNat).map not ++ List.replicate (rs.len - j.toNat) false)).set j.toNat (TV.bool (!b)) = bools ((row.take (j + 1).toNat).map not ++ List.replicate (rs.len - (j + 1).toNat) false) := by
        have hj1 : (j + 1).toNat = j.toNat + 1 := by omega
        rw [hj1, take_snoc hb]
        unfold bools
        rw [show TV.bool (!b) = (fun b => TV.bool b) (!b) from rfl, ← List.map_set]
        congr 1
        obtain ⟨m, hm⟩ : ∃ m, rs.len - j.toNat = m + 1 := ⟨rs.len - j.toNat - 1, by omega⟩
        have hm2 : rs.len - (j.toNat + 1) = m := by omega
        rw [hm, hm2]
        have hlen : ((row.take j.toNat).map not).length = j.toNat := by rw [List.length_map, List.length_take]; omega
        rw [List.map_append]
        generalize (row.take j.toNat).map not = A at *
        rw [List.replicate_succ, ← hlen]
        exact set_mid A _ _ _
      rw [← this]
      exact o7
  · have hj2 : j.toNat = rs.len := by omega
    have htake : row.take rs.len = row := by rw [← rl, List.take_length]
    rw [hj2, Nat.sub_self, List.replicate_zero, List.append_nil, htake] at o6
    have v6 := v4.ext x46
    refine cf_at v6 (pick2 fc s0 s1' (er.ext x06) fun h7 sa ba x7 hba hla => ⟨_, _, rfl, ?_⟩)
    refine cf_at (v6.ext x7) (pick2 fc s0 s1' (o6.elems.ext x7) fun h8 sb bb x8 hbb hlb => ⟨_, _, rfl, ?_⟩)
    have x68 := x7.trans x8
    refine cf_at (v6.ext x68) ⟨by omega, Int.le_refl _, by omega, by omega, ?_⟩
    have o8 := Own.new (T := 4) (sz := 1) h8 (List.replicate rs.len (TV.bool false)) (fun t ht => by rw [List.eq_of_mem_replicate ht]; rfl)
    rw [List.length_replicate, ← zeros_rep] at o8
    change Own 4 1 (Array.push h8 (row_ rs.len)) _ _ at o8
    have xq := Ext.push h8 (row_ rs.len)
    rw [show List.replicate rs.len (TV.bool false) = bools (List.replicate rs.len false) by simp [bools]] at o8
    refine ⟨xq, pick2 (row := List.replicate rs.len false) fc s0 s1' o8.elems fun h9 sn bn x9 hbn hln => ⟨_, _, rfl, ?_⟩⟩
    have x09 := ((x06.trans x68).trans xq).trans x9
    have v9 := ((v6.ext x68).ext xq).ext x9
    rw [List.length_map] at hbb
    rw [List.length_replicate, ← rl] at hbn
    have hb1 : bb = ba := by rw [hba, hbb]
    have hb2 : bn = ba := by rw [hba, hbn]
    subst hb1
    subst hb2
    rw [pk_none] at hln
    have hln0 : sn.len = 0 := by rw [hln]; split <;> rfl
    intro J2 hJ2
    rw [rl] at hba
    refine ⟨c.com, v9.at1 rfl, If.split (fun hx => ?_) fun _ => If.split (fun hx => ?_) fun _ => If.split (fun hx => ?_) fun _ => If.split (fun hx => ?_) fun _ => hJ2 _ _ ?_⟩
    · rw [← hba] at hx; cases bn <;> simp at hx
    · cases bn <;> simp at hx
    · cases bn <;> simp at hx
    · simp [hln0] at hx
    · have hT := hr h9 x09
      cases hbv : bn with
      | false =>
        subst hbv
        have z1 : sa.len = 0 := hla
        have z2 : sb.len = 0 := hlb
        rw [z1, z2]
        exact If.yes (If.yes (If.yes hT))
      | true =>
        subst hbv
        have hcom : (rs.len : Int) = c.com := of_decide_eq_true hba.symm
        have ml := mem_len (n := c.vals.len) (com := c.com) (slot := slot) s0 s1' (by have := fc.com1; omega) fc.com2
        have hsum := pk_both (mem c.vals.len c.com slot) row (by omega)
        have z1 : sa.len = (pk (mem c.vals.len c.com slot) row).length := hla
        have z2 : sb.len = (pk (mem c.vals.len c.com slot) (row.map not)).length := hlb
        refine If.no (If.yes ⟨c.com, v9.at1 rfl, ?_⟩)
        have hw : IntKind.wrap IntKind.i64 ((sa.len : Int) + (sb.len : Int)) = c.com := by
          rw [wrap_i64 (by omega) (by omega)]
          omega
        rw [hw, decide_eq_true rfl]
        exact hT

theorem boardPicks_whole {slot : Int} {rs : Sl} {row : List Bool} (e : ∃ L, Elems 2 h c.vals (vds L)) (er : Elems 1 h rs (bools row)) (hr : ∀ h', Ext h h' → R (TV.bool true).val h') :
    CallsH Try.prog 6 (TVs.vals [c.tv, .int .i64 slot, .slice rs]) h R := by
  obtain ⟨L, e⟩ := e
  exact boardPicks_spec e er hr
theorem boardMore_whole {slot less : Int} (e : ∃ L, Elems 2 h c.vals (vds L)) (hr : ∀ h', Ext h h' → R (TV.bool true).val h') : CallsH Try.prog 3 (TVs.vals [c.tv, .int .i64 slot, .int .i64 less]) h R := by
  obtain ⟨L, e⟩ := e
  exact boardMore_spec e hr
theorem boardOnce_whole {slot : Int} (e : ∃ L, Elems 2 h c.vals (vds L)) (hr : ∀ h', Ext h h' → R (TV.bool true).val h') : CallsH Try.prog 5 (TVs.vals [c.tv, .int .i64 slot]) h R := by
  obtain ⟨L, e⟩ := e
  exact boardOnce_spec e hr
theorem boardStakes_whole {a b : Cf} {slot : Int} (ea : ∃ L, Elems 2 h a.vals (vds L)) (eb : ∃ L, Elems 2 h b.vals (vds L)) (hr : ∀ h', Ext h h' → R (TV.bool true).val h') : CallsH Try.prog 4 (TVs.vals [a.tv, b.tv, .int .i64 slot]) h R := by
  obtain ⟨La, ea⟩ := ea
  obtain ⟨Lb, eb⟩ := eb
  exact boardStakes_spec ea eb hr

end
end Go.Proofs.Ytjncpcdpfgjibaa.Board
