/- Configurations, and rows of yes and no, that come in. -/
import Derived.Test.YtgdhddignbkloaaBoardG
import Derived.Deep.Strs
namespace Go.Proofs.Ytgdhddignbkloaa.Board
open Go Go.Vc

section
variable {H : Type} {enc : TypeId × Value → H} {w : World} {base fuel : Nat} {spare : Nat → Bool} {held : Bool}

theorem cell_spot {P : Program} {r : Reach} {base : Nat} {t e : TypeId} (ht : P.underlying t = some (.slice e)) {a : Addr} {len cap : Nat} (h : Cell.okWide P w r base t (.slice (some a) len cap)) : a.spot = none := by
  unfold Cell.okWide at h
  rw [ht] at h
  simp only at h
  unfold Cell.ok at h
  rw [ht] at h
  exact h.2.2.2.1

set_option maxRecDepth 100000 in
theorem vd_in {cs : List Value} {x : DataW H × List MemPlace} (h : DataW.trod enc Try.prog w base spare held fuel 59 cs = some x) : ∃ v : Vd, cs = v.tv.cells := by
  have hd : ∃ f0 f1 : Field, Try.prog.underlying 59 = some (.struct #[f0, f1]) ∧ f0.type = 3 ∧ f0.offset = 0 ∧ f1.type = 9 ∧ f1.offset = 1 := ⟨_, _, Try.underlying59, rfl, rfl, rfl, rfl⟩
  obtain ⟨f0, f1, hu, e0, e1, e2, e3⟩ := hd
  obtain ⟨xs, n, _, rfl, hlen, hl, hf⟩ := DataW.trod_struct hu h
  have c3 : Try.prog.cellsOf 3 = 1 := by kernel_rfl
  have c9 : Try.prog.cellsOf 9 = 1 := by kernel_rfl
  have c41 : Try.prog.cellsOf 59 = 2 := by kernel_rfl
  match xs, hl with
  | [y0, y1], _ =>
    have t0 := hf 0 f0 rfl
    have t1 := hf 1 f1 rfl
    rw [e0, e1, c3] at t0
    rw [e2, e3, c9] at t1
    obtain ⟨n0, h0, _, _⟩ := DataW.trod_int Try.underlying3 t0
    obtain ⟨s, h1, _, _⟩ := DataW.trod_string Try.underlying9 t1
    rw [c41] at hlen
    match cs, hlen with
    | [v0, v1], _ =>
      simp only [List.drop_zero, List.take_succ_cons, List.take_zero, List.drop_succ_cons, List.cons.injEq, and_true] at h0 h1
      subst h0; subst h1
      exact ⟨⟨n0, s.data.toList⟩, by simp [Vd.tv, TV.cells, TVs.cells]⟩

/-- A slice whose elements are known one by one. -/
theorem slice_in {α : Type} [Inhabited α] {tv : α → TV} {sz t e : Nat} (ht : Try.prog.underlying t = some (.slice e)) (he : Try.prog.cellsOf e = sz) (hsz : ∀ x, (tv x).size = sz)
    (hin : ∀ {fuel : Nat} {cs : List Value} {x : DataW H × List MemPlace}, DataW.trod enc Try.prog w base spare held fuel e cs = some x → ∃ v : α, cs = (tv v).cells)
    {a : Option Addr} {len cap : Nat} {x : DataW H × List MemPlace} (hs : ∀ x, a = some x → x.spot = none) (h : DataW.trod enc Try.prog w base spare held fuel t [.slice a len cap] = some x) :
    ∃ (sl : Sl) (cs : List α), Value.slice a len cap = (TV.slice sl).val ∧ Elems sz w.heap sl (cs.map tv) := by
  rcases Deep.open_slice ht h with ⟨hc, _⟩ | ⟨a', l', c', m, n, D, Pl, hc, _, hl, _, hm, _, hel⟩
  · simp only [List.cons.injEq, Value.slice.injEq, and_true] at hc
    obtain ⟨rfl, rfl, rfl⟩ := hc
    exact ⟨Sl.nil, [], rfl, Elems.nil_ sz _⟩
  · simp only [List.cons.injEq, Value.slice.injEq, and_true] at hc
    obtain ⟨rfl, rfl, rfl⟩ := hc
    have hsp := hs a' rfl
    have hlm : len ≤ m := by rw [hm]; split <;> omega
    have each : ∀ i, i < len → ∃ c : α, (tv c).at w.heap a'.block (a'.off + i * sz) := by
      intro i hi
      obtain ⟨cs', h1, h2⟩ := hel i (by omega)
      rw [he] at h1
      obtain ⟨_, hlen, hcell⟩ := World.cells?_some h1
      obtain ⟨c, rfl⟩ := hin h2
      refine ⟨c, ?_⟩
      rw [TV.at_iff]
      intro j hj
      have hj5 : j < sz := by rw [hsz] at hj; exact hj
      have := hcell j hj5
      rw [Deep.add_add] at this
      have hc2 := cel_of_cell hsp (i := i * sz + j) (v := (tv c).cells[j]'(by rw [TV.cells_length]; exact hj)) (by
        rw [this]
        simp [TV.cells_length, hj])
      rw [List.getElem?_eq_getElem (by rw [TV.cells_length]; exact hj), ← hc2, Nat.add_assoc]
    obtain ⟨f, hf⟩ := Deep.choose_lt each
    refine ⟨⟨some ⟨a'.block, a'.off⟩, len, cap⟩, (List.range len).map f, ?_, ⟨?_, ?_, ?_⟩⟩
    · cases a'
      simp only at hsp
      subst hsp
      rfl
    · simp
    · intro hn; cases hn
    · rintro l ⟨rfl⟩ i t ht
      rw [List.getElem?_map, Option.map_eq_some_iff] at ht
      obtain ⟨c, hc, rfl⟩ := ht
      rw [List.getElem?_map, Option.map_eq_some_iff] at hc
      obtain ⟨k, hk, rfl⟩ := hc
      have hk' := List.getElem?_eq_some_iff.1 hk
      obtain ⟨hi, he⟩ := hk'
      simp only [List.length_range] at hi
      simp only [List.getElem_range] at he
      subst he
      exact hf i hi

theorem row_in {a : Option Addr} {len cap : Nat} {x : DataW H × List MemPlace} (hs : ∀ x, a = some x → x.spot = none) (h : DataW.trod enc Try.prog w base spare held fuel 28 [.slice a len cap] = some x) :
    ∃ sl cs, Value.slice a len cap = (TV.slice sl).val ∧ Elems 1 w.heap sl (bools cs) :=
  slice_in (tv := TV.bool) Try.underlying28 (by kernel_rfl) (fun _ => rfl) (fun {fuel cs x} h => by
    obtain ⟨b, h0, _⟩ := DataW.trod_bool Try.underlying4 h
    exact ⟨b, by rw [h0]; rfl⟩) hs h

set_option maxRecDepth 100000 in
theorem cf_in {r : Reach} {base2 : Nat} {v : Value} {d : DataW H} {p : List MemPlace} (hv : Value.okWide Try.prog w r base2 24 v) (h : DataW.Trod enc Try.prog w base spare held 24 v d p) :
    ∃ c : Cf, (∃ L, Elems 2 w.heap c.vals (vds L)) ∧ v = c.tv.val := by
  have hd : ∃ f0 f1 f2 f3 f4 f5 f6 f7 f8 f9 f10 f11 : Field, Try.prog.underlying 24 = some (.struct #[f0, f1, f2, f3, f4, f5, f6, f7, f8, f9, f10, f11]) ∧ (f0.type = 22 ∧ f0.offset = 0) ∧ (f1.type = 3 ∧ f1.offset = 1) ∧ (f2.type = 3 ∧ f2.offset = 2) ∧
      (f3.type = 3 ∧ f3.offset = 3) ∧ (f4.type = 3 ∧ f4.offset = 4) ∧ (f5.type = 3 ∧ f5.offset = 5) ∧ (f6.type = 3 ∧ f6.offset = 6) ∧ (f7.type = 3 ∧ f7.offset = 7) ∧ (f8.type = 3 ∧ f8.offset = 8) ∧ (f9.type = 3 ∧ f9.offset = 9) ∧
      (f10.type = 3 ∧ f10.offset = 10) ∧ (f11.type = 3 ∧ f11.offset = 11) := ⟨_, _, _, _, _, _, _, _, _, _, _, _, Try.underlying24, ⟨rfl, rfl⟩, ⟨rfl, rfl⟩, ⟨rfl, rfl⟩, ⟨rfl, rfl⟩, ⟨rfl, rfl⟩, ⟨rfl, rfl⟩, ⟨rfl, rfl⟩, ⟨rfl, rfl⟩, ⟨rfl, rfl⟩, ⟨rfl, rfl⟩, ⟨rfl, rfl⟩, ⟨rfl, rfl⟩⟩
  obtain ⟨f0, f1, f2, f3, f4, f5, f6, f7, f8, f9, f10, f11, hu, e0, e1, e2, e3, e4, e5, e6, e7, e8, e9, e10, e11⟩ := hd
  have hct : Try.prog.cellTypes Try.prog.depth 24 = some [22, 3, 3, 3, 3, 3, 3, 3, 3, 3, 3, 3] := by kernel_rfl
  have c24 : Try.prog.cellsOf 24 = 12 := by kernel_rfl
  have c3 : Try.prog.cellsOf 3 = 1 := by kernel_rfl
  have c22 : Try.prog.cellsOf 22 = 1 := by kernel_rfl
  unfold Value.okWide at hv
  rw [hu] at hv
  simp only at hv
  obtain ⟨cs, rfl, hs, ts, hts, _, hcell⟩ := hv
  rw [hct] at hts
  obtain rfl := Option.some.inj hts
  obtain ⟨fuel, hf0⟩ := h
  have hf1 : DataW.trod enc Try.prog w base spare held fuel 24 cs.toList = some (d, p) := hf0
  obtain ⟨xs, n, _, _, hlen, hl, hf⟩ := DataW.trod_struct hu hf1
  rw [c24] at hlen
  match xs, hl with
  | [y0, y1, y2, y3, y4, y5, y6, y7, y8, y9, y10, y11], _ =>
    have t0 := hf 0 f0 rfl
    have t1 := hf 1 f1 rfl
    have t2 := hf 2 f2 rfl
    have t3 := hf 3 f3 rfl
    have t4 := hf 4 f4 rfl
    have t5 := hf 5 f5 rfl
    have t6 := hf 6 f6 rfl
    have t7 := hf 7 f7 rfl
    have t8 := hf 8 f8 rfl
    have t9 := hf 9 f9 rfl
    have t10 := hf 10 f10 rfl
    have t11 := hf 11 f11 rfl
    rw [e0.1, e0.2, c22] at t0
    rw [e1.1, e1.2, c3] at t1
    rw [e2.1, e2.2, c3] at t2
    rw [e3.1, e3.2, c3] at t3
    rw [e4.1, e4.2, c3] at t4
    rw [e5.1, e5.2, c3] at t5
    rw [e6.1, e6.2, c3] at t6
    rw [e7.1, e7.2, c3] at t7
    rw [e8.1, e8.2, c3] at t8
    rw [e9.1, e9.2, c3] at t9
    rw [e10.1, e10.2, c3] at t10
    rw [e11.1, e11.2, c3] at t11
    clear hf hf0 hf1
    obtain ⟨n1, h1, _, _⟩ := DataW.trod_int Try.underlying3 t1
    obtain ⟨n2, h2, _, _⟩ := DataW.trod_int Try.underlying3 t2
    obtain ⟨n3, h3, _, _⟩ := DataW.trod_int Try.underlying3 t3
    obtain ⟨n4, h4, _, _⟩ := DataW.trod_int Try.underlying3 t4
    obtain ⟨n5, h5, _, _⟩ := DataW.trod_int Try.underlying3 t5
    obtain ⟨n6, h6, _, _⟩ := DataW.trod_int Try.underlying3 t6
    obtain ⟨n7, h7, _, _⟩ := DataW.trod_int Try.underlying3 t7
    obtain ⟨n8, h8, _, _⟩ := DataW.trod_int Try.underlying3 t8
    obtain ⟨n9, h9, _, _⟩ := DataW.trod_int Try.underlying3 t9
    obtain ⟨n10, h10, _, _⟩ := DataW.trod_int Try.underlying3 t10
    obtain ⟨n11, h11, _, _⟩ := DataW.trod_int Try.underlying3 t11
    clear t1 t2 t3 t4 t5 t6 t7 t8 t9 t10 t11
    obtain ⟨cl⟩ := cs
    simp only at hlen hcell h1 h2 h3 h4 h5 h6 h7 h8 h9 h10 h11 t0
    match cl, hlen with
    | [v0, v1, v2, v3, v4, v5, v6, v7, v8, v9, v10, v11], _ =>
      simp only [List.drop_zero, List.take_succ_cons, List.take_zero, List.drop_succ_cons, List.cons.injEq, and_true] at h1 h2 h3 h4 h5 h6 h7 h8 h9 h10 h11 t0
      subst h1; subst h2; subst h3; subst h4; subst h5; subst h6; subst h7; subst h8; subst h9; subst h10; subst h11
      have hsl : ∃ a len cap, v0 = Value.slice a len cap := by
        rcases Deep.open_slice Try.underlying22 t0 with ⟨hc, _⟩ | ⟨a', l', c', m, n, D, Pl, hc, _⟩
        · exact ⟨_, _, _, by simpa using hc⟩
        · exact ⟨_, _, _, by simpa using hc⟩
      obtain ⟨a, len, cap, rfl⟩ := hsl
      obtain ⟨u, hu0, hok⟩ := hcell 0 _ rfl
      have hu22 : u = 22 := by
        have : some 22 = some u := hu0
        injection this with this
        exact this.symm
      subst hu22
      have hsp : ∀ x, a = some x → x.spot = none := fun x hx => by
        subst hx
        exact cell_spot Try.underlying22 hok
      obtain ⟨sl, L, e, hel⟩ := slice_in (tv := Vd.tv) (sz := 2) Try.underlying22 (by kernel_rfl) Vd.size (fun {fuel cs x} h => vd_in h) hsp t0
      have e' : Value.slice a len cap = slVal sl := e
      rw [e']
      exact ⟨⟨sl, n1, n2, n3, n4, n5, n6, n7, n8, n9, n10, n11⟩, ⟨L, hel⟩, rfl⟩

end

abbrev row_ (n : Nat) : Obj := row (zeros (TV.bool false) n) 4

end Go.Proofs.Ytgdhddignbkloaa.Board
