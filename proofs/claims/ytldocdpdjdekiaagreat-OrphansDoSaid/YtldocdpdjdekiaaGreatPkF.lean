/- Texts that the proof needs, joined: FrameO. -/
import Derived.Deep.Strs
import Derived.Test.YtldocdpdjdekiaaGreatPkE

section
/- Scripts that come in. -/
namespace Go.Proofs.YtldocdpdjdekiaaGreat.Pool
open Go Go.Vc

section
variable {H : Type} {enc : TypeId × Value → H} {w : World} {base fuel : Nat} {spare : Nat → Bool} {held : Bool}

/-- A slice whose elements are known one by one. -/
theorem slice_in {α : Type} [Inhabited α] {tv : α → TV} {sz t e : Nat} (ht : Tryz.prog.underlying t = some (.slice e)) (he : Tryz.prog.cellsOf e = sz) (hsz : ∀ x, (tv x).size = sz)
    (hin : ∀ {fuel : Nat} {cs : List Value} {x : DataW H × List MemPlace}, DataW.trod enc Tryz.prog w base spare held fuel e cs = some x → ∃ v : α, cs = (tv v).cells)
    {a : Option Addr} {len cap : Nat} {x : DataW H × List MemPlace} (hs : ∀ x, a = some x → x.spot = none) (h : DataW.trod enc Tryz.prog w base spare held fuel t [.slice a len cap] = some x) :
    ∃ (sl : Sl) (cs : List α), Value.slice a len cap = (TV.slice sl).val ∧ Elems sz w.heap sl (cs.map tv) := by
  rcases Deep.open_slice ht h with ⟨hc, _⟩ | ⟨a', l', c', m, n, D, Pl, hc, _, hl, _, hm, _, hel⟩
  · simp only [List.cons.injEq, Value.slice.injEq, and_true] at hc
    obtain ⟨rfl, rfl, rfl⟩ := hc
    exact ⟨Sl.nil, [], rfl, Elems.nil_ sz _⟩
  · simp only [List.cons.injEq, Value.slice.injEq, and_true] at hc
    obtain ⟨rfl, rfl, rfl⟩ := hc
    have hsp := hs a' rfl
    have hlm : len ≤ m := by rw [hm]; split <;> omega
    have each : ∀ i, i < len → ∃ c : α, (tv c).at w.heap a'.block (a'.off + i * sz) := by
      intro i hi
      obtain ⟨cs', h1, h2⟩ := hel i (by omega)
      rw [he] at h1
      obtain ⟨_, hlen, hcell⟩ := World.cells?_some h1
      obtain ⟨c, rfl⟩ := hin h2
      refine ⟨c, ?_⟩
      rw [TV.at_iff]
      intro j hj
      have hj5 : j < sz := by rw [hsz] at hj; exact hj
      have := hcell j hj5
      rw [Deep.add_add] at this
      have hc2 := cel_of_cell hsp (i := i * sz + j) (v := (tv c).cells[j]'(by rw [TV.cells_length]; exact hj)) (by
        rw [this]
        simp [TV.cells_length, hj])
      rw [List.getElem?_eq_getElem (by rw [TV.cells_length]; exact hj), ← hc2, Nat.add_assoc]
    obtain ⟨f, hf⟩ := Deep.choose_lt each
    refine ⟨⟨some ⟨a'.block, a'.off⟩, len, cap⟩, (List.range len).map f, ?_, ⟨?_, ?_, ?_⟩⟩
    · cases a'
      simp only at hsp
      subst hsp
      rfl
    · simp
    · intro hn; cases hn
    · rintro l ⟨rfl⟩ i t ht
      rw [List.getElem?_map, Option.map_eq_some_iff] at ht
      obtain ⟨c, hc, rfl⟩ := ht
      rw [List.getElem?_map, Option.map_eq_some_iff] at hc
      obtain ⟨k, hk, rfl⟩ := hc
      have hk' := List.getElem?_eq_some_iff.1 hk
      obtain ⟨hi, he⟩ := hk'
      simp only [List.length_range] at hi
      simp only [List.getElem_range] at he
      subst he
      exact hf i hi

set_option maxRecDepth 100000 in
theorem oc_in {cs : List Value} {x : DataW H × List MemPlace} (h : DataW.trod enc Tryz.prog w base spare held fuel 66 cs = some x) : ∃ v : Oc, cs = v.tv.cells := by
  have hd : ∃ f0 f1 f2 f3 f4 f5 : Field, Tryz.prog.underlying 66 = some (.struct #[f0, f1, f2, f3, f4, f5]) ∧ f0.type = 3 ∧ f0.offset = 0 ∧ f1.type = 3 ∧ f1.offset = 1 ∧ f2.type = 9 ∧ f2.offset = 2 ∧ f3.type = 3 ∧ f3.offset = 3 ∧ f4.type = 3 ∧ f4.offset = 4 ∧ f5.type = 53 ∧ f5.offset = 5 := ⟨_, _, _, _, _, _, Tryz.underlying66, rfl, rfl, rfl, rfl, rfl, rfl, rfl, rfl, rfl, rfl, rfl, rfl⟩
  obtain ⟨f0, f1, f2, f3, f4, f5, hu, e0, g0, e1, g1, e2, g2, e3, g3, e4, g4, e5, g5⟩ := hd
  obtain ⟨xs, n, _, rfl, hlen, hl, hf⟩ := DataW.trod_struct hu h
  have c3 : Tryz.prog.cellsOf 3 = 1 := by kernel_rfl
  have c9 : Tryz.prog.cellsOf 9 = 1 := by kernel_rfl
  have c53 : Tryz.prog.cellsOf 53 = 1 := by kernel_rfl
  have cT : Tryz.prog.cellsOf 66 = 6 := by kernel_rfl
  match xs, hl with
  | [y0, y1, y2, y3, y4, y5], _ =>
    have t0 := hf 0 f0 rfl
    rw [e0, g0, c3] at t0
    have t1 := hf 1 f1 rfl
    rw [e1, g1, c3] at t1
    have t2 := hf 2 f2 rfl
    rw [e2, g2, c9] at t2
    have t3 := hf 3 f3 rfl
    rw [e3, g3, c3] at t3
    have t4 := hf 4 f4 rfl
    rw [e4, g4, c3] at t4
    have t5 := hf 5 f5 rfl
    rw [e5, g5, c53] at t5
    obtain ⟨n0, h0, _, w0⟩ := DataW.trod_int Tryz.underlying3 t0
    obtain ⟨n1, h1, _, w1⟩ := DataW.trod_int Tryz.underlying3 t1
    obtain ⟨n2, h2, _, _⟩ := DataW.trod_string Tryz.underlying9 t2
    obtain ⟨n3, h3, _, w3⟩ := DataW.trod_int Tryz.underlying3 t3
    obtain ⟨n4, h4, _, w4⟩ := DataW.trod_int Tryz.underlying3 t4
    obtain ⟨n5, h5, _, w5⟩ := DataW.trod_int Tryz.underlying53 t5
    rw [cT] at hlen
    match cs, hlen with
    | [v0, v1, v2, v3, v4, v5], _ =>
      simp only [List.drop_zero, List.take_succ_cons, List.take_zero, List.drop_succ_cons, List.cons.injEq, and_true] at h0 h1 h2 h3 h4 h5
      subst h0; subst h1; subst h2; subst h3; subst h4; subst h5
      exact ⟨⟨n0, n1, n2.data.toList, n3, n4, n5, wf_u64 w5⟩, by simp [Oc.tv, TV.cells, TVs.cells]⟩

theorem ocs_in {a : Option Addr} {len cap : Nat} {x : DataW H × List MemPlace} (hs : ∀ x, a = some x → x.spot = none) (h : DataW.trod enc Tryz.prog w base spare held fuel 61 [.slice a len cap] = some x) :
    ∃ (sl : Sl) (l : List Oc), Value.slice a len cap = (TV.slice sl).val ∧ Elems 6 w.heap sl (l.map Oc.tv) :=
  slice_in (tv := Oc.tv) Tryz.underlying61 (by kernel_rfl) (fun _ => rfl) (fun h => oc_in h) hs h

end
end Go.Proofs.YtldocdpdjdekiaaGreat.Pool
end
