/- Scripts that come in. -/
import Derived.Test.YtjadpjbiiidioaaPoolF
import Derived.Deep.Strs
namespace Go.Proofs.Ytjadpjbiiidioaa.Pool
open Go Go.Vc

theorem trod_struct5 {H : Type} {enc : TypeId × Value → H} {P : Program} {w : World} {base : Nat} {spare : Nat → Bool} {held : Bool} {t : TypeId} {f0 f1 f2 f3 f4 : Field} {fuel : Nat} {cs : List Value} {x : DataW H × List MemPlace}
    (ht : P.underlying t = some (.struct #[f0, f1, f2, f3, f4])) (h : DataW.trod enc P w base spare held fuel t cs = some x) :
    ∃ y0 y1 y2 y3 y4 n, cs.length = P.cellsOf t ∧ DataW.trod enc P w base spare held n f0.type ((cs.drop f0.offset).take (P.cellsOf f0.type)) = some y0 ∧
      DataW.trod enc P w base spare held n f1.type ((cs.drop f1.offset).take (P.cellsOf f1.type)) = some y1 ∧ DataW.trod enc P w base spare held n f2.type ((cs.drop f2.offset).take (P.cellsOf f2.type)) = some y2 ∧
      DataW.trod enc P w base spare held n f3.type ((cs.drop f3.offset).take (P.cellsOf f3.type)) = some y3 ∧ DataW.trod enc P w base spare held n f4.type ((cs.drop f4.offset).take (P.cellsOf f4.type)) = some y4 := by
  obtain ⟨xs, n, _, rfl, hl, hlen, hf⟩ := DataW.trod_struct ht h
  match xs, hlen with
  | [y0, y1, y2, y3, y4], _ => exact ⟨y0, y1, y2, y3, y4, n, hl, by simpa using hf 0 f0 rfl, by simpa using hf 1 f1 rfl, by simpa using hf 2 f2 rfl, by simpa using hf 3 f3 rfl, by simpa using hf 4 f4 rfl⟩

/-- One call's cells. -/
theorem call_in {H : Type} {enc : TypeId × Value → H} {w : World} {base fuel : Nat} {spare : Nat → Bool} {held : Bool} {cs : List Value} {x : DataW H × List MemPlace} (h : DataW.trod enc Try.prog w base spare held fuel 36 cs = some x) :
    ∃ c : Cl, c.fit ∧ cs = c.tv.cells := by
  obtain ⟨y0, y1, y2, y3, y4, n', hlen, t0, t1, t2, t3, t4⟩ := trod_struct5 Try.underlying36 h
  have c3 : Try.prog.cellsOf 3 = 1 := by kernel_rfl
  have c9 : Try.prog.cellsOf 9 = 1 := by kernel_rfl
  have c36 : Try.prog.cellsOf 36 = 5 := by kernel_rfl
  simp only [c3, c9] at t0 t1 t2 t3 t4
  obtain ⟨n0, h0, _, w0⟩ := DataW.trod_int Try.underlying3 t0
  obtain ⟨n1, h1, _, w1⟩ := DataW.trod_int Try.underlying3 t1
  obtain ⟨n2, h2, _, w2⟩ := DataW.trod_int Try.underlying3 t2
  obtain ⟨n3, h3, _, w3⟩ := DataW.trod_int Try.underlying3 t3
  obtain ⟨s, h4, _, _⟩ := DataW.trod_string Try.underlying9 t4
  rw [c36] at hlen
  match cs, hlen with
  | [v0, v1, v2, v3, v4], _ =>
    simp only [List.drop_zero, List.take_succ_cons, List.take_zero, List.drop_succ_cons, List.cons.injEq, and_true] at h0 h1 h2 h3 h4
    subst h0; subst h1; subst h2; subst h3; subst h4
    exact ⟨⟨n0, n1, n2, n3, s.data.toList⟩, ⟨w0, w1, w2, w3⟩, by simp [Cl.tv, TV.cells, TVs.cells]⟩

theorem calls_in {H : Type} {enc : TypeId × Value → H} {w : World} {base fuel : Nat} {spare : Nat → Bool} {held : Bool} {a : Option Addr} {len cap : Nat} {x : DataW H × List MemPlace} (hs : ∀ x, a = some x → x.spot = none)
    (h : DataW.trod enc Try.prog w base spare held fuel 22 [.slice a len cap] = some x) : ∃ sl cs, Value.slice a len cap = (TV.slice sl).val ∧ (Elems 5 w.heap sl (cls cs) ∧ ∀ c ∈ cs, c.fit) := by
  rcases Deep.open_slice Try.underlying22 h with ⟨hc, _⟩ | ⟨a', l', c', m, n, D, Pl, hc, _, hl, _, hm, _, hel⟩
  · simp only [List.cons.injEq, Value.slice.injEq, and_true] at hc
    obtain ⟨rfl, rfl, rfl⟩ := hc
    exact ⟨Sl.nil, [], rfl, Elems.nil_ 5 _, fun c hc => by cases hc⟩
  · simp only [List.cons.injEq, Value.slice.injEq, and_true] at hc
    obtain ⟨rfl, rfl, rfl⟩ := hc
    have hsp := hs a' rfl
    have hlm : len ≤ m := by rw [hm]; split <;> omega
    have h5 : Try.prog.cellsOf 36 = 5 := by kernel_rfl
    have each : ∀ i, i < len → ∃ c : Cl, c.fit ∧ c.tv.at w.heap a'.block (a'.off + i * 5) := by
      intro i hi
      obtain ⟨cs', h1, h2⟩ := hel i (by omega)
      rw [h5] at h1
      obtain ⟨_, hlen, hcell⟩ := World.cells?_some h1
      obtain ⟨c, hfit, rfl⟩ := call_in h2
      refine ⟨c, hfit, ?_⟩
      rw [TV.at_iff]
      intro j hj
      have hj5 : j < 5 := hj
      have := hcell j hj5
      rw [Deep.add_add] at this
      have hc2 := cel_of_cell hsp (i := i * 5 + j) (v := c.tv.cells[j]'(by rw [TV.cells_length]; exact hj)) (by
        rw [this]
        simp [TV.cells_length, hj])
      rw [List.getElem?_eq_getElem (by rw [TV.cells_length]; exact hj), ← hc2, Nat.add_assoc]
    obtain ⟨f, hf⟩ := Deep.choose_lt each
    refine ⟨⟨some ⟨a'.block, a'.off⟩, len, cap⟩, (List.range len).map f, ?_, ⟨?_, ?_, ?_⟩, ?_⟩
    · cases a'
      simp only at hsp
      subst hsp
      rfl
    · simp
    · intro hn; cases hn
    · rintro l ⟨rfl⟩ i t ht
      rw [List.getElem?_map, Option.map_eq_some_iff] at ht
      obtain ⟨c, hc, rfl⟩ := ht
      rw [List.getElem?_map, Option.map_eq_some_iff] at hc
      obtain ⟨k, hk, rfl⟩ := hc
      have hk' := List.getElem?_eq_some_iff.1 hk
      obtain ⟨hi, he⟩ := hk'
      simp only [List.length_range] at hi
      simp only [List.getElem_range] at he
      subst he
      exact (hf i hi).2
    · intro c hc
      obtain ⟨i, hi, rfl⟩ := List.mem_map.1 hc
      exact (hf i (List.mem_range.1 hi)).1

end Go.Proofs.Ytjadpjbiiidioaa.Pool
