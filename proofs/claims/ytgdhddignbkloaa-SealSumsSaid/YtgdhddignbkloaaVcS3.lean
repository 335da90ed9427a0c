/- Fields and elements of one cell that are written. -/
import Derived.Test.YtgdhddignbkloaaVcM
import Derived.Test.YtgdhddignbkloaaVcS2
namespace Go.Vc
open Go

theorem cells_ones : ∀ (ts : List TV) (i : Nat) (t : TV), (∀ t ∈ ts, t.size = 1) → t.size = 1 → i < ts.length → (TVs.cells ts).take i ++ t.cells ++ (TVs.cells ts).drop (i + 1) = TVs.cells (ts.set i t)
  | [], i, t, _, _, hi => by simp at hi
  | x :: xs, 0, t, h, ht, _ => by
    have hx : x.cells.length = 1 := by rw [TV.cells_length]; exact h x (List.mem_cons_self ..)
    simp only [TVs.cells, List.set_cons_zero, List.take_zero, List.nil_append, Nat.zero_add]
    rw [← hx, List.drop_left]
  | x :: xs, i + 1, t, h, ht, hi => by
    have hx : x.cells.length = 1 := by rw [TV.cells_length]; exact h x (List.mem_cons_self ..)
    obtain ⟨v, hv⟩ := List.length_eq_one_iff.1 hx
    have ih := cells_ones xs i t (fun t ht => h t (List.mem_cons_of_mem _ ht)) ht (by simpa using hi)
    simp only [TVs.cells, List.set_cons_succ, hv, List.cons_append, List.nil_append, List.take_succ_cons, List.drop_succ_cons]
    rw [← ih]

/-- A field of one cell is written. -/
theorem put_field {T : TypeId} {h : Heap} {b i : Nat} {ts : List TV} (v : Var T h b (.agg ts)) (h1 : ∀ t ∈ ts, t.size = 1) (hi : i < ts.length) {t : TV} (ht : t.size = 1) :
    wok h b i 1 ∧ ∃ h1, t.put h b i = h1 ∧ Var T h1 b (.agg (ts.set i t)) ∧ Only (· = b) h h1 ∧ h1.size = h.size := by
  have hlen : (TVs.cells ts).length = ts.length := by rw [TVs.cells_uniform (sz := 1) ts h1, Nat.mul_one]
  have hl : i + t.size ≤ (TV.agg ts).cells.length := by simp only [TV.cells, hlen, ht]; omega
  refine ⟨wok_row v (by rw [← ht]; exact hl), _, rfl, ?_, put_only v hl, put_size v hl⟩
  have := put_row (t := t) v hl
  unfold Var
  rw [this]
  simp only [TV.cells, ht]
  rw [cells_ones ts i t h1 ht hi]

/-- A block in which a slice's row lies. -/
def In (A : Sl) (i : Nat) : Prop := ∃ l, A.a = some l ∧ l.b = i

/-- An element of one cell is written. -/
theorem Own.set {T : TypeId} {h : Heap} {s : Sl} {ts : List TV} (o : Own T 1 h s ts) {i : Nat} {t : TV} (hi : i < ts.length) (ht : t.size = 1) :
    ∃ l, s.a = some l ∧ wok h l.b (l.o + i * 1) 1 ∧ ∃ h1, t.put h l.b (l.o + i * 1) = h1 ∧ Own T 1 h1 s (ts.set i t) ∧ Only (In s) h h1 ∧ h1.size = h.size := by
  have hlen : (TVs.cells ts).length = ts.length := by rw [TVs.cells_uniform (sz := 1) ts o.size, Nat.mul_one]
  rcases o.row with rfl | ⟨b, rest, ha, hb, hr⟩
  · have := o.len
    simp [Sl.nil] at this
    rw [this] at hi
    simp at hi
  · have hl : i + t.size ≤ (TVs.cells ts ++ rest).length := by rw [List.length_append, hlen, ht]; omega
    refine ⟨⟨b, 0⟩, ha, ?_, _, rfl, ?_, ?_, ?_⟩
    · simp only [Nat.zero_add, Nat.mul_one]
      exact wok_row hb (by rw [← ht]; exact hl)
    · simp only [Nat.zero_add, Nat.mul_one]
      have := put_row (t := t) hb hl
      refine ⟨fun u hu => ?_, by rw [List.length_set]; exact o.len, o.cap, .inr ⟨b, rest, ha, ?_, hr⟩⟩
      · rcases List.mem_or_eq_of_mem_set hu with h1 | rfl
        · exact o.size u h1
        · exact ht
      · rw [this, ht, ← cells_ones ts i t o.size ht hi]
        congr 2
        rw [List.take_append_of_le_length (by omega), List.drop_append_of_le_length (by omega)]
        simp
    · simp only [Nat.zero_add, Nat.mul_one]
      exact (put_only hb hl).mono fun j hj => ⟨⟨b, 0⟩, ha, hj.symm⟩
    · simp only [Nat.zero_add, Nat.mul_one]
      exact put_size hb hl

end Go.Vc
