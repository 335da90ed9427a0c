/- Messages that come in. -/
import Derived.Test.YtgdhddignbkloaaSealF
namespace Go.Proofs.Ytgdhddignbkloaa.Board
open Go Go.Vc

section
variable {H : Type} {enc : TypeId × Value → H} {w : World} {base fuel : Nat} {spare : Nat → Bool} {held : Bool}

set_option maxRecDepth 100000 in
theorem cell_int {r : Reach} {base : Nat} {t : TypeId} {k : IntKind} (ht : Try.prog.underlying t = some (.int k)) {v : Value} (h : Cell.okWide Try.prog w r base t v) : ∃ n, v = .int k n ∧ k.min ≤ n ∧ n ≤ k.max := by
  unfold Cell.okWide at h
  rw [ht] at h
  have hok' : Cell.ok Try.prog w r base t v := by
    revert h
    cases v <;> exact id
  unfold Cell.ok at hok'
  rw [ht] at hok'
  cases v <;> simp only at hok'
  case int k' m =>
    obtain ⟨rfl, h0, h1⟩ := hok'
    exact ⟨m, rfl, h0, h1⟩

set_option maxRecDepth 100000 in
theorem cell_byte {r : Reach} {base : Nat} {v : Value} (h : Cell.okWide Try.prog w r base 5 v) : ∃ x : UInt8, v = .int .u8 (x.toNat : Int) := by
  obtain ⟨n, rfl, h0, h1⟩ := cell_int Try.underlying5 h
  have h0' : 0 ≤ n := h0
  have h1' : n ≤ 255 := h1
  refine ⟨UInt8.ofNat n.toNat, ?_⟩
  rw [UInt8.toNat_ofNat']
  congr 1
  omega

theorem seg : ∀ (n a : Nat) (cl : List Value), (∀ i, a ≤ i → i < a + n → ∃ x : UInt8, cl[i]? = some (.int .u8 (x.toNat : Int))) → ∃ b : Bs n, (cl.drop a).take n = b.l.map fun c => Value.int .u8 (c.toNat : Int)
  | 0, a, cl, _ => ⟨⟨[], rfl⟩, by simp⟩
  | n + 1, a, cl, h => by
    obtain ⟨x, hx⟩ := h a (Nat.le_refl _) (by omega)
    obtain ⟨b, hb⟩ := seg n (a + 1) cl fun i h1 h2 => h i (by omega) (by omega)
    obtain ⟨hlt, hget⟩ := List.getElem?_eq_some_iff.1 hx
    refine ⟨⟨x :: b.l, by simp [b.h]⟩, ?_⟩
    rw [List.drop_eq_getElem_cons hlt, List.take_succ_cons, hb, hget]
    rfl

theorem drop_of {cl : List Value} {a : Nat} {v : Value} (h : cl[a]? = some v) : cl.drop a = v :: cl.drop (a + 1) := by
  obtain ⟨hlt, hget⟩ := List.getElem?_eq_some_iff.1 h
  rw [List.drop_eq_getElem_cons hlt, hget]

set_option maxRecDepth 100000 in
theorem ms_in {r : Reach} {base2 : Nat} {v : Value} {d : DataW H} {p : List MemPlace} (hv : Value.okWide Try.prog w r base2 32 v) (h : DataW.Trod enc Try.prog w base spare held 32 v d p) :
    ∃ m : Ms, (∃ row, Elems 1 w.heap m.bits (bools row)) ∧ v = m.tv.val := by
  have hd : ∃ f0 f1 f2 f3 f4 f5 f6 : Field, Try.prog.underlying 32 = some (.struct #[f0, f1, f2, f3, f4, f5, f6]) ∧ (f5.type = 28 ∧ f5.offset = 36) := ⟨_, _, _, _, _, _, _, Try.underlying32, ⟨rfl, rfl⟩⟩
  obtain ⟨f0, f1, f2, f3, f4, f5, f6, hu, e5⟩ := hd
  have hct : Try.prog.cellTypes Try.prog.depth 32 = some (3 :: 3 :: (List.replicate 32 5 ++ 3 :: 27 :: 28 :: List.replicate 16 5)) := by kernel_rfl
  have c32 : Try.prog.cellsOf 32 = 53 := by kernel_rfl
  have c28 : Try.prog.cellsOf 28 = 1 := by kernel_rfl
  unfold Value.okWide at hv
  rw [hu] at hv
  simp only at hv
  obtain ⟨cs, rfl, hs, ts, hts, _, hcell⟩ := hv
  rw [hct] at hts
  obtain rfl := Option.some.inj hts
  obtain ⟨fuel, hf0⟩ := h
  have hf1 : DataW.trod enc Try.prog w base spare held fuel 32 cs.toList = some (d, p) := hf0
  obtain ⟨xs, n, _, _, hlen, hl, hf⟩ := DataW.trod_struct hu hf1
  rw [c32] at hlen
  match xs, hl with
  | [y0, y1, y2, y3, y4, y5, y6], _ =>
    have t5 := hf 5 f5 rfl
    rw [e5.1, e5.2, c28] at t5
    obtain ⟨cl⟩ := cs
    simp only at hlen hcell t5
    have each : ∀ i, i < 53 → ∃ v u, cl[i]? = some v ∧ (3 :: 3 :: (List.replicate 32 5 ++ 3 :: 27 :: 28 :: List.replicate 16 5))[i]? = some u ∧ Cell.okWide Try.prog w r base2 u v := by
      intro i hi
      obtain ⟨u, h1, h2⟩ := hcell i cl[i] (by simp [hlen, hi])
      have hm : i % (3 :: 3 :: (List.replicate 32 5 ++ 3 :: 27 :: 28 :: List.replicate 16 5) : List Nat).length = i := Nat.mod_eq_of_lt hi
      rw [hm] at h1
      exact ⟨cl[i], u, List.getElem?_eq_getElem (by omega), h1, h2⟩
    have int_ : ∀ i, i < 53 → ∀ u, (3 :: 3 :: (List.replicate 32 5 ++ 3 :: 27 :: 28 :: List.replicate 16 5))[i]? = some u → ∀ k, Try.prog.underlying u = some (.int k) → ∃ n, cl[i]? = some (.int k n) := by
      intro i hi u hu k hk
      obtain ⟨v, u', h1, h2, h3⟩ := each i hi
      rw [hu] at h2
      obtain rfl := Option.some.inj h2
      obtain ⟨n, rfl, _⟩ := cell_int hk h3
      exact ⟨n, h1⟩
    have byte_ : ∀ i, i < 53 → (3 :: 3 :: (List.replicate 32 5 ++ 3 :: 27 :: 28 :: List.replicate 16 5))[i]? = some 5 → ∃ x : UInt8, cl[i]? = some (.int .u8 (x.toNat : Int)) := by
      intro i hi hu
      obtain ⟨v, u', h1, h2, h3⟩ := each i hi
      rw [hu] at h2
      obtain rfl := Option.some.inj h2
      obtain ⟨x, rfl⟩ := cell_byte h3
      exact ⟨x, h1⟩
    obtain ⟨n0, g0⟩ := int_ 0 (by decide) 3 rfl .i64 Try.underlying3
    obtain ⟨n1, g1⟩ := int_ 1 (by decide) 3 rfl .i64 Try.underlying3
    obtain ⟨n34, g34⟩ := int_ 34 (by decide) 3 rfl .i64 Try.underlying3
    obtain ⟨n35, g35⟩ := int_ 35 (by decide) 27 rfl .u64 Try.underlying27
    have hall1 : ∀ i : Fin 53, 2 ≤ i.val → i.val < 34 → (3 :: 3 :: (List.replicate 32 5 ++ 3 :: 27 :: 28 :: List.replicate 16 5) : List Nat)[i.val]? = some 5 := by decide
    have hall2 : ∀ i : Fin 53, 37 ≤ i.val → (3 :: 3 :: (List.replicate 32 5 ++ 3 :: 27 :: 28 :: List.replicate 16 5) : List Nat)[i.val]? = some 5 := by decide
    obtain ⟨T, hT⟩ := seg 32 2 cl fun i h1 h2 => byte_ i (by omega) (hall1 ⟨i, by omega⟩ h1 h2)
    obtain ⟨G, hG⟩ := seg 16 37 cl fun i h1 h2 => byte_ i (by omega) (hall2 ⟨i, by omega⟩ h1)
    obtain ⟨vs, us, g36, hu36, hok36⟩ := each 36 (by decide)
    obtain rfl : 28 = us := Option.some.inj hu36
    have ht5 : (cl.drop 36).take 1 = [vs] := by rw [drop_of g36]; rfl
    rw [ht5] at t5
    have hsl : ∃ a len cap, vs = Value.slice a len cap := by
      rcases Deep.open_slice Try.underlying28 t5 with ⟨hc, _⟩ | ⟨a', l', c', m, n, D, Pl, hc, _⟩
      · exact ⟨_, _, _, by simpa using hc⟩
      · exact ⟨_, _, _, by simpa using hc⟩
    obtain ⟨a, len, cap, rfl⟩ := hsl
    have hsp : ∀ x, a = some x → x.spot = none := fun x hx => by
      subst hx
      exact cell_spot Try.underlying28 hok36
    obtain ⟨sl, row, e, hel⟩ := row_in hsp t5
    refine ⟨⟨n0, n1, T, n34, n35, sl, G⟩, ⟨row, hel⟩, ?_⟩
    have d53 : cl.drop 53 = [] := List.drop_eq_nil_of_le (by omega)
    have d37 : cl.drop 37 = G.l.map fun c => Value.int .u8 (c.toNat : Int) := by
      rw [← List.take_append_drop 16 (cl.drop 37), hG, List.drop_drop, d53, List.append_nil]
    have d34 : cl.drop 34 = .int .i64 n34 :: .int .u64 n35 :: (TV.slice sl).val :: (G.l.map fun c => Value.int .u8 (c.toNat : Int)) := by
      rw [drop_of g34, drop_of g35, drop_of g36, d37, e]
    have d2 : cl.drop 2 = (T.l.map fun c => Value.int .u8 (c.toNat : Int)) ++ cl.drop 34 := by
      rw [← List.take_append_drop 32 (cl.drop 2), hT, List.drop_drop]
    have d0 : cl = .int .i64 n0 :: .int .i64 n1 :: ((T.l.map fun c => Value.int .u8 (c.toNat : Int)) ++ .int .i64 n34 :: .int .u64 n35 :: (TV.slice sl).val :: (G.l.map fun c => Value.int .u8 (c.toNat : Int))) := by
      have : cl = cl.drop 0 := rfl
      rw [this, drop_of g0, drop_of g1, d2, d34]
    rw [d0]
    simp [Ms.tv, TV.val, TV.cells, TVs.cells]

end
end Go.Proofs.Ytgdhddignbkloaa.Board
