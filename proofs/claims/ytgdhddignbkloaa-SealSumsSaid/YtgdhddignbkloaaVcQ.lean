/- slices.SortFunc over a row of structs in memory: the kit's contract, in terms of heaps. -/
import Derived.Test.YtgdhddignbkloaaVcP
import Derived.Shelf.SlSortCmp.NoneTotal
namespace Go.Vc
open Go Go.Proofs Go.Shelf Go.RowKit Go.Lib Go.Sort

theorem one_cell' {v : Value} (h : isOne v = true) : v.oneCell' = true := by
  cases v <;> first | rfl | (simp [isOne] at h)

theorem grow_of {w w' : World} (hs : SameEnv w w') (e : Ext w.heap w'.heap) : ∃ q os, w' = Go.Sort.grow (w.drewN q) os := by
  refine ⟨w'.drawn - w.drawn, w'.heap.extract w.heap.size, ?_⟩
  obtain ⟨hp, tp, dr, os, op⟩ := w'
  obtain ⟨hp0, tp0, dr0, os0, op0⟩ := w
  have h1 : os = os0 := hs.os
  have h2 : tp = tp0 := hs.tape
  have h3 : op = op0 := hs.output
  have h4 : dr0 ≤ dr := hs.drawn
  subst h1; subst h2; subst h3
  simp only [Go.Sort.grow, World.drewN]
  congr 1
  · apply Array.ext_getElem?
    intro i
    rw [Array.getElem?_append]
    have hz : hp0.size ≤ hp.size := e.size
    split
    · rename_i hi
      exact e.same i hi
    · rename_i hi
      rw [Array.getElem?_extract]
      split
      · rename_i hl
        congr 1
        omega
      · rename_i hl
        have : hp.size ≤ i := by
          rcases Nat.lt_or_ge i hp.size with h9 | h9
          · exfalso
            apply hl
            show i - hp0.size < min hp.size hp.size - hp0.size
            rw [Nat.min_self]
            omega
          · exact h9
        exact Array.getElem?_eq_none this
  · omega

section
variable {α : Type} [Inhabited α] {tv : α → TV} {k : Nat}

omit [Inhabited α] in
theorem map_size (hk : ∀ x, (tv x).size = k) (L : List α) : ∀ t ∈ L.map tv, t.size = k := fun t ht => by
  obtain ⟨x, _, rfl⟩ := List.mem_map.1 ht
  exact hk x

theorem flat_list (hk : ∀ x, (tv x).size = k) (L : List α) (j : Nat) (hj : j < L.length * k) : (TVs.cells (L.map tv))[j]? = some ((flatK (fun x => (tv x).cells) k L.toArray)[j]!) := by
  have k0 : 0 < k := Nat.pos_of_ne_zero (fun e => by rw [e, Nat.mul_zero] at hj; omega)
  rw [get_flatK _ _ _ _ (by simpa using hj)]
  have hd : j / k < L.length := (Nat.div_lt_iff_lt_mul k0).2 hj
  have hm : j % k < k := Nat.mod_lt _ k0
  have := TVs.cells_get (L.map tv) (j / k) (j % k) (tv L[j / k]) (map_size hk L) (by simp [hd]) hm
  rw [Nat.div_add_mod' j k] at this
  rw [this]
  have hl : j % k < (tv L[j / k]).cells.length := by rw [TV.cells_length, hk]; exact hm
  have e1 : (L.toArray)[j / k]! = L[j / k] := by simp [hd]
  rw [e1, List.getElem?_eq_getElem hl]
  simp [hl]

theorem holds_of {T : TypeId} {w : World} {L : List α} {b : Nat} {rest : List Value} (hk : ∀ x, (tv x).size = k) (hb : w.heap[b]? = some (row (TVs.cells (L.map tv) ++ rest) T)) :
    HoldsK (fun x => (tv x).cells) k w b 0 L.toArray := by
  intro j hj
  rw [size_flatK] at hj
  have hj' : j < L.length * k := by simpa using hj
  have hf := flat_list hk L j hj'
  have hl : j < (TVs.cells (L.map tv)).length := (List.getElem?_eq_some_iff.1 hf).1
  refine ⟨?_, ?_⟩
  · rw [cell?_eq]
    unfold cel
    rw [hb]
    simp only [row, Nat.zero_add]
    rw [List.getElem?_toArray, List.getElem?_append_left hl, hf]
    rfl
  · unfold World.frozen?
    rw [hb]
    simp [row]

theorem put_cells (hk : ∀ x, (tv x).size = k) (L L' : List α) (rest : List Value) (hl : L'.length = L.length) :
    putCells id 0 (flatK (fun x => (tv x).cells) k L'.toArray) (TVs.cells (L.map tv) ++ rest).toArray = (TVs.cells (L'.map tv) ++ rest).toArray := by
  have n1 := TVs.cells_uniform (L.map tv) (map_size hk L)
  have n2 := TVs.cells_uniform (L'.map tv) (map_size hk L')
  rw [List.length_map] at n1 n2
  apply Array.ext_getElem?
  intro i
  unfold putCells
  rw [Array.getElem?_mapIdx, List.getElem?_toArray, List.getElem?_toArray]
  simp only [Nat.zero_le, true_and, Nat.zero_add, Nat.sub_zero, size_flatK, id]
  have hsz : L'.toArray.size = L'.length := by simp
  rw [hsz]
  by_cases hi : i < L'.length * k
  · rw [List.getElem?_append_left (by rw [n1, ← hl]; exact hi), List.getElem?_append_left (by rw [n2]; exact hi), flat_list hk L' i hi, List.getElem?_eq_getElem (by rw [n1, ← hl]; exact hi)]
    simp [hi]
  · rw [List.getElem?_append_right (by rw [n1, ← hl]; omega), List.getElem?_append_right (by rw [n2]; omega), n1, n2, hl]
    have hi' : ¬ i < L.length * k := by rw [← hl]; exact hi
    simp [hi']

/-- slices.SortFunc over a row that stands for itself. -/
theorem sort_own {P : Program} {ρ : Ren} (Ls : SlLaysF0.n6 P ρ) {T : TypeId} (aE : ∀ w, (isAgg (ρ.t 24)).run P w = .ok true w) (zE : ∀ w, (Go.sizeOf (ρ.t 24)).run P w = .ok k w)
    (hk : ∀ x, (tv x).size = k) (hp : ∀ x, (tv x).plain = true) {cf : α → α → Int} (hO : SWO (ltOf cf)) {g : Nat} {cb : Array Value} (hent : EntP P g) {h : Heap}
    (hcmp : ∀ h' x y, CallsH P g ([.agg (tv x).cells.toArray, .agg (tv y).cells.toArray] ++ cb.toList) h' fun v h'' => v = .int .i64 (cf x y) ∧ Ext h' h'')
    {s : Sl} {L : List α} (o : Own T k h s (L.map tv)) (hlen : L.length < 1000000) {R : Value → Heap → Prop}
    (hr : ∀ (h' : Heap) (L' : List α), L'.Perm L → L'.Pairwise (fun x y => ltOf cf y x = false) → Own T k h' s (L'.map tv) → Only (In s) h h' → R (TV.tup []).val h') :
    CallsH P (ρ.f 6) [(TV.slice s).val, .func (.func g) #[] cb] h R := by
  have hl := o.len
  rw [List.length_map] at hl
  rcases o.row with hnil | ⟨b, rest, ha, hb, hrest⟩
  · intro w hw
    have h0 : L = [] := List.eq_nil_of_length_eq_zero (by rw [hl, hnil]; rfl)
    subst h0
    have := AnyF.slices_SortFunc_none Ls none 0 (.func (.func g) #[] cb) w
    rw [hnil]
    refine this.mono fun e w' => ?_
    rintro ⟨rfl, rfl⟩
    refine ⟨SameEnv.refl _, _, rfl, ?_⟩
    rw [hw]
    exact hr h [] (List.Perm.refl _) List.Pairwise.nil o (Only.refl _ _)
  · intro w hw
    subst hw
    have hH := holds_of hk hb
    have hblk : b < w.heap.size := row_lt hb
    have hC : CmpLays P g cb (fun x => (tv x).cells) k cf b 0 L.toArray.size w := by
      intro m os dk _ x y
      have hx := hcmp (sortWorldK (fun x => (tv x).cells) k w b 0 m dk os).heap x y (sortWorldK (fun x => (tv x).cells) k w b 0 m dk os) rfl
      have ea : ([Value.agg (tv x).cells.toArray, Value.agg (tv y).cells.toArray] ++ cb.toList).toArray = #[Value.agg (tv x).cells.toArray, Value.agg (tv y).cells.toArray] ++ cb := by apply Array.toList_inj.1; simp
      rw [ea] at hx
      refine hx.mono fun e w' => ?_
      rintro ⟨hs, v, rfl, rfl, hx⟩
      exact ⟨rfl, grow_of hs hx⟩
    have hs := AnyQ.slices_SortFunc Ls k aE zE (fun x => (tv x).cells) (fun x => by rw [TV.cells_length, hk]) (fun x v hv => one_cell' (TV.plain_cells _ (hp x) v hv)) cf hO g cb b 0 s.cap L.toArray w (fun args w => hent args w) hC hH hblk (by simp; omega)
    have e1 : (TV.slice s).val = .slice (some ⟨b, 0, none⟩) L.toArray.size s.cap := by
      simp only [TV.val, slVal, ha, Option.map_some, Vc.Loc.addr, List.size_toArray, hl]
    rw [e1]
    refine hs.mono fun e w' => ?_
    rintro ⟨rfl, d', n, os, hp', hsrt, rfl⟩
    have hsz : d'.size = L.length := by have := hp'.1; simpa using this
    have hperm : d'.toList.Perm L := by
      have := hp'.2.2
      have e2 : d'.extract 0 L.toArray.size = d' := by rw [Array.extract_eq_self_of_le (by simp [hsz])]
      have e3 : L.toArray.extract 0 L.toArray.size = L.toArray := by rw [Array.extract_eq_self_of_le (Nat.le_refl _)]
      rw [e2, e3] at this
      exact this
    have hheap : (sortWorldK (fun x => (tv x).cells) k w b 0 n d' os).heap = (w.heap.modify b (onCells (putCells id 0 (flatK (fun x => (tv x).cells) k d')))) ++ os := rfl
    have hd : d' = d'.toList.toArray := by simp
    have hb' : (sortWorldK (fun x => (tv x).cells) k w b 0 n d' os).heap[b]? = some (row (TVs.cells (d'.toList.map tv) ++ rest) T) := by
      rw [hheap, Array.getElem?_append_left (by simpa using hblk), Array.getElem?_modify, if_pos rfl, hb]
      simp only [Option.map_some, onCells, row]
      have hpc := put_cells (k := k) (tv := tv) hk L d'.toList rest (by simp [hsz])
      rw [← hd] at hpc
      rw [hpc]
    refine ⟨⟨rfl, rfl, rfl, Nat.le_add_right _ _⟩, _, rfl, ?_⟩
    refine hr _ d'.toList hperm ?_ ⟨map_size hk _, by simp [hsz, hl], o.cap, .inr ⟨b, rest, ha, hb', hrest⟩⟩ ⟨?_, fun i hi hn => ?_⟩
    · rw [List.pairwise_iff_getElem]
      intro i j hi hj hij
      have h1 : i < d'.size := by simpa using hi
      have h2 : j < d'.size := by simpa using hj
      have := hsrt i j (Nat.zero_le _) hij (by simpa [hsz] using h2)
      simpa [h1, h2] using this
    · rw [hheap]
      simp
    · rw [hheap, Array.getElem?_append_left (by simpa using hi), Array.getElem?_modify, if_neg (fun e => hn ⟨_, ha, e⟩)]
end

end Go.Vc
