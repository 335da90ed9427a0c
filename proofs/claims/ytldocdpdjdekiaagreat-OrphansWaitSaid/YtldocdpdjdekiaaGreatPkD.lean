/- Texts that the proof needs, joined: PoolC, VcQ, Shelf, PoolD, PoolE, VsPoolT, PoolF, VsPoolR, PoolM, PoolN, VcU, WireA, VsWireS, WireS, VsWireT, WireT, VsWireU, WireU. -/
import Derived.Shelf.SlSortCmp.NoneTotal
import Derived.Ground.SlsfProg
import Derived.Test.YtldocdpdjdekiaaGreatProg
import Derived.Test.YtldocdpdjdekiaaGreatPkC

section
/- What container/heap does over a pool's row. -/
namespace Go.Proofs.YtldocdpdjdekiaaGreat.Pool
open Go Go.Vc
section
variable {R : Value → Heap → Prop} {h : Heap} {b : Nat} {A : Sl} {L : List It} {most quota : Int}

theorem m_len (H : HL h b A L most quota) : MethodAt Tryz.prog h 116 (TV.ptr (some ⟨b, 0⟩)).val "Len" 76 (TV.slice A).val :=
  meth_val ctx_ok (e := 112) (by kernel_rfl) (by kernel_rfl) types_pos (by kernel_rfl) (by kernel_rfl) (by kernel_rfl) (H.var.at1 rfl)
theorem m_less (H : HL h b A L most quota) : MethodAt Tryz.prog h 116 (TV.ptr (some ⟨b, 0⟩)).val "Less" 150 (TV.slice A).val :=
  meth_val ctx_ok (e := 112) (by kernel_rfl) (by kernel_rfl) types_pos (by kernel_rfl) (by kernel_rfl) (by kernel_rfl) (H.var.at1 rfl)
theorem m_swap (H : HL h b A L most quota) : MethodAt Tryz.prog h 116 (TV.ptr (some ⟨b, 0⟩)).val "Swap" 151 (TV.slice A).val :=
  meth_val ctx_ok (e := 112) (by kernel_rfl) (by kernel_rfl) types_pos (by kernel_rfl) (by kernel_rfl) (by kernel_rfl) (H.var.at1 rfl)
theorem m_push : MethodAt Tryz.prog h 116 (TV.ptr (some ⟨b, 0⟩)).val "Push" 152 (TV.ptr (some ⟨b, 0⟩)).val :=
  meth_ptr ctx_ok (e := 112) (by kernel_rfl) (by kernel_rfl) types_pos (by kernel_rfl)

theorem tdiv2 (n : Int) (h : 0 ≤ n) : Int.tdiv n 2 = ((n.toNat / 2 : Nat) : Int) := by
  rw [Int.tdiv_eq_ediv_of_nonneg h]; omega

theorem In.not_of {A : Sl} {b : Nat} (h : ¬ In A b) : ∀ i, In A i → ¬ i = b := fun _ hi e => h (e ▸ hi)

theorem up_spec (H : HL h b A L most quota) {v : One} (hv : v.v = .iface 116 (TV.ptr (some ⟨b, 0⟩)).val) {j : Int} (j0 : 0 ≤ j) (j1 : j < L.length) (hU : UpInv L j.toNat)
    (hr : ∀ h' L', HL h' b A L' most quota → L'.Perm L → HeapFrom 0 L' → Only (In A) h h' → R (TV.tup []).val h') : CallsH Tryz.prog 94 (TVs.vals [.one v, .int .i64 j]) h R := by
  apply container_heap_up_calls
  unfold container_heap_up_vc
  have few := H.few
  refine ⟨fun s hh => 0 ≤ s ∧ s < L.length ∧ ∃ L', HL hh b A L' most quota ∧ L'.Perm L ∧ UpInv L' s.toNat ∧ Only (In A) h hh, fun s _ => s.toNat, ⟨j0, j1, L, H, List.Perm.refl _, hU, Only.refl _ _⟩, ?_⟩
  rintro s hh ⟨s0, s1, L', H', hp, hU', o⟩
  have hlen := hp.length_eq
  refine ⟨by decide, ?_⟩
  rw [wrap_i64 (n := s - 1) (by omega) (by omega)]
  have hdiv : Int.tdiv (s - 1) 2 = if s = 0 then 0 else (((s.toNat - 1) / 2 : Nat) : Int) := by
    split
    · rename_i h0; subst h0; decide
    · rw [tdiv2 _ (by omega)]
      congr 2
      omega
  rw [hdiv]
  refine If.dec.2 ⟨fun he => ?_, fun hne => ?_⟩
  · have h0 : s = 0 := by
      split at he
      · assumption
      · rw [wrap_i64 (by omega) (by omega)] at he
        omega
    exact hr hh L' H' hp (up_done hU' (by omega) (.inl (by omega))) o
  · have h0 : ¬ s = 0 := fun e => by rw [if_pos e, e] at hne; exact hne (by decide)
    rw [if_neg h0, wrap_i64 (by omega) (by omega)]
    have hpar : (((s.toNat - 1) / 2 : Nat) : Int).toNat = (s.toNat - 1) / 2 := Int.toNat_natCast _
    refine ⟨_, _, _, _, hv, m_less H', ?_⟩
    refine lessAt_spec H' s0 (by omega) (by omega) (by omega) fun h2 x2 => ⟨_, rfl, ?_⟩
    have H2 := H'.ext x2
    have o2 : Only (In A) h h2 := o.trans (Only.of_ext x2)
    rw [hpar]
    cases hb : bf (hget L' ((s.toNat - 1) / 2)) (hget L' s.toNat) with
    | false => exact If.yes (hr h2 L' H2 hp (up_done hU' (by omega) (.inr hb)) o2)
    | true =>
      refine If.no ⟨_, _, _, _, hv, m_swap H2, ?_⟩
      refine swap_spec H2 (by omega) (by omega) s0 (by omega) fun h3 H3 o3 _ => ⟨rfl, ?_⟩
      rw [hpar] at H3
      refine ⟨⟨by omega, by omega, _, H3, (sw_perm (by omega) (by omega)).trans hp, ?_, o2.trans o3⟩, by dsimp only; omega⟩
      rw [hpar]
      exact up_step hU' (by omega) (by omega) hb

theorem down_spec (H : HL h b A L most quota) {v : One} (hv : v.v = .iface 116 (TV.ptr (some ⟨b, 0⟩)).val) {i n : Int} (i0 : 0 ≤ i) (i1 : i < L.length) (hn : n = L.length) {lo : Nat} (hlo : lo ≤ i.toNat) (hD : DownInv lo L i.toNat)
    (hr : ∀ h' L' r, HL h' b A L' most quota → L'.Perm L → HeapFrom lo L' → Only (In A) h h' → R (TV.bool r).val h') : CallsH Tryz.prog 96 (TVs.vals [.one v, .int .i64 i, .int .i64 n]) h R := by
  apply container_heap_down_calls
  unfold container_heap_down_vc
  have few := H.few
  subst hn
  refine ⟨fun s hh => i ≤ s ∧ s < L.length ∧ ∃ L', HL hh b A L' most quota ∧ L'.Perm L ∧ DownInv lo L' s.toNat ∧ Only (In A) h hh, fun s _ => ((L.length : Int) - s).toNat, ⟨Int.le_refl _, i1, L, H, List.Perm.refl _, hD, Only.refl _ _⟩, ?_⟩
  rintro s hh ⟨s0, s1, L', H', hp, hD', o⟩
  have hlen := hp.length_eq
  have w2 : ∀ x : Int, 0 ≤ x → x < 10000 → IntKind.wrap .i64 x = x := fun x h0 h1 => wrap_i64 (by omega) (by omega)
  rw [w2 (2 * s) (by omega) (by omega), w2 (2 * s + 1) (by omega) (by omega), w2 (2 * s + 1 + 1) (by omega) (by omega)]
  have none_of : (L.length : Int) ≤ 2 * s + 1 → HeapFrom lo L' := fun hge => down_done hD' fun k hk hl hpar => by omega
  intro J hJ
  refine If.dec.2 ⟨fun hge => hr hh L' _ H' hp (none_of hge) o, fun hlt => ?_⟩
  refine If.dec.2 ⟨fun hneg => by omega, fun _ => ?_⟩
  refine hJ _ _ ?_
  intro J2 hJ2
  -- the child that is taken
  have key : ∀ (c : Int) (h2 : Heap), 0 < c → c < L.length → (c.toNat - 1) / 2 = s.toNat → HL h2 b A L' most quota → Only (In A) h h2 →
      (∀ k, 0 < k → k < L'.length → (k - 1) / 2 = s.toNat → bf (hget L' c.toNat) (hget L' k) = false) → J2 c h2 := by
    intro c h2 c0 c1 hpar H2 o2 hsib
    refine hJ2 _ _ ?_
    refine ⟨_, _, _, _, hv, m_less H2, ?_⟩
    refine lessAt_spec H2 (by omega) (by omega) (by omega) (by omega) fun h3 x3 => ⟨_, rfl, ?_⟩
    have H3 := H2.ext x3
    have o3 : Only (In A) h h3 := o2.trans (Only.of_ext x3)
    cases hb : bf (hget L' s.toNat) (hget L' c.toNat) with
    | false =>
      refine If.yes (hr h3 L' _ H3 hp (down_done hD' fun k hk hl hpk => ?_) o3)
      exact nb_trans hb (hsib k hk hl hpk)
    | true =>
      refine If.no ⟨_, _, _, _, hv, m_swap H3, ?_⟩
      refine swap_spec H3 (by omega) (by omega) (by omega) (by omega) fun h4 H4 o4 _ => ⟨rfl, ?_⟩
      refine ⟨⟨by omega, by omega, _, H4, (sw_perm (by omega) (by omega)).trans hp, ?_, o3.trans o4⟩, by dsimp only; omega⟩
      exact down_step hD' (by omega) hpar (by omega) (by omega) hb hsib
  refine If.dec.2 ⟨fun h2c => ?_, fun h1c => ?_⟩
  · refine ⟨_, _, _, _, hv, m_less H', ?_⟩
    refine lessAt_spec H' (by omega) (by omega) (by omega) (by omega) fun h2 x2 => ⟨_, rfl, ?_⟩
    have H2 := H'.ext x2
    have o2 : Only (In A) h h2 := o.trans (Only.of_ext x2)
    have e1 : (2 * s + 1).toNat = 2 * s.toNat + 1 := by omega
    have e2 : (2 * s + 1 + 1).toNat = 2 * s.toNat + 2 := by omega
    rw [e1, e2]
    cases hb : bf (hget L' (2 * s.toNat + 1)) (hget L' (2 * s.toNat + 2)) with
    | true =>
      refine If.yes (key _ h2 (by omega) (by omega) (by omega) H2 o2 fun k hk hl hpk => ?_)
      rw [e2]
      have : k = 2 * s.toNat + 1 ∨ k = 2 * s.toNat + 2 := by omega
      rcases this with rfl | rfl
      · exact bf_asymm hb
      · exact bf_irrefl _
    | false =>
      refine If.no (key _ h2 (by omega) (by omega) (by omega) H2 o2 fun k hk hl hpk => ?_)
      rw [e1]
      have : k = 2 * s.toNat + 1 ∨ k = 2 * s.toNat + 2 := by omega
      rcases this with rfl | rfl
      · exact bf_irrefl _
      · exact hb
  · refine key _ hh (by omega) (by omega) (by omega) H' o fun k hk hl hpk => ?_
    have e1 : (2 * s + 1).toNat = 2 * s.toNat + 1 := by omega
    rw [e1]
    have : k = 2 * s.toNat + 1 := by omega
    subst this
    exact bf_irrefl _

theorem Only.in_of {A : Sl} {h h' : Heap} (o : Only (In A) h h') : Only (fun i => i = b ∨ In A i) h h' := o.mono fun _ hi => .inr hi

/-- heap.Push. -/
theorem hpush_spec (H : HL h b A L most quota) (hh : HeapFrom 0 L) (hl : L.length < 900) {v : One} (hv : v.v = .iface 116 (TV.ptr (some ⟨b, 0⟩)).val) (x : It) {u : One} (hu : u.v = .iface 83 x.tv.val)
    (hr : ∀ h' A' L', HL h' b A' L' most quota → L'.Perm (L ++ [x]) → HeapFrom 0 L' → Only (fun i => i = b ∨ In A i) h h' → (∀ i, In A' i → In A i ∨ h.size ≤ i) → R (TV.tup []).val h') : CallsH Tryz.prog 68 (TVs.vals [.one v, .one u]) h R := by
  apply container_heap_Push_calls
  unfold container_heap_Push_vc
  refine ⟨_, _, _, _, hv, m_push, ?_⟩
  refine push_spec H x hl hu fun h1 A' H1 o1 n1 => ⟨rfl, ?_⟩
  refine ⟨_, _, _, _, hv, m_len H1, ?_⟩
  refine len_spec ⟨_, rfl, ?_⟩
  have e := H1.len
  rw [List.length_append, List.length_singleton] at e
  rw [← e, wrap_i64 (by omega) (by omega)]
  have ej : ((((L.length + 1 : Nat) : Int) - 1)).toNat = L.length := by omega
  refine up_spec H1 hv (by omega) (by simp; omega) ?_ fun h2 L' H2 hp hh2 o2 => ⟨rfl, ?_⟩
  · rw [ej]
    have g : ∀ k, k < L.length → hget (L ++ [x]) k = hget L k := fun k hk => by
      unfold hget
      rw [List.getD_eq_getElem?_getD, List.getD_eq_getElem?_getD, List.getElem?_append_left hk]
    refine ⟨fun k hk hkl hne => ?_, fun k hk hkl hpar h0 => ?_⟩
    · rw [List.length_append, List.length_singleton] at hkl
      rw [g k (by omega), g _ (by omega)]
      exact hh k hk (by omega) (Nat.zero_le _)
    · rw [List.length_append, List.length_singleton] at hkl
      omega
  · refine hr h2 A' L' H2 hp hh2 ?_ n1
    have hs := o1.size
    refine ⟨Nat.le_trans hs o2.size, fun i hi hn => ?_⟩
    rw [o2.same i (by omega) (fun hx => ?_), o1.same i hi hn]
    rcases n1 i hx with h9 | h9
    · exact hn (.inr h9)
    · omega

/-- heap.Fix at the top. -/
theorem hfix_spec (H : HL h b A L most quota) (h0 : 0 < L.length) (hD : DownInv 0 L 0) {v : One} (hv : v.v = .iface 116 (TV.ptr (some ⟨b, 0⟩)).val)
    (hr : ∀ h' L', HL h' b A L' most quota → L'.Perm L → HeapFrom 0 L' → Only (In A) h h' → R (TV.tup []).val h') : CallsH Tryz.prog 70 (TVs.vals [.one v, .int .i64 0]) h R := by
  apply container_heap_Fix_calls
  unfold container_heap_Fix_vc
  refine ⟨_, _, _, _, hv, m_len H, ?_⟩
  refine len_spec ⟨_, rfl, ?_⟩
  have e := H.len
  refine down_spec H hv (lo := 0) (by decide) (by omega) (by omega) (by decide) hD fun h1 L' r H1 hp hh o => ⟨_, rfl, ?_⟩
  cases r with
  | true => exact If.no (hr h1 L' H1 hp hh o)
  | false =>
    have hl := hp.length_eq
    refine If.yes (up_spec H1 hv (by decide) (by omega) ⟨fun k hk hkl _ => hh k hk hkl (Nat.zero_le _), fun k _ _ _ h9 => absurd h9 (by decide)⟩ fun h2 L2 H2 hp2 hh2 o2 => ⟨rfl, ?_⟩)
    exact hr h2 L2 H2 (hp2.trans hp) hh2 (o.trans o2)

/-- heap.Init. -/
theorem hinit_spec (H : HL h b A L most quota) {v : One} (hv : v.v = .iface 116 (TV.ptr (some ⟨b, 0⟩)).val)
    (hr : ∀ h' L', HL h' b A L' most quota → L'.Perm L → HeapFrom 0 L' → Only (In A) h h' → R (TV.tup []).val h') : CallsH Tryz.prog 73 (TVs.vals [.one v]) h R := by
  apply container_heap_Init_calls
  unfold container_heap_Init_vc
  refine ⟨_, _, _, _, hv, m_len H, ?_⟩
  refine len_spec ⟨_, rfl, by decide, ?_⟩
  have e := H.len
  have few := H.few
  rw [← e, tdiv2 _ (by omega), wrap_i64 (n := ((L.length : Int).toNat / 2 : Nat)) (by omega) (by omega), wrap_i64 (by omega) (by omega)]
  refine ⟨fun s hh => -1 ≤ s ∧ s < L.length ∧ ∃ L', HL hh b A L' most quota ∧ L'.Perm L ∧ HeapFrom (s + 1).toNat L' ∧ Only (In A) h hh, fun s _ => (s + 1).toNat, ⟨by omega, by omega, L, H, List.Perm.refl _, ?_, Only.refl _ _⟩, ?_⟩
  · intro k hk hl hlo
    omega
  rintro s hh ⟨s0, s1, L', H', hp, hH, o⟩
  have hl := hp.length_eq
  refine If.dec.2 ⟨fun hs => ?_, fun hs => ?_⟩
  · have es : (s + 1).toNat = s.toNat + 1 := by omega
    rw [es] at hH
    refine down_spec H' hv (lo := s.toNat) hs (by omega) (by omega) (Nat.le_refl _) (down_start hH) fun h1 L2 r H1 hp1 hh1 o1 => ⟨_, rfl, ?_⟩
    rw [wrap_i64 (by omega) (by omega)]
    have es2 : (s - 1 + 1).toNat = s.toNat := by omega
    exact ⟨⟨by omega, by omega, L2, H1, hp1.trans hp, by rw [es2]; exact hh1, o.trans o1⟩, by dsimp only; omega⟩
  · have es : (s + 1).toNat = 0 := by omega
    rw [es] at hH
    exact hr hh L' H' hp hH o

end
end Go.Proofs.YtldocdpdjdekiaaGreat.Pool
end

section
/- slices.SortFunc over a row of structs in memory: the kit's contract, in terms of heaps. -/
namespace Go.Vc
open Go Go.Proofs Go.Shelf Go.RowKit Go.Lib Go.Sort

theorem one_cell' {v : Value} (h : isOne v = true) : v.oneCell' = true := by
  cases v <;> first | rfl | (simp [isOne] at h)

theorem grow_of {w w' : World} (hs : SameEnv w w') (e : Ext w.heap w'.heap) : ∃ q os, w' = Go.Sort.grow (w.drewN q) os := by
  refine ⟨w'.drawn - w.drawn, w'.heap.extract w.heap.size, ?_⟩
  obtain ⟨hp, tp, dr, os, op⟩ := w'
  obtain ⟨hp0, tp0, dr0, os0, op0⟩ := w
  have h1 : os = os0 := hs.os
  have h2 : tp = tp0 := hs.tape
  have h3 : op = op0 := hs.output
  have h4 : dr0 ≤ dr := hs.drawn
  subst h1; subst h2; subst h3
  simp only [Go.Sort.grow, World.drewN]
  congr 1
  · apply Array.ext_getElem?
    intro i
    rw [Array.getElem?_append]
    have hz : hp0.size ≤ hp.size := e.size
    split
    · rename_i hi
      exact e.same i hi
    · rename_i hi
      rw [Array.getElem?_extract]
      split
      · rename_i hl
        congr 1
        omega
      · rename_i hl
        have : hp.size ≤ i := by
          rcases Nat.lt_or_ge i hp.size with h9 | h9
          · exfalso
            apply hl
            show i - hp0.size < min hp.size hp.size - hp0.size
            rw [Nat.min_self]
            omega
          · exact h9
        exact Array.getElem?_eq_none this
  · omega

section
variable {α : Type} [Inhabited α] {tv : α → TV} {k : Nat}

omit [Inhabited α] in
theorem map_size (hk : ∀ x, (tv x).size = k) (L : List α) : ∀ t ∈ L.map tv, t.size = k := fun t ht => by
  obtain ⟨x, _, rfl⟩ := List.mem_map.1 ht
  exact hk x

theorem flat_list (hk : ∀ x, (tv x).size = k) (L : List α) (j : Nat) (hj : j < L.length * k) : (TVs.cells (L.map tv))[j]? = some ((flatK (fun x => (tv x).cells) k L.toArray)[j]!) := by
  have k0 : 0 < k := Nat.pos_of_ne_zero (fun e => by rw [e, Nat.mul_zero] at hj; omega)
  rw [get_flatK _ _ _ _ (by simpa using hj)]
  have hd : j / k < L.length := (Nat.div_lt_iff_lt_mul k0).2 hj
  have hm : j % k < k := Nat.mod_lt _ k0
  have := TVs.cells_get (L.map tv) (j / k) (j % k) (tv L[j / k]) (map_size hk L) (by simp [hd]) hm
  rw [Nat.div_add_mod' j k] at this
  rw [this]
  have hl : j % k < (tv L[j / k]).cells.length := by rw [TV.cells_length, hk]; exact hm
  have e1 : (L.toArray)[j / k]! = L[j / k] := by simp [hd]
  rw [e1, List.getElem?_eq_getElem hl]
  simp [hl]

theorem holds_of {T : TypeId} {w : World} {L : List α} {b : Nat} {rest : List Value} (hk : ∀ x, (tv x).size = k) (hb : w.heap[b]? = some (row (TVs.cells (L.map tv) ++ rest) T)) :
    HoldsK (fun x => (tv x).cells) k w b 0 L.toArray := by
  intro j hj
  rw [size_flatK] at hj
  have hj' : j < L.length * k := by simpa using hj
  have hf := flat_list hk L j hj'
  have hl : j < (TVs.cells (L.map tv)).length := (List.getElem?_eq_some_iff.1 hf).1
  refine ⟨?_, ?_⟩
  · rw [cell?_eq]
    unfold cel
    rw [hb]
    simp only [row, Nat.zero_add]
    rw [List.getElem?_toArray, List.getElem?_append_left hl, hf]
    rfl
  · unfold World.frozen?
    rw [hb]
    simp [row]

theorem put_cells (hk : ∀ x, (tv x).size = k) (L L' : List α) (rest : List Value) (hl : L'.length = L.length) :
    putCells id 0 (flatK (fun x => (tv x).cells) k L'.toArray) (TVs.cells (L.map tv) ++ rest).toArray = (TVs.cells (L'.map tv) ++ rest).toArray := by
  have n1 := TVs.cells_uniform (L.map tv) (map_size hk L)
  have n2 := TVs.cells_uniform (L'.map tv) (map_size hk L')
  rw [List.length_map] at n1 n2
  apply Array.ext_getElem?
  intro i
  unfold putCells
  rw [Array.getElem?_mapIdx, List.getElem?_toArray, List.getElem?_toArray]
  simp only [Nat.zero_le, true_and, Nat.zero_add, Nat.sub_zero, size_flatK, id]
  have hsz : L'.toArray.size = L'.length := by simp
  rw [hsz]
  by_cases hi : i < L'.length * k
  · rw [List.getElem?_append_left (by rw [n1, ← hl]; exact hi), List.getElem?_append_left (by rw [n2]; exact hi), flat_list hk L' i hi, List.getElem?_eq_getElem (by rw [n1, ← hl]; exact hi)]
    simp [hi]
  · rw [List.getElem?_append_right (by rw [n1, ← hl]; omega), List.getElem?_append_right (by rw [n2]; omega), n1, n2, hl]
    have hi' : ¬ i < L.length * k := by rw [← hl]; exact hi
    simp [hi']

/-- slices.SortFunc over a row that stands for itself. -/
theorem sort_own {P : Program} {ρ : Ren} (Ls : SlLaysF0.n6 P ρ) {T : TypeId} (aE : ∀ w, (isAgg (ρ.t 24)).run P w = .ok true w) (zE : ∀ w, (Go.sizeOf (ρ.t 24)).run P w = .ok k w)
    (hk : ∀ x, (tv x).size = k) (hp : ∀ x, (tv x).plain = true) {cf : α → α → Int} (hO : SWO (ltOf cf)) {g : Nat} {cb : Array Value} (hent : EntP P g) {h : Heap}
    (hcmp : ∀ h' x y, CallsH P g ([.agg (tv x).cells.toArray, .agg (tv y).cells.toArray] ++ cb.toList) h' fun v h'' => v = .int .i64 (cf x y) ∧ Ext h' h'')
    {s : Sl} {L : List α} (o : Own T k h s (L.map tv)) (hlen : L.length < 1000000) {R : Value → Heap → Prop}
    (hr : ∀ (h' : Heap) (L' : List α), L'.Perm L → L'.Pairwise (fun x y => ltOf cf y x = false) → Own T k h' s (L'.map tv) → Only (In s) h h' → R (TV.tup []).val h') :
    CallsH P (ρ.f 6) [(TV.slice s).val, .func (.func g) #[] cb] h R := by
  have hl := o.len
  rw [List.length_map] at hl
  rcases o.row with hnil | ⟨b, rest, ha, hb, hrest⟩
  · intro w hw
    have h0 : L = [] := List.eq_nil_of_length_eq_zero (by rw [hl, hnil]; rfl)
    subst h0
    have := AnyF.slices_SortFunc_none Ls none 0 (.func (.func g) #[] cb) w
    rw [hnil]
    refine this.mono fun e w' => ?_
    rintro ⟨rfl, rfl⟩
    refine ⟨SameEnv.refl _, _, rfl, ?_⟩
    rw [hw]
    exact hr h [] (List.Perm.refl _) List.Pairwise.nil o (Only.refl _ _)
  · intro w hw
    subst hw
    have hH := holds_of hk hb
    have hblk : b < w.heap.size := row_lt hb
    have hC : CmpLays P g cb (fun x => (tv x).cells) k cf b 0 L.toArray.size w := by
      intro m os dk _ x y
      have hx := hcmp (sortWorldK (fun x => (tv x).cells) k w b 0 m dk os).heap x y (sortWorldK (fun x => (tv x).cells) k w b 0 m dk os) rfl
      have ea : ([Value.agg (tv x).cells.toArray, Value.agg (tv y).cells.toArray] ++ cb.toList).toArray = #[Value.agg (tv x).cells.toArray, Value.agg (tv y).cells.toArray] ++ cb := by apply Array.toList_inj.1; simp
      rw [ea] at hx
      refine hx.mono fun e w' => ?_
      rintro ⟨hs, v, rfl, rfl, hx⟩
      exact ⟨rfl, grow_of hs hx⟩
    have hs := AnyQ.slices_SortFunc Ls k aE zE (fun x => (tv x).cells) (fun x => by rw [TV.cells_length, hk]) (fun x v hv => one_cell' (TV.plain_cells _ (hp x) v hv)) cf hO g cb b 0 s.cap L.toArray w (fun args w => hent args w) hC hH hblk (by simp; omega)
    have e1 : (TV.slice s).val = .slice (some ⟨b, 0, none⟩) L.toArray.size s.cap := by
      simp only [TV.val, slVal, ha, Option.map_some, Vc.Loc.addr, List.size_toArray, hl]
    rw [e1]
    refine hs.mono fun e w' => ?_
    rintro ⟨rfl, d', n, os, hp', hsrt, rfl⟩
    have hsz : d'.size = L.length := by have := hp'.1; simpa using this
    have hperm : d'.toList.Perm L := by
      have := hp'.2.2
      have e2 : d'.extract 0 L.toArray.size = d' := by rw [Array.extract_eq_self_of_le (by simp [hsz])]
      have e3 : L.toArray.extract 0 L.toArray.size = L.toArray := by rw [Array.extract_eq_self_of_le (Nat.le_refl _)]
      rw [e2, e3] at this
      exact this
    have hheap : (sortWorldK (fun x => (tv x).cells) k w b 0 n d' os).heap = (w.heap.modify b (onCells (putCells id 0 (flatK (fun x => (tv x).cells) k d')))) ++ os := rfl
    have hd : d' = d'.toList.toArray := by simp
    have hb' : (sortWorldK (fun x => (tv x).cells) k w b 0 n d' os).heap[b]? = some (row (TVs.cells (d'.toList.map tv) ++ rest) T) := by
      rw [hheap, Array.getElem?_append_left (by simpa using hblk), Array.getElem?_modify, if_pos rfl, hb]
      simp only [Option.map_some, onCells, row]
      have hpc := put_cells (k := k) (tv := tv) hk L d'.toList rest (by simp [hsz])
      rw [← hd] at hpc
      rw [hpc]
    refine ⟨⟨rfl, rfl, rfl, Nat.le_add_right _ _⟩, _, rfl, ?_⟩
    refine hr _ d'.toList hperm ?_ ⟨map_size hk _, by simp [hsz, hl], o.cap, .inr ⟨b, rest, ha, hb', hrest⟩⟩ ⟨?_, fun i hi hn => ?_⟩
    · rw [List.pairwise_iff_getElem]
      intro i j hi hj hij
      have h1 : i < d'.size := by simpa using hi
      have h2 : j < d'.size := by simpa using hj
      have := hsrt i j (Nat.zero_le _) hij (by simpa [hsz] using h2)
      simpa [h1, h2] using this
    · rw [hheap]
      simp
    · rw [hheap, Array.getElem?_append_left (by simpa using hi), Array.getElem?_modify, if_neg (fun e => hn ⟨_, ha, e⟩)]
end

end Go.Vc
end

section
/-
  DERIVED: THE SHELF's CONTRACTS AT THIS DUMP, IN PLAIN WORDS (tools/lay-plain.mjs out of 'TryShelf.lean', which tools/lay-shelf.mjs wrote): THE SAME DECLARATIONS UNDER THE SAME NAMES: 'import', 'namespace', 'open', 'def', 'theorem' AND NOTHING ELSE: no command of the shelf's: FOR A HAND-IN. Each laying: the table of numbers ('.._ren') and one theorem, a field a fact of the dump's own or the kernel's comparison; each contract: ONE APPLICATION.
-/
namespace Go.Proofs
open Go.Shelf
def Tryz.sortIts_ren : Go.Shelf.Ren := ⟨fun | 6 => 90 | 15 => 109 | 14 => 108 | 28 => 122 | 29 => 123 | 20 => 114 | 21 => 115 | 22 => 116 | 23 => 117 | 24 => 118 | 25 => 119 | 26 => 120 | 27 => 121 | 46 => 127 | 47 => 128 | 48 => 129 | 49 => 130 | 50 => 131 | 57 => 133 | n => n, fun | 22 => 90 | 24 => 83 | 25 => 137 | 3 => 3 | 39 => 52 | 0 => 0 | 53 => 128 | 55 => 53 | 4 => 4 | 46 => 172 | 45 => 171 | 50 => 176 | 5 => 5 | 9 => 9 | 66 => 183 | 70 => 187 | 76 => 189 | 77 => 190 | n => n, fun | n => n⟩
theorem Tryz.sortIts : Go.Proofs.SlLaysF0.n6 Tryz.prog Tryz.sortIts_ren := {
  mixed := by kernel_rfl
  f6 := ⟨Tryz.f90.name, by decide, Tryz.func90.trans (congrArg some (by kernel_rfl))⟩
  f14 := ⟨Tryz.f108.name, by decide, Tryz.func108.trans (congrArg some (by kernel_rfl))⟩
  f15 := Tryz.func109.trans (congrArg some (by kernel_rfl))
  f20 := ⟨Tryz.f114.name, by decide, Tryz.func114.trans (congrArg some (by kernel_rfl))⟩
  f21 := ⟨Tryz.f115.name, by decide, Tryz.func115.trans (congrArg some (by kernel_rfl))⟩
  f22 := ⟨Tryz.f116.name, by decide, Tryz.func116.trans (congrArg some (by kernel_rfl))⟩
  f23 := ⟨Tryz.f117.name, by decide, Tryz.func117.trans (congrArg some (by kernel_rfl))⟩
  f24 := ⟨Tryz.f118.name, by decide, Tryz.func118.trans (congrArg some (by kernel_rfl))⟩
  f25 := ⟨Tryz.f119.name, by decide, Tryz.func119.trans (congrArg some (by kernel_rfl))⟩
  f26 := ⟨Tryz.f120.name, by decide, Tryz.func120.trans (congrArg some (by kernel_rfl))⟩
  f27 := ⟨Tryz.f121.name, by decide, Tryz.func121.trans (congrArg some (by kernel_rfl))⟩
  f28 := Tryz.func122.trans (congrArg some (by kernel_rfl))
  f29 := Tryz.func123.trans (congrArg some (by kernel_rfl))
  f46 := ⟨Tryz.f127.name, by decide, Tryz.func127.trans (congrArg some (by kernel_rfl))⟩
  f47 := Tryz.func128.trans (congrArg some (by kernel_rfl))
  f48 := Tryz.func129.trans (congrArg some (by kernel_rfl))
  f49 := ⟨Tryz.f130.name, by decide, Tryz.func130.trans (congrArg some (by kernel_rfl))⟩
  f50 := ⟨Tryz.f131.name, by decide, Tryz.func131.trans (congrArg some (by kernel_rfl))⟩
  f57 := ⟨Tryz.f133.name, by decide, Tryz.func133.trans (congrArg some (by kernel_rfl))⟩
  t0 := Tryz.underlying0
  a0 := Tryz.isAgg0
  z0 := Tryz.sizeOf0
  v0 := Tryz.zeroValue0
  t3 := Tryz.underlying3
  a3 := Tryz.isAgg3
  z3 := Tryz.sizeOf3
  v3 := Tryz.zeroValue3
  t4 := Tryz.underlying4
  a4 := Tryz.isAgg4
  z4 := Tryz.sizeOf4
  v4 := Tryz.zeroValue4
  t5 := Tryz.underlying5
  a5 := Tryz.isAgg5
  z5 := Tryz.sizeOf5
  v5 := Tryz.zeroValue5
  t9 := Tryz.underlying9
  a9 := Tryz.isAgg9
  z9 := Tryz.sizeOf9
  v9 := Tryz.zeroValue9
  t22 := Tryz.underlying90
  a22 := Tryz.isAgg90
  z22 := Tryz.sizeOf90
  v22 := Tryz.zeroValue90
  t25 := Tryz.underlying137
  a25 := Tryz.isAgg137
  z25 := Tryz.sizeOf137
  v25 := Tryz.zeroValue137
  t39 := Tryz.underlying52
  a39 := Tryz.isAgg52
  z39 := Tryz.sizeOf52
  v39 := Tryz.zeroValue52
  t45 := Tryz.underlying171
  a45 := Tryz.isAgg171
  z45 := Tryz.sizeOf171
  v45 := Tryz.zeroValue171
  t46 := Tryz.underlying172
  a46 := Tryz.isAgg172
  z46 := Tryz.sizeOf172
  v46 := Tryz.zeroValue172
  t50 := Tryz.underlying176
  a50 := Tryz.isAgg176
  z50 := Tryz.sizeOf176
  v50 := Tryz.zeroValue176
  t53 := Tryz.underlying128
  a53 := Tryz.isAgg128
  z53 := Tryz.sizeOf128
  v53 := Tryz.zeroValue128
  t55 := Tryz.underlying53
  a55 := Tryz.isAgg53
  z55 := Tryz.sizeOf53
  v55 := Tryz.zeroValue53
  t66 := Tryz.underlying183
  a66 := Tryz.isAgg183
  z66 := Tryz.sizeOf183
  v66 := Tryz.zeroValue183
  t70 := Tryz.underlying187
  a70 := Tryz.isAgg187
  z70 := Tryz.sizeOf187
  v70 := Tryz.zeroValue187
  t76 := Tryz.underlying189
  a76 := Tryz.isAgg189
  z76 := Tryz.sizeOf189
  v76 := Tryz.zeroValue189
  t77 := Tryz.underlying190
  a77 := Tryz.isAgg190
  z77 := Tryz.sizeOf190
  v77 := Tryz.zeroValue190 }
end Go.Proofs
end

section
/- A pool's items, in order: Clone, SortFunc, All; the pool as a row in order. -/
namespace Go.Proofs.YtldocdpdjdekiaaGreat.Pool
open Go Go.Vc
section
variable {R : Value → Heap → Prop} {h : Heap} {b : Nat} {A : Sl} {L : List It} {most quota : Int}

def cmpIt (x y : It) : Int := if bf x y = true then -1 else if bf y x = true then 1 else 0

theorem lt_cmp (x y : It) : Go.Proofs.ltOf cmpIt x y = bf x y := by
  unfold Go.Proofs.ltOf cmpIt
  cases h1 : bf x y with
  | true => simp
  | false =>
    cases h2 : bf y x <;> simp

theorem swo : Go.Sort.SWO (Go.Proofs.ltOf cmpIt) where
  irrefl x := by rw [lt_cmp]; exact bf_irrefl x
  trans x y z h k := by rw [lt_cmp] at *; exact bf_trans h k
  ntrans x y z h k := by rw [lt_cmp] at *; exact nb_trans h k

theorem cmp_spec {x y : It} (hr : ∀ h', Ext h h' → R (TV.int .i64 (cmpIt x y)).val h') : CallsH Tryz.prog 91 (TVs.vals [x.tv, y.tv]) h R := by
  apply pool_Pool_All_1_calls x.slot x.root x.peer x.fr x.text y.slot y.root y.peer y.fr y.text
  unfold pool_Pool_All_1_vc
  refine newTV_in fun h1 v1 x1 s1 => newTV_in fun h2 v2 x2 s2 => ?_
  have v1' := v1.ext x2
  have x12 := x1.trans x2
  refine v_it (x := x) v1' (v_it (x := y) v2 ?_)
  refine before_spec (x := x) (y := y) fun h3 x3 => ⟨_, rfl, ?_⟩
  unfold cmpIt at hr
  cases h1 : bf x y with
  | true => rw [h1] at hr; exact If.yes (hr h3 (x12.trans x3))
  | false =>
    rw [h1] at hr
    refine If.no (v_it (x := y) (v2.ext x3) (v_it (x := x) (v1'.ext x3) ?_))
    refine before_spec (x := y) (y := x) fun h4 x4 => ⟨_, rfl, ?_⟩
    cases h2 : bf y x with
    | true => rw [h2] at hr; exact If.yes (hr h4 ((x12.trans x3).trans x4))
    | false => rw [h2] at hr; exact If.no (hr h4 ((x12.trans x3).trans x4))

/-- What two rows of the same blocks have to do with each other. -/
def Fresh (h : Heap) (s : Sl) : Prop := ∀ l, s.a = some l → h.size ≤ l.b

theorem clone_spec {s : Sl} (e : Elems 67 h s (its L)) (hl : L.length < 1000)
    (hr : ∀ h' s', Own 83 67 h' s' (its L) → Ext h h' → Fresh h s' → R (TV.slice s').val h') : CallsH Tryz.prog 89 (TVs.vals [.slice s]) h R := by
  apply slices_Clone___pool_Item_pool_Item__calls
  unfold slices_Clone___pool_Item_pool_Item__vc
  have hel := e.len
  rw [List.length_map] at hel
  refine If.split (fun hn => ?_) (fun hn => ?_)
  · have : s.a = none := by simpa using hn
    have hL : its L = [] := e.nil this
    have := hr h Sl.nil (by rw [hL]; exact Own.nil _ 67 h) (Ext.refl _) (fun l hl => by cases hl)
    exact this
  · have o := Own.new (T := 83) (sz := 67) h [] (fun t ht => by cases ht)
    have e1 := Ext.push h (row (TVs.cells []) 83)
    refine appendN (C := ctx) (T := 83) (t := Sl.mk (some (Vc.Loc.mk h.size 0)) 0 0) size32 zsize32 (by rw [bytes32]; decide) (by decide) (by rw [bytes32]; simp only; omega) o (e.ext e1) (its_size L) (its_plain L) fun s' h1 o1 x1 _ b1 => ?_
    refine hr h1 s' (by simpa using o1) (e1.trans (x1 rfl)) fun l hl => ?_
    rcases b1 l hl with ⟨l', h9, h10⟩ | h9
    · cases h9
      have : h.size = l.b := h10
      omega
    · have := e1.size
      omega

theorem aE32 : ∀ w, (isAgg (Tryz.sortIts_ren.t 24)).run Tryz.prog w = .ok true w := fun w => by
  have hu : ∃ fs, Tryz.prog.underlying 83 = some (.struct fs) := by
    cases hd : (ctx.ti 83).d with
    | none => have : (ctx.ti 83).d.isSome = true := by kernel_rfl
              rw [hd] at this; cases this
    | some d =>
      have hd' := ctx_ok.d hd
      have hs : (match (ctx.ti 83).d with | some (.struct _) => true | _ => false) = true := by kernel_rfl
      rw [hd] at hs
      cases d <;> first | (exact ⟨_, hd'⟩) | cases hs
  obtain ⟨fs, hu⟩ := hu
  have := isAgg_run (P := Tryz.prog) (w := w) hu
  exact this

theorem zE32 : ∀ w, (sizeOf (Tryz.sortIts_ren.t 24)).run Tryz.prog w = .ok 67 w := fun w => by
  have := sizeRun (C := ctx) ctx_ok (t := 83) (by kernel_rfl) w
  rw [size32] at this
  exact this

theorem sortIts_spec {s : Sl} (o : Own 83 67 h s (its L)) (hl : L.length < 1000)
    (hr : ∀ h' L', L'.Perm L → L'.Pairwise (fun x y => bf y x = false) → Own 83 67 h' s (its L') → Only (In s) h h' → R (TV.tup []).val h') : CallsH Tryz.prog 90 (TVs.vals [.slice s, .fn (.func 91) [] []]) h R := by
  refine sort_own (tv := It.tv) (k := 67) (P := Tryz.prog) Tryz.sortIts (T := 83) aE32 zE32 It.size It.plain swo (g := 91) (cb := #[]) (ctx_ok.entP (by kernel_rfl)) (fun h' x y => ?_) o (by omega) (fun h' L' hp hs o' f => ?_)
  · exact cmp_spec (x := x) (y := y) fun h'' x'' => ⟨rfl, x''⟩
  · refine hr h' L' hp (hs.imp fun {x y} hx => ?_) o' f
    rw [lt_cmp] at hx
    exact hx

/-! ### The pool as a row in order -/

/-- A pool in memory: S are its items, in order. -/
structure PL (h : Heap) (b : Nat) (A : Sl) (S : List It) (most quota : Int) : Prop where
  srt : Srt S
  names : (S.map It.root).Nodup
  few : S.length < 800
  ex : ∃ L, HL h b A L most quota ∧ HeapFrom 0 L ∧ L.Perm S

def Mine (b : Nat) (A : Sl) (i : Nat) : Prop := i = b ∨ In A i

/-- What a pool's function leaves alone: all but the pool's own blocks. -/
structure Grown (b : Nat) (A : Sl) (h : Heap) (A' : Sl) (h' : Heap) : Prop where
  only : Only (Mine b A) h h'
  new : ∀ i, Mine b A' i → Mine b A i ∨ h.size ≤ i

theorem Grown.refl : Grown b A h A h := ⟨Only.refl _ _, fun _ hi => .inl hi⟩
theorem Grown.of_ext {h' : Heap} (x : Ext h h') : Grown b A h A h' := ⟨Only.of_ext x, fun _ hi => .inl hi⟩
theorem Grown.trans {A' A2 : Sl} {h' h2 : Heap} (g : Grown b A h A' h') (k : Grown b A' h' A2 h2) : Grown b A h A2 h2 := by
  have s1 := g.only.size
  refine ⟨⟨Nat.le_trans s1 k.only.size, fun i hi hn => ?_⟩, fun i hi => ?_⟩
  · rw [k.only.same i (Nat.lt_of_lt_of_le hi s1) (fun hx => ?_), g.only.same i hi hn]
    rcases g.new i hx with h9 | h9
    · exact hn h9
    · omega
  · rcases k.new i hi with h9 | h9
    · exact g.new i h9
    · exact .inr (Nat.le_trans s1 h9)

variable {S : List It}

theorem PL.ext {h' : Heap} (p : PL h b A S most quota) (x : Ext h h') : PL h' b A S most quota := by
  obtain ⟨h1, h2, h3, L, h4, h5⟩ := p
  exact ⟨h1, h2, h3, L, h4.ext x, h5⟩
theorem PL.only {h' : Heap} {Q : Nat → Prop} (p : PL h b A S most quota) (o : Only Q h h') (hq : ∀ i, Mine b A i → ¬ Q i) : PL h' b A S most quota := by
  obtain ⟨h1, h2, h3, L, h4, h5⟩ := p
  exact ⟨h1, h2, h3, L, h4.only o (hq b (.inl rfl)) (fun i hi => hq i (.inr hi)), h5⟩
theorem PL.lt (p : PL h b A S most quota) {i : Nat} (hi : Mine b A i) : i < h.size := by
  obtain ⟨_, _, _, L, h4, _⟩ := p
  rcases hi with rfl | ⟨l, hl, rfl⟩
  · exact h4.var.lt
  · exact h4.own.lt l hl

theorem nodup_perm {L S : List It} (hp : L.Perm S) (hn : (S.map It.root).Nodup) : (L.map It.root).Nodup := (hp.map _).nodup_iff.2 hn

/-- In order, of items each of another name. -/
theorem srt_of {L : List It} (hp : L.Pairwise fun x y => bf y x = false) (hn : (L.map It.root).Nodup) : Srt L := by
  unfold Srt
  have hn' : L.Pairwise fun x y => x.root ≠ y.root := List.pairwise_map.1 hn
  refine (hp.and hn').imp fun {x y} hx => ?_
  rcases bf_total (x := x) (y := y) (fun e => hx.2 e.2) with h1 | h1
  · exact h1
  · rw [hx.1] at h1; cases h1

theorem all_spec (p : PL h b A S most quota) (hr : ∀ h' s', Own 83 67 h' s' (its S) → Ext h h' → Fresh h s' → R (TV.slice s').val h') : CallsH Tryz.prog 59 (TVs.vals [.ptr (some ⟨b, 0⟩)]) h R := by
  apply pool_Pool_All_calls
  unfold pool_Pool_All_vc
  obtain ⟨hs, hn, hf, L, H, hh, hp⟩ := p
  refine If.no ⟨A, H.var.at1 rfl, ?_⟩
  have hl := hp.length_eq
  refine clone_spec H.own.elems H.few fun h1 s1 o1 x1 f1 => ⟨s1, rfl, ?_⟩
  refine sortIts_spec o1 H.few fun h2 L' hp' hs' o2 f2 => ⟨rfl, ?_⟩
  have hpp := hp'.trans hp
  have : L' = S := srt_unique (srt_of hs' (nodup_perm hpp hn)) hs hpp
  subst this
  refine hr h2 s1 o2 (Only.cut x1 f2 fun i ⟨l, hl, e⟩ => ?_) f1
  have := f1 l hl
  omega

theorem all_nil (hr : R (TV.slice Sl.nil).val h) : CallsH Tryz.prog 59 (TVs.vals [.ptr none]) h R := by
  apply pool_Pool_All_calls
  unfold pool_Pool_All_vc
  exact If.yes hr

end
end Go.Proofs.YtldocdpdjdekiaaGreat.Pool
end

section
/- What a pool's functions do: Has, Of, Len, New, Put. -/
namespace Go.Proofs.YtldocdpdjdekiaaGreat.Pool
open Go Go.Vc
section
variable {R : Value → Heap → Prop} {h : Heap} {b : Nat} {A : Sl} {L S : List It} {most quota : Int}

theorem nn_some {α : Type} {K : α → Prop} {x : α} (h : K x) : Nn (some x) K := h

/-! ### What is told of a row in order -/

def has (r : Bs 32) (S : List It) : Bool := S.any fun x => decide (x.root = r)
def cnt (k : Int) (S : List It) : Nat := S.countP fun x => decide (x.peer = k)

/-- What Put answers, who gives way, and the items behind it. -/
def putS (most quota : Int) (x : It) (S : List It) : Int × It × List It :=
  if has x.root S = true then (9, It.zero, S)
  else if quota ≤ (cnt x.peer S : Int) then (11, It.zero, S)
  else if (S.length : Int) < most then (1, It.zero, insIt x S)
  else match S.getLast? with
    | none => (12, It.zero, S)
    | some y => if bf x y = true then (2, y, insIt x S.dropLast) else (12, It.zero, S)

/-! ### A function value that tells of an item -/

structure Tells (h : Heap) (f : One) (pred : It → Bool) : Prop where
  ex : ∃ g first cap, f.v = .func (.func g) first cap ∧ EntP Tryz.prog g ∧
    ∀ h' x (R' : Value → Heap → Prop), Ext h h' → (∀ h'', Ext h' h'' → R' (TV.bool (pred x)).val h'') → CallsH Tryz.prog g (List.append (List.append first.toList (TVs.vals [x.tv])) cap.toList) h' R'

theorem Tells.ext {h' : Heap} {f : One} {pred : It → Bool} (t : Tells h f pred) (x : Ext h h') : Tells h' f pred := by
  obtain ⟨g, first, cap, h1, h2, h3⟩ := t.ex
  exact ⟨g, first, cap, h1, h2, fun h'' y R' x' => h3 h'' y R' (x.trans x')⟩

theorem index_spec {s : Sl} {f : One} {pred : It → Bool} (e : Elems 67 h s (its L)) (hl : L.length < 1000) (t : Tells h f pred)
    (hr : ∀ h' n, Ext h h' → decide (0 ≤ n) = L.any pred → R (TV.int .i64 n).val h') : CallsH Tryz.prog 102 (TVs.vals [.slice s, .one f]) h R := by
  apply slices_IndexFunc_pool_last_pool_Item__calls
  unfold slices_IndexFunc_pool_last_pool_Item__vc
  have hel := e.len
  rw [List.length_map] at hel
  refine ⟨fun s hh => 0 ≤ s.2 ∧ s.2 ≤ L.length ∧ Ext h hh ∧ (L.take s.2.toNat).any pred = false, fun s _ => ((L.length : Int) - s.2).toNat, ⟨Int.le_refl _, Int.natCast_nonneg _, Ext.refl _, rfl⟩, ?_⟩
  rintro ⟨x0, i⟩ hh ⟨i0, i1, x, ha⟩
  simp only at i0 i1 ha ⊢
  refine If.dec.2 ⟨fun hi => ?_, fun hi => ?_⟩
  · refine its_at (e.ext x) i0 (by omega) fun l y _ hy => ?_
    obtain ⟨g, first, cap, h1, h2, h3⟩ := t.ex
    refine ⟨g, first, cap, h1, h2, h3 hh y _ x fun h'' x'' => ⟨_, rfl, ?_⟩⟩
    have hi' : (i + 1).toNat = i.toNat + 1 := by omega
    cases hp : pred y with
    | true =>
      refine If.yes (hr _ _ (x.trans x'') ?_)
      rw [decide_eq_true i0]
      exact (List.any_eq_true.2 ⟨y, List.mem_of_getElem? hy, hp⟩).symm
    | false =>
      refine If.no ?_
      rw [wrap_i64 (n := i + 1) (by omega) (by omega)]
      refine ⟨⟨by omega, by omega, x.trans x'', ?_⟩, by first | omega | (dsimp only; omega)⟩
      rw [hi', List.take_add_one, hy, List.any_append, ha]
      simp [hp]
  · have : i.toNat = L.length := by omega
    rw [this, List.take_length] at ha
    refine hr _ _ x ?_
    rw [ha]
    rfl

theorem contains_spec {s : Sl} {f : One} {pred : It → Bool} (e : Elems 67 h s (its L)) (hl : L.length < 1000) (t : Tells h f pred)
    (hr : ∀ h', Ext h h' → R (TV.bool (L.any pred)).val h') : CallsH Tryz.prog 74 (TVs.vals [.slice s, .one f]) h R := by
  apply slices_ContainsFunc_pool_last_pool_Item__calls
  unfold slices_ContainsFunc_pool_last_pool_Item__vc
  refine index_spec e hl t fun h' n x hn => ⟨n, rfl, ?_⟩
  rw [hn]
  exact hr h' x

theorem has1_spec {x : It} {T : TypeId} {c : Nat} {r : Bs 32} (v : Var T h c (.bytes 32 r)) (hr : ∀ h', Ext h h' → R (TV.bool (decide (x.root = r))).val h') : CallsH Tryz.prog 75 (TVs.vals [x.tv, .ptr (some ⟨c, 0⟩)]) h R := by
  apply pool_Pool_Has_1_calls x.slot x.root x.peer x.fr x.text
  unfold pool_Pool_Has_1_vc
  refine newTV_in fun h1 v1 x1 s1 => ?_
  refine ⟨x.root, v_root (x := x) v1, r, (v.ext x1).bytes, ?_⟩
  have : decide (x.root.1 = r.1) = decide (x.root = r) := decide_eq_decide.2 ⟨fun e => Bs.ext' e, fun e => by rw [e]⟩
  rw [this]
  exact hr h1 x1

theorem has_spec (p : PL h b A S most quota) {r : Bs 32} (hr : ∀ h', Ext h h' → R (TV.bool (has r S)).val h') : CallsH Tryz.prog 44 (TVs.vals [.ptr (some ⟨b, 0⟩), .bytes 32 r]) h R := by
  apply pool_Pool_Has_calls
  unfold pool_Pool_Has_vc
  refine newTV_in fun h1 v1 x1 s1 => ?_
  obtain ⟨hs, hn, hf, L, H, hh, hp⟩ := p.ext x1
  refine If.yes ⟨A, H.var.at1 rfl, ?_⟩
  refine contains_spec (f := ⟨(TV.fn (.func 75) [] [.ptr (some ⟨h.size, 0⟩)]).val, rfl⟩) (pred := fun x => decide (x.root = r)) H.own.elems H.few ⟨75, #[], #[(TV.ptr (some ⟨h.size, 0⟩)).val], rfl, ctx_ok.entP (by kernel_rfl), fun h' x R' x' hr' => ?_⟩ fun h' x' => ⟨_, rfl, ?_⟩
  · exact has1_spec (x := x) (v1.ext x') hr'
  · have : L.any (fun x => decide (x.root = r)) = has r S := by
      unfold has
      cases h9 : S.any fun x => decide (x.root = r) with
      | true =>
        obtain ⟨x, hx, hx'⟩ := List.any_eq_true.1 h9
        exact List.any_eq_true.2 ⟨x, hp.mem_iff.2 hx, hx'⟩
      | false =>
        rw [List.any_eq_false] at h9 ⊢
        exact fun x hx => h9 x (hp.mem_iff.1 hx)
    rw [this]
    exact hr h' (x1.trans x')

theorem has_nil {r : Bs 32} (hr : ∀ h', Ext h h' → R (TV.bool false).val h') : CallsH Tryz.prog 44 (TVs.vals [.ptr none, .bytes 32 r]) h R := by
  apply pool_Pool_Has_calls
  unfold pool_Pool_Has_vc
  refine newTV_in fun h1 v1 x1 s1 => ?_
  exact If.no (hr h1 x1)

theorem lenP_spec (p : PL h b A S most quota) (hr : R (TV.int .i64 (S.length : Int)).val h) : CallsH Tryz.prog 45 (TVs.vals [.ptr (some ⟨b, 0⟩)]) h R := by
  apply pool_Pool_Len_calls
  unfold pool_Pool_Len_vc
  obtain ⟨hs, hn, hf, L, H, hh, hp⟩ := p
  refine If.no ⟨A, H.var.at1 rfl, len_spec ⟨_, rfl, ?_⟩⟩
  rw [← H.len, hp.length_eq]
  exact hr

theorem lenP_nil (hr : R (TV.int .i64 0).val h) : CallsH Tryz.prog 45 (TVs.vals [.ptr none]) h R := by
  apply pool_Pool_Len_calls
  exact If.yes hr

theorem cnt_take {i : Nat} {x : It} (k : Int) (hx : S[i]? = some x) : cnt k (S.take (i + 1)) = cnt k (S.take i) + if x.peer = k then 1 else 0 := by
  unfold cnt
  rw [List.take_add_one, hx, List.countP_append]
  simp [List.countP_cons]

theorem of_spec (p : PL h b A S most quota) {k : Int} (hr : ∀ h', Ext h h' → R (TV.int .i64 (cnt k S : Int)).val h') : CallsH Tryz.prog 67 (TVs.vals [.ptr (some ⟨b, 0⟩), .int .i64 k]) h R := by
  apply pool_Pool_Of_calls
  unfold pool_Pool_Of_vc
  have few := p.few
  refine all_spec p fun h1 s1 o1 x1 _ => ⟨s1, rfl, ?_⟩
  have hel := o1.len
  rw [List.length_map] at hel
  refine ⟨fun s hh => 0 ≤ s.2 ∧ s.2 ≤ S.length ∧ Ext h1 hh ∧ s.1 = (cnt k (S.take s.2.toNat) : Int), fun s _ => ((S.length : Int) - s.2).toNat, ⟨Int.le_refl _, Int.natCast_nonneg _, Ext.refl _, rfl⟩, ?_⟩
  rintro ⟨n, i⟩ hh ⟨i0, i1, x, hn⟩
  simp only at i0 i1 hn ⊢
  refine If.dec.2 ⟨fun hi => ?_, fun hi => ?_⟩
  · refine its_at (o1.elems.ext x) i0 (by omega) fun l y _ hy => ?_
    refine newTV_in fun h2 v2 x2 s2 => ?_
    refine put_in v2 (t := y.tv) rfl fun h3 v3 o3 s3 => ?_
    have x23 : Ext hh h3 := Only.cut x2 o3 fun j hj => by omega
    refine ⟨y.peer, v_peer v3, ?_⟩
    have hi' : (i + 1).toNat = i.toNat + 1 := by omega
    have hc := cnt_take k hy
    have hcl : cnt k (S.take i.toNat) ≤ S.length := by
      unfold cnt
      exact Nat.le_trans List.countP_le_length (by rw [List.length_take]; omega)
    rw [wrap_i64 (n := i + 1) (by omega) (by omega)]
    refine If.dec.2 ⟨fun he => ?_, fun he => ?_⟩
    · rw [if_pos he] at hc
      rw [wrap_i64 (n := n + 1) (by omega) (by omega)]
      exact ⟨⟨by omega, by omega, x.trans x23, by rw [hi', hc]; first | omega | (dsimp only; omega)⟩, by first | omega | (dsimp only; omega)⟩
    · rw [if_neg he] at hc
      exact ⟨⟨by omega, by omega, x.trans x23, by rw [hi', hc]; first | omega | (dsimp only; omega)⟩, by first | omega | (dsimp only; omega)⟩
  · have : i.toNat = S.length := by omega
    rw [this, List.take_length] at hn
    rw [hn]
    exact hr _ (x1.trans x)

theorem of_nil {k : Int} (hr : ∀ h', Ext h h' → R (TV.int .i64 0).val h') : CallsH Tryz.prog 67 (TVs.vals [.ptr none, .int .i64 k]) h R := by
  apply pool_Pool_Of_calls
  unfold pool_Pool_Of_vc
  refine all_nil ⟨_, rfl, ?_⟩
  refine ⟨fun s hh => s = (0, 0) ∧ hh = h, fun _ _ => 0, ⟨rfl, rfl⟩, ?_⟩
  rintro s hh ⟨rfl, rfl⟩
  exact If.no (hr _ (Ext.refl _))

/-- New: a pool without items. -/
theorem new_spec {q : Int} (hr0 : ¬ (1 ≤ most ∧ most ≤ 64 ∧ 1 ≤ q ∧ q ≤ 64) → R (TV.ptr none).val h)
    (hr1 : (1 ≤ most ∧ most ≤ 64 ∧ 1 ≤ q ∧ q ≤ 64) → ∀ h', PL h' h.size Sl.nil [] most q → Ext h h' → h'.size = h.size + 1 → R (TV.ptr (some ⟨h.size, 0⟩)).val h') : CallsH Tryz.prog 46 (TVs.vals [.int .i64 most, .int .i64 q]) h R := by
  apply pool_New_calls
  unfold pool_New_vc
  refine If.dec.2 ⟨fun h1 => hr0 (by omega), fun h1 => If.dec.2 ⟨fun h2 => hr0 (by omega), fun h2 => If.dec.2 ⟨fun h3 => hr0 (by omega), fun h3 => If.dec.2 ⟨fun h4 => hr0 (by omega), fun h4 => ?_⟩⟩⟩⟩
  refine newTV_in fun h1 v1 x1 s1 => hr1 (by omega) h1 ⟨List.Pairwise.nil, List.nodup_nil, by decide, [], ⟨v1, Own.nil _ 67 h1, fun ⟨l, hl, _⟩ => (by cases hl), by decide⟩, fun k _ hk => (by simp at hk), List.Perm.refl _⟩ x1 s1

/-! ### Put -/

theorem has_false {r : Bs 32} (h : has r S = false) : ∀ y ∈ S, r ≠ y.root := fun y hy e => by
  have := List.any_eq_false.1 h y hy
  simp [e] at this

theorem names_ins {x : It} (hn : (S.map It.root).Nodup) (h : has x.root S = false) : ((insIt x S).map It.root).Nodup := by
  have hp := (insIt_perm x S).map It.root
  rw [hp.nodup_iff, List.map_cons, List.nodup_cons]
  refine ⟨fun hm => ?_, hn⟩
  obtain ⟨y, hy, e⟩ := List.mem_map.1 hm
  exact has_false h y hy e.symm

theorem dropLast_facts {y : It} (hs : Srt S) (hn : (S.map It.root).Nodup) (hl : S.getLast? = some y) {x : It} (hx : has x.root S = false) :
    Srt S.dropLast ∧ (S.dropLast.map It.root).Nodup ∧ has x.root S.dropLast = false ∧ S.Perm (y :: S.dropLast) ∧ S.dropLast.length + 1 = S.length := by
  have hne : S ≠ [] := fun e => by rw [e] at hl; cases hl
  have hd := List.dropLast_concat_getLast hne
  have hy : S.getLast hne = y := by rw [List.getLast?_eq_some_getLast hne] at hl; exact Option.some.inj hl
  rw [hy] at hd
  have hsub : S.dropLast.Sublist S := List.dropLast_sublist S
  refine ⟨hs.sublist hsub, hn.sublist (hsub.map _), ?_, ?_, ?_⟩
  · refine List.any_eq_false.2 fun z hz => ?_
    have := has_false hx z (hsub.mem hz)
    simpa using fun e => this e.symm
  · have hp := List.perm_append_comm (l₁ := S.dropLast) (l₂ := [y])
    rw [hd] at hp
    exact hp
  · have := congrArg List.length hd
    simpa using this

theorem down_set {x : It} (hh : HeapFrom 0 L) : DownInv 0 (L.set 0 x) 0 := by
  have g : ∀ k, 0 < k → hget (L.set 0 x) k = hget L k := fun k hk => by
    unfold hget
    rw [List.getD_eq_getElem?_getD, List.getD_eq_getElem?_getD, List.getElem?_set_ne (by omega)]
  refine ⟨fun k hk hl hlo hne => ?_, fun k _ _ _ h0 => absurd h0 (by decide)⟩
  rw [List.length_set] at hl
  rw [g k hk, g _ (by omega)]
  exact hh k hk hl (Nat.zero_le _)

theorem set_perm {x y : It} {S' : List It} (h0 : 0 < L.length) (hy : hget L 0 = y) (hp : L.Perm (y :: S')) : (L.set 0 x).Perm (x :: S') := by
  cases L with
  | nil => simp at h0
  | cons z zs =>
    have : z = y := hy
    subst this
    exact (List.Perm.cons_inv hp).cons x

theorem put_spec (p : PL h b A S most quota) (x : It) (hm : 1 ≤ most) (hmm : most ≤ 64) (hlen : (S.length : Int) ≤ most)
    (hr : ∀ h' A', PL h' b A' (putS most quota x S).2.2 most quota → Grown b A h A' h' → R (TV.tup [.int .i64 (putS most quota x S).1, (putS most quota x S).2.1.tv]).val h') :
    CallsH Tryz.prog 40 (TVs.vals [.ptr (some ⟨b, 0⟩), x.tv]) h R := by
  apply pool_Pool_Put_calls (some ⟨b, 0⟩) x.slot x.root x.peer x.fr x.text
  unfold pool_Pool_Put_vc
  refine newTV_in fun h1 v1 x1 s1 => newTV_in fun h2 v2 x2 s2 => ?_
  have v1' := v1.ext x2
  have x12 := x1.trans x2
  have p2 := p.ext x12
  have hlt : ∀ i, Mine b A i → i < h.size := fun i hi => p.lt hi
  -- an answer without anything that gives way
  have plainR : ∀ (h3 : Heap) (A' : Sl) (v : Int) (S' : List It), Var 83 h3 h1.size It.zero.tv → PL h3 b A' S' most quota → Grown b A h A' h3 → (∀ i, Mine b A' i → i ≠ h1.size) → putS most quota x S = (v, It.zero, S') →
      wok h3 h1.size 0 67 ∧ Bind (TV.put h3 h1.size 0 It.zero.tv) fun (h : Heap) =>
        ∃ (n : Int), ∃ (c : Bs 32), ∃ (n1 : Int), ∃ (c1 : Bs 32), ∃ (s : List UInt8), (at1 h h1.size 0 (.int .i64 n) ∧ atBytes h h1.size 1 32 c ∧ at1 h h1.size 33 (.int .i64 n1) ∧ atBytes h h1.size 34 32 c1 ∧ at1 h h1.size 66 (.string (ByteArray.mk (List.toArray s)))) ∧
          R (TV.tup [.int .i64 v, .agg [.int .i64 n, .bytes 32 c, .int .i64 n1, .bytes 32 c1, .str s]]).val h := by
    intro h3 A' v S' v3 p3 g3 hne he
    refine put_in v3 (t := It.zero.tv) rfl fun h4 v4 o4 s4 => v_it (x := It.zero) v4 ?_
    have := hr h4 A' (by rw [he]; exact p3.only o4 hne) ⟨⟨Nat.le_trans g3.only.size o4.size, fun i hi hn => ?_⟩, g3.new⟩
    · rw [he] at this
      exact this
    · rw [o4.same i (by have := g3.only.size; omega) (by omega), g3.only.same i hi hn]
  have ne2 : ∀ i, Mine b A i → i ≠ h1.size := fun i hi => by have := hlt i hi; omega
  refine If.no ⟨x.root, v_root (x := x) v1', ?_⟩
  refine has_spec p2 fun h3 x3 => ⟨_, rfl, ?_⟩
  have x13 := x12.trans x3
  have p3 := p2.ext x3
  cases hhas : has x.root S with
  | true =>
    refine If.yes (plainR h3 A 9 S (v2.ext x3) p3 (.of_ext x13) ne2 ?_)
    unfold putS
    rw [if_pos hhas]
  | false =>
    obtain ⟨_, _, _, L3, H3, _, _⟩ := p3
    refine If.no ⟨x.peer, v_peer (x := x) (v1'.ext x3), quota, H3.var.at1 rfl, ?_⟩
    have p3 := p2.ext x3
    refine of_spec p3 fun h4 x4 => ⟨_, rfl, x4, ?_⟩
    have x14 := x13.trans x4
    have p4 := p3.ext x4
    refine If.dec.2 ⟨fun hq => ?_, fun hq => ?_⟩
    · refine plainR h4 A 11 S ((v2.ext x3).ext x4) p4 (.of_ext x14) ne2 ?_
      unfold putS
      rw [if_neg (by rw [hhas]; decide), if_pos hq]
    · obtain ⟨_, _, _, L4, H4, hh4, hp4⟩ := p4
      refine ⟨most, H4.var.at1 rfl, ?_⟩
      have p4 := p3.ext x4
      refine lenP_spec p4 ⟨_, rfl, Ext.refl _, ?_⟩
      have v1x : Var 83 h4 h.size x.tv := (v1'.ext x3).ext x4
      have v2x := (v2.ext x3).ext x4
      have hl4 := hp4.length_eq
      refine If.dec.2 ⟨fun hroom => ?_, fun hfull => ?_⟩
      · refine v_it (x := x) v1x ?_
        refine hpush_spec H4 hh4 (by have := p.few; omega) (v := ⟨.iface 116 (TV.ptr (some ⟨b, 0⟩)).val, rfl⟩) rfl x (u := ⟨.iface 83 x.tv.val, rfl⟩) rfl fun h5 A5 L5 H5 hp5 hh5 o5 n5 => ⟨rfl, ?_⟩
        have hpS : L5.Perm (insIt x S) := (hp5.trans ((hp4.append_right [x]).trans (List.perm_append_comm.trans (List.Perm.refl _)))).trans (insIt_perm x S).symm
        have p5 : PL h5 b A5 (insIt x S) most quota := ⟨insIt_srt p.srt (has_false hhas), names_ins p.names hhas, by rw [(insIt_perm x S).length_eq, List.length_cons]; have := p.few; omega, L5, H5, hh5, hpS⟩
        have hs4 := x14.size
        have new5 : ∀ i, Mine b A5 i → Mine b A i ∨ h4.size ≤ i := fun i hi => by
          rcases hi with e | hi
          · exact .inl (.inl e)
          · rcases n5 i hi with h9 | h9
            · exact .inl (.inr h9)
            · exact .inr h9
        have s2' := x3.size
        have s3' := x4.size
        refine plainR h5 A5 1 (insIt x S) (v2x.only o5 (fun hx => ne2 h1.size hx rfl)) p5 (Grown.trans (.of_ext x14) ⟨o5, new5⟩) (fun i hi => ?_) ?_
        · rcases new5 i hi with h9 | h9
          · exact ne2 i h9
          · omega
        · unfold putS
          rw [if_neg (by rw [hhas]; decide), if_neg hq, if_pos hroom]
      · have hSlen : (S.length : Int) = most := by omega
        have hL0 : 0 < L4.length := by omega
        have hlast := heap_last hh4 hp4 p.srt hL0
        have hA := H4.len
        refine v_it (x := x) v1x ⟨A, H4.var.at1 rfl, ?_⟩
        refine its_at (i := 0) H4.own.elems (by decide) (by omega) fun l y _ hy => ?_
        have ey : y = hget L4 0 := hget_eq hy
        refine before_spec (x := x) (y := y) fun h5 x5 => ⟨_, rfl, ?_⟩
        have x15 := x14.trans x5
        have p5 := p4.ext x5
        have H5 := H4.ext x5
        have hput : putS most quota x S = if bf x y = true then (2, y, insIt x S.dropLast) else (12, It.zero, S) := by
          unfold putS
          rw [if_neg (by rw [hhas]; decide), if_neg hq, if_neg hfull, hlast, ← ey]
        cases hb : bf x y with
        | false =>
          rw [hb] at hput
          exact If.yes (plainR h5 A 12 S (v2x.ext x5) p5 (.of_ext x15) ne2 hput)
        | true =>
          rw [hb, if_pos rfl] at hput
          refine If.no ⟨A, H5.var.at1 rfl, ?_⟩
          refine its_at (i := 0) H5.own.elems (by decide) (by omega) fun l2 y2 _ hy2 => ?_
          have ey2 : y2 = y := (hget_eq hy2).trans ey.symm
          subst ey2
          refine newTV_in fun h6 v6 x6 s6 => ?_
          refine put_in v6 (t := y2.tv) rfl fun h7 v7 o7 s7 => ?_
          have x57 : Ext h5 h7 := Only.cut x6 o7 fun j hj => by omega
          have H7 := H5.ext x57
          refine ⟨A, H7.var.at1 rfl, ?_⟩
          have v1y : Var 83 h7 h.size x.tv := (v1x.ext x5).ext x57
          refine v_it (x := x) v1y ?_
          refine H7.own.put_in (i := 0) (t := x.tv) (by decide) (by simp; omega) rfl rfl fun h8 o8 f8 s8 => ?_
          have H8 : HL h8 b A (L4.set 0 x) most quota := ⟨H7.var.only f8 H7.apart, by rw [its_set]; exact o8, H7.apart, by rw [List.length_set]; exact H7.few⟩
          refine nn_some ?_
          refine hfix_spec H8 (by rw [List.length_set]; exact hL0) (down_set hh4) (v := ⟨.iface 116 (TV.ptr (some ⟨b, 0⟩)).val, rfl⟩) rfl fun h9 L9 H9 hp9 hh9 o9 => ⟨rfl, ?_⟩
          have hlA : ∀ i, In A i → i < h.size := fun i hi => hlt i (.inr hi)
          have s15 := x15.size
          have s57 := x57.size
          have s24 := x3.size
          have s44 := x4.size
          have s55 := x5.size
          have v9 : Var 83 h9 h5.size y2.tv := (v7.only f8 (fun hx => by have := hlA _ hx; omega)).only o9 (fun hx => by have := hlA _ hx; omega)
          have v29 : Var 83 h9 h1.size It.zero.tv := (((v2x.ext x5).ext x57).only f8 (fun hx => by have := hlA _ hx; omega)).only o9 (fun hx => by have := hlA _ hx; omega)
          refine v_it (x := y2) v9 ?_
          refine put_in v29 (t := y2.tv) rfl fun h10 v10 o10 s10 => v_it (x := y2) v10 ?_
          have hlast' : S.getLast? = some y2 := by rw [hlast, ← ey]
          obtain ⟨d1, d2, d3, d4, d5⟩ := dropLast_facts p.srt p.names hlast' hhas
          have hpS : L9.Perm (insIt x S.dropLast) := (hp9.trans (set_perm hL0 ey.symm (hp4.trans d4))).trans (insIt_perm x S.dropLast).symm
          have p9 : PL h9 b A (insIt x S.dropLast) most quota := ⟨insIt_srt d1 (has_false d3), names_ins d2 d3, by rw [(insIt_perm x _).length_eq, List.length_cons]; have := p.few; omega, L9, H9, hh9, hpS⟩
          have g9 : Grown b A h A h9 := Grown.trans (.of_ext (x15.trans x57)) ⟨(f8.trans o9).mono fun i hi => .inr hi, fun i hi => .inl hi⟩
          have := hr h10 A (by rw [hput]; exact p9.only o10 ne2) ⟨⟨Nat.le_trans g9.only.size o10.size, fun i hi hn => ?_⟩, g9.new⟩
          · rw [hput] at this
            exact this
          · rw [o10.same i (by have := g9.only.size; omega) (by omega), g9.only.same i hi hn]

theorem put_nil (x : It) (hr : ∀ h', Ext h h' → R (TV.tup [.int .i64 12, It.zero.tv]).val h') : CallsH Tryz.prog 40 (TVs.vals [.ptr none, x.tv]) h R := by
  apply pool_Pool_Put_calls none x.slot x.root x.peer x.fr x.text
  unfold pool_Pool_Put_vc
  refine newTV_in fun h1 v1 x1 s1 => newTV_in fun h2 v2 x2 s2 => ?_
  refine If.yes (put_in (t0 := It.zero.tv) v2 (t := It.zero.tv) rfl fun h3 v3 o3 s3 => v_it (x := It.zero) v3 ?_)
  exact hr h3 (x1.trans (Only.cut x2 o3 fun i hi => by omega))

end
end Go.Proofs.YtldocdpdjdekiaaGreat.Pool
end

section
/- The conditions of functions, as the generator reckons them out, each with the proof that it is that. -/
namespace Go.Proofs.YtldocdpdjdekiaaGreat
open Go Go.Vc
set_option maxRecDepth 100000
set_option linter.unusedVariables false

def tollerref10_Name_vc (n : Int) (h : Heap) (R : Value → Heap → Prop) : Prop :=
 Vc.Bind (newTV h (TV.bytes (32 : Nat) (Bs.zero (32 : Nat))) (24 : Nat)) fun (h_1 : Array Obj) ↦
 Vc.Bind (newTV h_1 (TV.bytes (32 : Nat) (Bs.zero (32 : Nat))) (24 : Nat)) fun (h_2 : Array Obj) ↦
 (0 : Int) ≤ (0 : Int) ∧
 (0 : Int) < (↑(32 : Nat) : Int) ∧
 wok h_2 (Array.size h_1) ((0 : Nat) + Int.toNat (0 : Int) * (1 : Nat)) (1 : Nat) ∧
 Vc.Bind (TV.put h_2 (Array.size h_1) ((0 : Nat) + Int.toNat (0 : Int) * (1 : Nat)) (TV.int IntKind.u8 (IntKind.wrap IntKind.u8 n)))
 fun (h_3 : Array Obj) ↦
 (0 : Int) ≤ (31 : Int) ∧
 (31 : Int) < (↑(32 : Nat) : Int) ∧
 wok h_3 (Array.size h_1) ((0 : Nat) + Int.toNat (31 : Int) * (1 : Nat)) (1 : Nat) ∧
 Vc.Bind
 (TV.put h_3 (Array.size h_1) ((0 : Nat) + Int.toNat (31 : Int) * (1 : Nat))
 (TV.int IntKind.u8 (IntKind.wrap IntKind.u8 (IntKind.wrap IntKind.i64 ((7 : Int) * n)))))
 fun (h_4 : Array Obj) ↦
 ∃ (b : Bs (32 : Nat)),
 atBytes h_4 (Array.size h_1) (0 : Nat) (32 : Nat) b ∧
 wok h_4 (Array.size h) (0 : Nat) (32 : Nat) ∧
 Vc.Bind (TV.put h_4 (Array.size h) (0 : Nat) (TV.bytes (32 : Nat) b)) fun (h_5 : Array Obj) ↦
 ∃ (b : Bs (32 : Nat)), atBytes h_5 (Array.size h) (0 : Nat) (32 : Nat) b ∧ R (TV.val (TV.bytes (32 : Nat) b)) h_5

theorem tollerref10_Name_calls (n : Int) (h : Heap) (R : Value → Heap → Prop) (H : tollerref10_Name_vc n h R) : CallsH Tryz.prog 31 (TVs.vals [TV.int IntKind.i64 n]) h R :=
 vcFn_sound (C := ctx) ctx_ok (fn := Tryz.f31) Tryz.func31 ((by kernel_rfl : tollerref10_Name_vc n h R = vcFn ctx Tryz.f31 [TV.int IntKind.i64 n] h R) ▸ H)


def pool_Pool_Take_vc (p : Option Go.Vc.Loc) (is : Vc.One) (h : Heap) (R : Value → Heap → Prop) : Prop :=
 If (Option.isNone p) (R (TV.val (TV.slice Sl.nil)) h)
 (CallsH Tryz.prog (59 : Nat) (TVs.vals [TV.ptr p]) h fun (v : Value) (h : Heap) ↦
 ∃ (s : Sl),
 v = TV.val (TV.slice s) ∧
 Go.Vc.Loop (Sl.mk none (0 : Nat) (0 : Nat), Sl.mk none (0 : Nat) (0 : Nat), (0 : Int)) h
 fun (s_1 : Sl × Sl × Int) (h : Array Obj) (K : Sl × Sl × Int → Array Obj → Prop) ↦
 If (decide (s_1.snd.snd < (↑s.len : Int)))
 ((0 : Int) ≤ s_1.snd.snd ∧
 s_1.snd.snd < (↑s.len : Int) ∧
 Nn s.a fun (l : Go.Vc.Loc) ↦
 ∃ (n : Int),
 ∃ (b : Bs (32 : Nat)),
 ∃ (n_1 : Int),
 ∃ (b_1 : Bs (32 : Nat)),
 ∃ (s_2 : List UInt8),
 (at1 h l.b (l.o + Int.toNat s_1.snd.snd * (67 : Nat)) (Value.int IntKind.i64 n) ∧
 atBytes h l.b (l.o + Int.toNat s_1.snd.snd * (67 : Nat) + (1 : Nat)) (32 : Nat) b ∧
 at1 h l.b (l.o + Int.toNat s_1.snd.snd * (67 : Nat) + (1 : Nat) + (32 : Nat)) (Value.int IntKind.i64 n_1) ∧
 atBytes h l.b (l.o + Int.toNat s_1.snd.snd * (67 : Nat) + (1 : Nat) + (32 : Nat) + (1 : Nat)) (32 : Nat) b_1 ∧
 at1 h l.b (l.o + Int.toNat s_1.snd.snd * (67 : Nat) + (1 : Nat) + (32 : Nat) + (1 : Nat) + (32 : Nat))
 (Value.string (ByteArray.mk (List.toArray s_2)))) ∧
 Vc.Bind
 (newTV h
 (TV.agg
 [TV.int IntKind.i64 (0 : Int), TV.bytes (32 : Nat) (Bs.zero (32 : Nat)), TV.int IntKind.i64 (0 : Int),
 TV.bytes (32 : Nat) (Bs.zero (32 : Nat)), TV.str []])
 (83 : Nat))
 fun (h_1 : Array Obj) ↦
 wok h_1 (Array.size h) (0 : Nat) (67 : Nat) ∧
 Vc.Bind
 (TV.put h_1 (Array.size h) (0 : Nat)
 (TV.agg [TV.int IntKind.i64 n, TV.bytes (32 : Nat) b, TV.int IntKind.i64 n_1, TV.bytes (32 : Nat) b_1, TV.str s_2]))
 fun (h_2 : Array Obj) ↦
 ∃ (n : Int),
 ∃ (b : Bs (32 : Nat)),
 ∃ (n_2 : Int),
 ∃ (b_2 : Bs (32 : Nat)),
 ∃ (s_3 : List UInt8),
 (at1 h_2 (Array.size h) (0 : Nat) (Value.int IntKind.i64 n) ∧
 atBytes h_2 (Array.size h) (1 : Nat) (32 : Nat) b ∧
 at1 h_2 (Array.size h) (33 : Nat) (Value.int IntKind.i64 n_2) ∧
 atBytes h_2 (Array.size h) (34 : Nat) (32 : Nat) b_2 ∧
 at1 h_2 (Array.size h) (66 : Nat) (Value.string (ByteArray.mk (List.toArray s_3)))) ∧
 ∃ (g : Nat),
 ∃ (first : Array Value),
 ∃ (cap : Array Value),
 is.v = Value.func (Fn.func g) first cap ∧
 EntP Tryz.prog g ∧
 CallsH Tryz.prog g
 (first.toList ++
 TVs.vals
 [TV.agg
 [TV.int IntKind.i64 n, TV.bytes (32 : Nat) b, TV.int IntKind.i64 n_2,
 TV.bytes (32 : Nat) b_2, TV.str s_3]] ++
 cap.toList)
 h_2 fun (v : Value) (h_3 : Array Obj) ↦
 ∃ (b : Bool),
 v = TV.val (TV.bool b) ∧
 If b
 (∃ (n : Int),
 ∃ (b : Bs (32 : Nat)),
 ∃ (n_3 : Int),
 ∃ (b_3 : Bs (32 : Nat)),
 ∃ (s_4 : List UInt8),
 (at1 h_3 (Array.size h) (0 : Nat) (Value.int IntKind.i64 n) ∧
 atBytes h_3 (Array.size h) (1 : Nat) (32 : Nat) b ∧
 at1 h_3 (Array.size h) (33 : Nat) (Value.int IntKind.i64 n_3) ∧
 atBytes h_3 (Array.size h) (34 : Nat) (32 : Nat) b_3 ∧
 at1 h_3 (Array.size h) (66 : Nat)
 (Value.string (ByteArray.mk (List.toArray s_4)))) ∧
 ∃ (new : List Value),
 slAt
 (Array.push h_3
 (row
 (TVs.cells
 [TV.agg
 [TV.int IntKind.i64 n, TV.bytes (32 : Nat) b,
 TV.int IntKind.i64 n_3, TV.bytes (32 : Nat) b_3, TV.str s_4]])
 (83 : Nat)))
 (Sl.mk (some (Loc.mk (Array.size h_3) (0 : Nat))) (1 : Nat) (1 : Nat))
 (67 : Nat) new ∧
 (∀ (v : Value), v ∈ new → isOne v = true) ∧
 vcAppend YtldocdpdjdekiaaGreat.ctx (83 : Nat) s_1.fst (1 : Nat) new
 (Array.push h_3
 (row
 (TVs.cells
 [TV.agg
 [TV.int IntKind.i64 n, TV.bytes (32 : Nat) b,
 TV.int IntKind.i64 n_3, TV.bytes (32 : Nat) b_3, TV.str s_4]])
 (83 : Nat)))
 fun (s_5 : Sl) (h : Array Obj) ↦
 K (s_5, s_1.snd.fst, IntKind.wrap IntKind.i64 (s_1.snd.snd + (1 : Int)))
 h)
 (∃ (n : Int),
 ∃ (b : Bs (32 : Nat)),
 ∃ (n_3 : Int),
 ∃ (b_3 : Bs (32 : Nat)),
 ∃ (s_4 : List UInt8),
 (at1 h_3 (Array.size h) (0 : Nat) (Value.int IntKind.i64 n) ∧
 atBytes h_3 (Array.size h) (1 : Nat) (32 : Nat) b ∧
 at1 h_3 (Array.size h) (33 : Nat) (Value.int IntKind.i64 n_3) ∧
 atBytes h_3 (Array.size h) (34 : Nat) (32 : Nat) b_3 ∧
 at1 h_3 (Array.size h) (66 : Nat)
 (Value.string (ByteArray.mk (List.toArray s_4)))) ∧
 ∃ (new : List Value),
 slAt
 (Array.push h_3
 (row
 (TVs.cells
 [TV.agg
 [TV.int IntKind.i64 n, TV.bytes (32 : Nat) b,
 TV.int IntKind.i64 n_3, TV.bytes (32 : Nat) b_3, TV.str s_4]])
 (83 : Nat)))
 (Sl.mk (some (Loc.mk (Array.size h_3) (0 : Nat))) (1 : Nat) (1 : Nat))
 (67 : Nat) new ∧
 (∀ (v : Value), v ∈ new → isOne v = true) ∧
 vcAppend YtldocdpdjdekiaaGreat.ctx (83 : Nat) s_1.snd.fst (1 : Nat) new
 (Array.push h_3
 (row
 (TVs.cells
 [TV.agg
 [TV.int IntKind.i64 n, TV.bytes (32 : Nat) b,
 TV.int IntKind.i64 n_3, TV.bytes (32 : Nat) b_3, TV.str s_4]])
 (83 : Nat)))
 fun (s_5 : Sl) (h : Array Obj) ↦
 K (s_1.fst, s_5, IntKind.wrap IntKind.i64 (s_1.snd.snd + (1 : Int))) h))
 (Nn p fun (l : Go.Vc.Loc) ↦
 wok h l.b l.o (1 : Nat) ∧
 Vc.Bind (TV.put h l.b l.o (TV.slice s_1.snd.fst)) fun (h : Array Obj) ↦
 Nn p fun (l : Go.Vc.Loc) ↦
 CallsH Tryz.prog (73 : Nat)
 (TVs.vals
 [TV.one
 (Vc.One.mk (Value.iface (116 : Nat) (TV.val (TV.ptr (some (Loc.mk l.b l.o)))))
 (vcPack._proof_1 (116 : Nat) (TV.ptr (some (Loc.mk l.b l.o)))))])
 h fun (v : Value) (h : Array Obj) ↦ v = TV.val (TV.tup []) ∧ R (TV.val (TV.slice s_1.fst)) h))

theorem pool_Pool_Take_calls (p : Option Go.Vc.Loc) (is : Vc.One) (h : Heap) (R : Value → Heap → Prop) (H : pool_Pool_Take_vc p is h R) : CallsH Tryz.prog 43 (TVs.vals [TV.ptr p, TV.one is]) h R :=
 vcFn_sound (C := ctx) ctx_ok (fn := Tryz.f43) Tryz.func43 ((by kernel_rfl : pool_Pool_Take_vc p is h R = vcFn ctx Tryz.f43 [TV.ptr p, TV.one is] h R) ▸ H)


end Go.Proofs.YtldocdpdjdekiaaGreat
end

section
/- What the laws' own small functions do; Take. -/
namespace Go.Proofs.YtldocdpdjdekiaaGreat.Pool
open Go Go.Vc


/-- The document's name of a number. -/
def name (n : Int) : Bs 32 := ((Bs.zero 32).set 0 (UInt8.ofNat (n % 256).toNat)).set 31 (UInt8.ofNat ((7 * n) % 256).toNat)
section
variable {R : Value → Heap → Prop} {h : Heap} {b : Nat} {A : Sl} {L S : List It} {most quota : Int}

theorem wrap_u8 (n : Int) : IntKind.wrap .u8 n = n % 256 := by
  unfold IntKind.wrap
  show (if (false && _) = true then _ else n % 2 ^ 8) = n % 256
  simp

theorem wrap_u8_i64 (n : Int) : IntKind.wrap .u8 (IntKind.wrap .i64 n) = n % 256 := by
  obtain ⟨q, e⟩ := wrap_off n
  rw [wrap_u8, e]
  omega

theorem put_byte {T : TypeId} {h : Heap} {b n i o : Nat} {x : Bs n} {K : Heap → Prop} (v : Var T h b (.bytes n x)) (hi : i < n) (ho : o = i) {c : Int} (h0 : 0 ≤ c) (h1 : c < 256)
    (hk : ∀ h1, Var T h1 b (.bytes n (x.set i (UInt8.ofNat c.toNat))) → Only (· = b) h h1 → h1.size = h.size → K h1) : wok h b o 1 ∧ Bind ((TV.int .u8 c).put h b o) K := by
  subst ho
  have hl : o + (TV.int .u8 c).size ≤ (TV.bytes n x).cells.length := by rw [TV.cells_length]; simp only [TV.size]; omega
  refine ⟨v.wok (by simp only [TV.size]; omega), hk _ ?_ (put_only v hl) (put_size v hl)⟩
  have := put_row (t := .int .u8 c) v hl
  unfold Var
  rw [this]
  congr 2
  simp only [TV.cells, TV.size, Bs.set, List.map_set]
  have e : ((UInt8.ofNat c.toNat).toNat : Int) = c := by
    rw [UInt8.toNat_ofNat']
    omega
  rw [e, List.set_eq_take_append_cons_drop, if_pos (by rw [List.length_map, x.h]; exact hi)]
  simp

theorem name_spec {n : Int} (hr : ∀ h', Ext h h' → R (TV.bytes 32 (name n)).val h') : CallsH Tryz.prog 31 (TVs.vals [.int .i64 n]) h R := by
  apply tollerref10_Name_calls
  unfold tollerref10_Name_vc
  refine newTV_in fun h1 v1 x1 s1 => newTV_in fun h2 v2 x2 s2 => ?_
  rw [wrap_u8, wrap_u8_i64]
  refine ⟨by decide, by decide, put_byte v2 (i := 0) (by omega) rfl (by omega) (by omega) fun h3 v3 o3 s3 => ?_⟩
  refine ⟨by decide, by decide, put_byte v3 (i := 31) (by omega) rfl (by omega) (by omega) fun h4 v4 o4 s4 => ?_⟩
  have v1' : Var 24 h4 h.size (.bytes 32 (Bs.zero 32)) := ((v1.ext x2).only o3 (by omega)).only o4 (by omega)
  refine ⟨name n, v4.bytes, put_in v1' (t := .bytes 32 (name n)) rfl fun h5 v5 o5 s5 => ?_⟩
  refine ⟨name n, v5.bytes, hr _ ?_⟩
  have w1 : Ext h1 h4 := Only.cut x2 (o3.trans o4) (fun i hi => by omega)
  exact Only.cut (x1.trans w1) o5 (fun i hi => by omega)

theorem bytes68 : (ctx.ti 50).bytes = 96 := by kernel_rfl
theorem size68 : (ctx.ti 50).size = 67 := by kernel_rfl
theorem zsize68 : (ctx.ti 50).z.size = 67 := by kernel_rfl

def eqIt (x y : It) : Bool := decide (x.slot = y.slot) && (decide (x.root.1 = y.root.1) && (decide (x.peer = y.peer) && (decide (x.fr.1 = y.fr.1) && (decide (x.text = y.text) && true))))

theorem eqIt_iff {x y : It} : eqIt x y = true ↔ x = y := by
  unfold eqIt
  cases x; cases y
  simp only [Bool.and_eq_true, decide_eq_true_eq, and_true, It.mk.injEq]
  constructor
  · rintro ⟨h1, h2, h3, h4, h5⟩
    exact ⟨h1, Bs.ext' h2, h3, Bs.ext' h4, h5⟩
  · rintro ⟨h1, h2, h3, h4, h5⟩
    exact ⟨h1, by rw [h2], h3, by rw [h4], h5⟩

instance : DecidableEq It := fun x y => decidable_of_iff (eqIt x y = true) eqIt_iff

/-! ### Take -/

theorem app32 {s : Sl} {x : It} {K : Sl → Heap → Prop} (o : Own 83 67 h s (its L)) (hl : L.length < 1000)
    (hk : ∀ s' h', Own 83 67 h' s' (its (L ++ [x])) → Only (In s) h h' → (∀ l, s'.a = some l → (∃ l', s.a = some l' ∧ l'.b = l.b) ∨ h.size ≤ l.b) → K s' h') :
    ∃ new, slAt (h.push (row (TVs.cells [x.tv]) 83)) (Sl.mk (some (Vc.Loc.mk h.size 0)) 1 1) 67 new ∧ (∀ v ∈ new, isOne v = true) ∧ vcAppend ctx 83 s 1 new (h.push (row (TVs.cells [x.tv]) 83)) K := by
  have ol := o.len
  rw [List.length_map] at ol
  refine append1 (C := ctx) (T := 83) (sz := 67) (x := x.tv) size32 zsize32 (by rw [bytes32]; decide) (by rw [bytes32]; omega) o rfl rfl fun s' h4 o4 f4 b4 => hk s' h4 ?_ f4 b4
  simpa [its] using o4

theorem filter_few (pred : It → Bool) (hf : S.length < 800) : (S.filter pred).length < 800 := by
  have := List.length_filter_le pred S
  omega

theorem take_filter {i : Nat} {x : It} (pred : It → Bool) (hx : S[i]? = some x) : (S.take (i + 1)).filter pred = (S.take i).filter pred ++ if pred x = true then [x] else [] := by
  rw [List.take_add_one, hx, List.filter_append]
  cases h : pred x <;> simp [h]

theorem take_spec (p : PL h b A S most quota) {f : One} {pred : It → Bool} (t : Tells h f pred)
    (hr : ∀ h' A' out, PL h' b A' (S.filter fun x => !pred x) most quota → Own 83 67 h' out (its (S.filter pred)) → Grown b A h A' h' → Fresh h out → (∀ i, In out i → ¬ Mine b A' i) → R (TV.slice out).val h') :
    CallsH Tryz.prog 43 (TVs.vals [.ptr (some ⟨b, 0⟩), .one f]) h R := by
  apply pool_Pool_Take_calls
  unfold pool_Pool_Take_vc
  have few := p.few
  have hblt := p.lt (i := b) (.inl rfl)
  refine If.no ?_
  refine all_spec p fun h1 s1 o1 x1 f1 => ⟨s1, rfl, ?_⟩
  have hel := o1.len
  rw [List.length_map] at hel
  have hs1 := x1.size
  refine ⟨fun s hh => 0 ≤ s.2.2 ∧ s.2.2 ≤ S.length ∧ Ext h1 hh ∧ Own 83 67 hh s.1 (its ((S.take s.2.2.toNat).filter pred)) ∧ Own 83 67 hh s.2.1 (its ((S.take s.2.2.toNat).filter fun x => !pred x)) ∧ Fresh h1 s.1 ∧ Fresh h1 s.2.1 ∧ (∀ i, In s.1 i → ¬ In s.2.1 i), fun s _ => ((S.length : Int) - s.2.2).toNat,
    ⟨Int.le_refl _, Int.natCast_nonneg _, Ext.refl _, Own.nil _ 67 h1, Own.nil _ 67 h1, fun l hl => (by cases hl), fun l hl => (by cases hl), fun i ⟨l, hl, _⟩ => (by cases hl)⟩, ?_⟩
  rintro ⟨out, rest, i⟩ hh ⟨i0, i1, x, oo, ro, fo, fr, dj⟩
  simp only at i0 i1 oo ro fo fr dj ⊢
  have hs := x.size
  refine If.dec.2 ⟨fun hi => ?_, fun hi => ?_⟩
  · refine its_at (o1.elems.ext x) i0 (by omega) fun l y _ hy => ?_
    refine newTV_in fun h2 v2 x2 s2 => ?_
    refine put_in v2 (t := y.tv) rfl fun h3 v3 o3 s3 => ?_
    have x23 : Ext hh h3 := Only.cut x2 o3 fun j hj => by omega
    refine v_it (x := y) v3 ?_
    obtain ⟨g, first, cap, t1, t2, t3⟩ := t.ex
    refine ⟨g, first, cap, t1, t2, t3 h3 y _ ((x1.trans x).trans x23) fun h4 x4 => ⟨_, rfl, ?_⟩⟩
    have x34 := x23.trans x4
    have s34 := x34.size
    have hi' : (i + 1).toNat = i.toNat + 1 := by omega
    have tf := take_filter pred hy
    have tn := take_filter (fun x => !pred x) hy
    rw [wrap_i64 (n := i + 1) (by omega) (by omega)]
    have lo : ((S.take i.toNat).filter pred).length < 1000 := Nat.lt_of_le_of_lt (Nat.le_trans (List.length_filter_le _ _) (by rw [List.length_take]; omega : (S.take i.toNat).length ≤ 799)) (by decide)
    have lr : ((S.take i.toNat).filter fun x => !pred x).length < 1000 := Nat.lt_of_le_of_lt (Nat.le_trans (List.length_filter_le _ _) (by rw [List.length_take]; omega : (S.take i.toNat).length ≤ 799)) (by decide)
    cases hp : pred y with
    | true =>
      rw [hp] at tf tn
      simp only [if_true, Bool.not_true, Bool.false_eq_true, if_false, List.append_nil] at tf tn
      refine If.yes (v_it (x := y) (v3.ext x4) ?_)
      refine app32 (x := y) (oo.ext x34) lo fun s5 h5 o5 f5 b5 => ?_
      have x5 : Ext h1 h5 := Only.cut (x.trans x34) f5 fun j ⟨l, hl, e⟩ => by rw [← e]; exact fo l hl
      refine ⟨⟨by omega, by omega, x5, by rw [hi', tf]; exact o5, ?_, fun l hl => ?_, fr, fun j ⟨l, hl, e⟩ hj => ?_⟩, by first | omega | (dsimp only; omega)⟩
      · rw [hi', tn]
        exact (ro.ext x34).only f5 fun l hl h9 => dj _ h9 ⟨l, hl, rfl⟩
      · rcases b5 l hl with ⟨l', h9, h10⟩ | h9
        · rw [← h10]; exact fo l' h9
        · omega
      · rcases b5 l hl with ⟨l', h9, h10⟩ | h9
        · exact dj j ⟨l', h9, h10.trans e⟩ hj
        · obtain ⟨l2, hl2, e2⟩ := hj
          have := ro.lt l2 hl2
          omega
    | false =>
      rw [hp] at tf tn
      simp only [if_true, Bool.not_false, Bool.false_eq_true, if_false, List.append_nil] at tf tn
      refine If.no (v_it (x := y) (v3.ext x4) ?_)
      refine app32 (x := y) (ro.ext x34) lr fun s5 h5 o5 f5 b5 => ?_
      have x5 : Ext h1 h5 := Only.cut (x.trans x34) f5 fun j ⟨l, hl, e⟩ => by rw [← e]; exact fr l hl
      refine ⟨⟨by omega, by omega, x5, ?_, by rw [hi', tn]; exact o5, fo, fun l hl => ?_, fun j hj ⟨l, hl, e⟩ => ?_⟩, by first | omega | (dsimp only; omega)⟩
      · rw [hi', tf]
        exact (oo.ext x34).only f5 fun l hl h9 => dj _ ⟨l, hl, rfl⟩ h9
      · rcases b5 l hl with ⟨l', h9, h10⟩ | h9
        · rw [← h10]; exact fr l' h9
        · omega
      · rcases b5 l hl with ⟨l', h9, h10⟩ | h9
        · exact dj j hj ⟨l', h9, h10.trans e⟩
        · obtain ⟨l2, hl2, e2⟩ := hj
          have := oo.lt l2 hl2
          omega
  · have hi2 : i.toNat = S.length := by omega
    rw [hi2, List.take_length] at oo ro
    have xx := x1.trans x
    obtain ⟨hsrt, hn, hf, L, H, hh', hp⟩ := p.ext xx
    refine nn_some ?_
    have bne : ∀ l, rest.a = some l → l.b ≠ b := fun l hl => by have := fr l hl; omega
    have one : ∀ j, In out j → j ≠ b := fun j ⟨l, hl, e⟩ => by have := fo l hl; omega
    refine field_in (i := 0) (t0 := .slice A) H.var rfl rfl rfl rfl fun h2 v2 o2 s2 => ?_
    refine nn_some ?_
    have lr : (S.filter fun x => !pred x).length < 800 := filter_few _ few
    have H2 : HL h2 b rest (S.filter fun x => !pred x) most quota := ⟨v2, ro.only o2 bne, fun ⟨l, hl, e⟩ => bne l hl e, by omega⟩
    refine hinit_spec H2 (v := ⟨.iface 116 (TV.ptr (some ⟨b, 0⟩)).val, rfl⟩) rfl fun h3 L3 H3 hp3 hh3 o3 => ⟨rfl, ?_⟩
    have hsub : (S.filter fun x => !pred x).Sublist S := List.filter_sublist
    refine hr h3 rest out ⟨hsrt.sublist hsub, hn.sublist (hsub.map _), lr, L3, H3, hh3, hp3⟩ ?_ ⟨?_, fun i hi => ?_⟩ (fun l hl => by have := fo l hl; omega) (fun j hj hm => ?_)
    · exact (oo.only o2 (fun l hl => one l.b ⟨l, hl, rfl⟩)).only o3 (fun l hl h9 => dj l.b ⟨l, hl, rfl⟩ h9)
    · refine ⟨by have := xx.size; have := o2.size; have := o3.size; omega, fun j hj hnm => ?_⟩
      rw [o3.same j (by have := xx.size; omega) (fun ⟨l, hl, e⟩ => by have := fr l hl; omega), o2.same j (by have := xx.size; omega) (fun e => hnm (.inl e)), xx.same j hj]
    · rcases hi with e | ⟨l, hl, e⟩
      · exact .inl (.inl e)
      · right
        have := fr l hl
        omega
    · rcases hm with e | hm
      · exact one j hj e
      · exact dj j hj hm

theorem take_nil {f : One} (hr : R (TV.slice Sl.nil).val h) : CallsH Tryz.prog 43 (TVs.vals [.ptr none, .one f]) h R := by
  apply pool_Pool_Take_calls
  exact If.yes hr

end
end Go.Proofs.YtldocdpdjdekiaaGreat.Pool
end

section
/- The conditions of functions, as the generator reckons them out, each with the proof that it is that. -/
namespace Go.Proofs.YtldocdpdjdekiaaGreat
open Go Go.Vc
set_option maxRecDepth 100000
set_option linter.unusedVariables false

def tollerref15_Before_vc (a_Slot : Int) (a_Root : Bs (32 : Nat)) (a_Peer : Int) (a_For : Bs (32 : Nat)) (a_Text : List UInt8) (b_Slot : Int) (b_Root : Bs (32 : Nat)) (b_Peer : Int) (b_For : Bs (32 : Nat)) (b_Text : List UInt8) (h : Heap) (R : Value → Heap → Prop) : Prop :=
 Vc.Bind
 (newTV h (TV.agg [TV.int IntKind.i64 a_Slot, TV.bytes (32 : Nat) a_Root, TV.int IntKind.i64 a_Peer, TV.bytes (32 : Nat) a_For, TV.str a_Text]) (50 : Nat))
 fun (h_1 : Array Obj) ↦
 Vc.Bind
 (newTV h_1 (TV.agg [TV.int IntKind.i64 b_Slot, TV.bytes (32 : Nat) b_Root, TV.int IntKind.i64 b_Peer, TV.bytes (32 : Nat) b_For, TV.str b_Text]) (50 : Nat))
 fun (h_2 : Array Obj) ↦
 ∃ (n : Int),
 at1 h_2 (Array.size h) (0 : Nat) (Value.int IntKind.i64 n) ∧
 ∃ (n_1 : Int),
 at1 h_2 (Array.size h_1) (0 : Nat) (Value.int IntKind.i64 n_1) ∧
 If (!decide (n = n_1))
 (∃ (n : Int),
 at1 h_2 (Array.size h) (0 : Nat) (Value.int IntKind.i64 n) ∧
 ∃ (n_2 : Int), at1 h_2 (Array.size h_1) (0 : Nat) (Value.int IntKind.i64 n_2) ∧ R (TV.val (TV.bool (decide (n < n_2)))) h_2)
 (∃ (b : Bs (32 : Nat)),
 atBytes h_2 (Array.size h) (1 : Nat) (32 : Nat) b ∧
 ∃ (b_1 : Bs (32 : Nat)),
 atBytes h_2 (Array.size h_1) (1 : Nat) (32 : Nat) b_1 ∧
 CallsH Tryz.prog (105 : Nat) (TVs.vals [TV.bytes (32 : Nat) b, TV.bytes (32 : Nat) b_1]) h_2 fun (v : Value) (h : Array Obj) ↦
 ∃ (b : Bool), v = TV.val (TV.bool b) ∧ R (TV.val (TV.bool b)) h)

theorem tollerref15_Before_calls (a_Slot : Int) (a_Root : Bs (32 : Nat)) (a_Peer : Int) (a_For : Bs (32 : Nat)) (a_Text : List UInt8) (b_Slot : Int) (b_Root : Bs (32 : Nat)) (b_Peer : Int) (b_For : Bs (32 : Nat)) (b_Text : List UInt8) (h : Heap) (R : Value → Heap → Prop) (H : tollerref15_Before_vc a_Slot a_Root a_Peer a_For a_Text b_Slot b_Root b_Peer b_For b_Text h R) : CallsH Tryz.prog 85 (TVs.vals [TV.agg [TV.int IntKind.i64 a_Slot, TV.bytes (32 : Nat) a_Root, TV.int IntKind.i64 a_Peer, TV.bytes (32 : Nat) a_For, TV.str a_Text], TV.agg [TV.int IntKind.i64 b_Slot, TV.bytes (32 : Nat) b_Root, TV.int IntKind.i64 b_Peer, TV.bytes (32 : Nat) b_For, TV.str b_Text]]) h R :=
 vcFn_sound (C := ctx) ctx_ok (fn := Tryz.f85) Tryz.func85 ((by kernel_rfl : tollerref15_Before_vc a_Slot a_Root a_Peer a_For a_Text b_Slot b_Root b_Peer b_For b_Text h R = vcFn ctx Tryz.f85 [TV.agg [TV.int IntKind.i64 a_Slot, TV.bytes (32 : Nat) a_Root, TV.int IntKind.i64 a_Peer, TV.bytes (32 : Nat) a_For, TV.str a_Text], TV.agg [TV.int IntKind.i64 b_Slot, TV.bytes (32 : Nat) b_Root, TV.int IntKind.i64 b_Peer, TV.bytes (32 : Nat) b_For, TV.str b_Text]] h R) ▸ H)


def tollerref15_Pool_Of_vc (p : Option Go.Vc.Loc) (peer : Int) (h : Heap) (R : Value → Heap → Prop) : Prop :=
 Nn p fun (l : Go.Vc.Loc) ↦
 ∃ (s : Sl),
 at1 h l.b l.o (slVal s) ∧
 Go.Vc.Loop ((0 : Int), (0 : Int)) h fun (s_1 : Int × Int) (h : Array Obj) (K : Int × Int → Array Obj → Prop) ↦
 If (decide (s_1.snd < (↑s.len : Int)))
 ((0 : Int) ≤ s_1.snd ∧
 s_1.snd < (↑s.len : Int) ∧
 Nn s.a fun (l : Go.Vc.Loc) ↦
 ∃ (n : Int),
 ∃ (b : Bs (32 : Nat)),
 ∃ (n_1 : Int),
 ∃ (b_1 : Bs (32 : Nat)),
 ∃ (s : List UInt8),
 (at1 h l.b (l.o + Int.toNat s_1.snd * (67 : Nat)) (Value.int IntKind.i64 n) ∧
 atBytes h l.b (l.o + Int.toNat s_1.snd * (67 : Nat) + (1 : Nat)) (32 : Nat) b ∧
 at1 h l.b (l.o + Int.toNat s_1.snd * (67 : Nat) + (1 : Nat) + (32 : Nat)) (Value.int IntKind.i64 n_1) ∧
 atBytes h l.b (l.o + Int.toNat s_1.snd * (67 : Nat) + (1 : Nat) + (32 : Nat) + (1 : Nat)) (32 : Nat) b_1 ∧
 at1 h l.b (l.o + Int.toNat s_1.snd * (67 : Nat) + (1 : Nat) + (32 : Nat) + (1 : Nat) + (32 : Nat))
 (Value.string (ByteArray.mk (List.toArray s)))) ∧
 Vc.Bind
 (newTV h
 (TV.agg
 [TV.int IntKind.i64 (0 : Int), TV.bytes (32 : Nat) (Bs.zero (32 : Nat)), TV.int IntKind.i64 (0 : Int),
 TV.bytes (32 : Nat) (Bs.zero (32 : Nat)), TV.str []])
 (50 : Nat))
 fun (h_1 : Array Obj) ↦
 wok h_1 (Array.size h) (0 : Nat) (67 : Nat) ∧
 Vc.Bind
 (TV.put h_1 (Array.size h) (0 : Nat)
 (TV.agg [TV.int IntKind.i64 n, TV.bytes (32 : Nat) b, TV.int IntKind.i64 n_1, TV.bytes (32 : Nat) b_1, TV.str s]))
 fun (h_2 : Array Obj) ↦
 ∃ (n : Int),
 at1 h_2 (Array.size h) (33 : Nat) (Value.int IntKind.i64 n) ∧
 If (decide (n = peer))
 (K (IntKind.wrap IntKind.i64 (s_1.fst + (1 : Int)), IntKind.wrap IntKind.i64 (s_1.snd + (1 : Int))) h_2)
 (K (s_1.fst, IntKind.wrap IntKind.i64 (s_1.snd + (1 : Int))) h_2))
 (R (TV.val (TV.int IntKind.i64 s_1.fst)) h)

theorem tollerref15_Pool_Of_calls (p : Option Go.Vc.Loc) (peer : Int) (h : Heap) (R : Value → Heap → Prop) (H : tollerref15_Pool_Of_vc p peer h R) : CallsH Tryz.prog 84 (TVs.vals [TV.ptr p, TV.int IntKind.i64 peer]) h R :=
 vcFn_sound (C := ctx) ctx_ok (fn := Tryz.f84) Tryz.func84 ((by kernel_rfl : tollerref15_Pool_Of_vc p peer h R = vcFn ctx Tryz.f84 [TV.ptr p, TV.int IntKind.i64 peer] h R) ▸ H)


def tollerref15_Pool_Has_vc (p : Option Go.Vc.Loc) (root : Bs (32 : Nat)) (h : Heap) (R : Value → Heap → Prop) : Prop :=
 Vc.Bind (newTV h (TV.bytes (32 : Nat) root) (24 : Nat)) fun (h_1 : Array Obj) ↦
 Nn p fun (l : Go.Vc.Loc) ↦
 ∃ (s : Sl),
 at1 h_1 l.b l.o (slVal s) ∧
 Go.Vc.Loop (false, (0 : Int)) h_1 fun (s_1 : Bool × Int) (h_2 : Array Obj) (K : Bool × Int → Array Obj → Prop) ↦
 If (decide (s_1.snd < (↑s.len : Int)))
 ((0 : Int) ≤ s_1.snd ∧
 s_1.snd < (↑s.len : Int) ∧
 Nn s.a fun (l : Go.Vc.Loc) ↦
 ∃ (n : Int),
 ∃ (b : Bs (32 : Nat)),
 ∃ (n_1 : Int),
 ∃ (b_1 : Bs (32 : Nat)),
 ∃ (s : List UInt8),
 (at1 h_2 l.b (l.o + Int.toNat s_1.snd * (67 : Nat)) (Value.int IntKind.i64 n) ∧
 atBytes h_2 l.b (l.o + Int.toNat s_1.snd * (67 : Nat) + (1 : Nat)) (32 : Nat) b ∧
 at1 h_2 l.b (l.o + Int.toNat s_1.snd * (67 : Nat) + (1 : Nat) + (32 : Nat)) (Value.int IntKind.i64 n_1) ∧
 atBytes h_2 l.b (l.o + Int.toNat s_1.snd * (67 : Nat) + (1 : Nat) + (32 : Nat) + (1 : Nat)) (32 : Nat) b_1 ∧
 at1 h_2 l.b (l.o + Int.toNat s_1.snd * (67 : Nat) + (1 : Nat) + (32 : Nat) + (1 : Nat) + (32 : Nat))
 (Value.string (ByteArray.mk (List.toArray s)))) ∧
 Vc.Bind
 (newTV h_2
 (TV.agg
 [TV.int IntKind.i64 (0 : Int), TV.bytes (32 : Nat) (Bs.zero (32 : Nat)), TV.int IntKind.i64 (0 : Int),
 TV.bytes (32 : Nat) (Bs.zero (32 : Nat)), TV.str []])
 (50 : Nat))
 fun (h_3 : Array Obj) ↦
 wok h_3 (Array.size h_2) (0 : Nat) (67 : Nat) ∧
 Vc.Bind
 (TV.put h_3 (Array.size h_2) (0 : Nat)
 (TV.agg [TV.int IntKind.i64 n, TV.bytes (32 : Nat) b, TV.int IntKind.i64 n_1, TV.bytes (32 : Nat) b_1, TV.str s]))
 fun (h_4 : Array Obj) ↦
 ∃ (b : Bs (32 : Nat)),
 atBytes h_4 (Array.size h_2) (1 : Nat) (32 : Nat) b ∧
 ∃ (b_2 : Bs (32 : Nat)),
 atBytes h_4 (Array.size h) (0 : Nat) (32 : Nat) b_2 ∧
 If (decide (b.l = b_2.l)) (R (TV.val (TV.bool true)) h_4)
 (K (s_1.fst, IntKind.wrap IntKind.i64 (s_1.snd + (1 : Int))) h_4))
 (R (TV.val (TV.bool false)) h_2)

theorem tollerref15_Pool_Has_calls (p : Option Go.Vc.Loc) (root : Bs (32 : Nat)) (h : Heap) (R : Value → Heap → Prop) (H : tollerref15_Pool_Has_vc p root h R) : CallsH Tryz.prog 20 (TVs.vals [TV.ptr p, TV.bytes (32 : Nat) root]) h R :=
 vcFn_sound (C := ctx) ctx_ok (fn := Tryz.f20) Tryz.func20 ((by kernel_rfl : tollerref15_Pool_Has_vc p root h R = vcFn ctx Tryz.f20 [TV.ptr p, TV.bytes (32 : Nat) root] h R) ▸ H)


def tollerref15_New_vc (most : Int) (quota : Int) (h : Heap) (R : Value → Heap → Prop) : Prop :=
 Vc.Bind (newTV h (TV.agg [TV.slice Sl.nil, TV.int IntKind.i64 most, TV.int IntKind.i64 quota]) (48 : Nat)) fun (h_1 : Array Obj) ↦
 If (decide ((1 : Int) ≤ most))
 (If (decide (most ≤ (64 : Int)))
 (If (decide ((1 : Int) ≤ quota)) (R (TV.val (TV.tup [TV.ptr (some (Loc.mk (Array.size h) (0 : Nat))), TV.bool (decide (quota ≤ (64 : Int)))])) h_1)
 (R (TV.val (TV.tup [TV.ptr (some (Loc.mk (Array.size h) (0 : Nat))), TV.bool false])) h_1))
 (R (TV.val (TV.tup [TV.ptr (some (Loc.mk (Array.size h) (0 : Nat))), TV.bool false])) h_1))
 (R (TV.val (TV.tup [TV.ptr (some (Loc.mk (Array.size h) (0 : Nat))), TV.bool false])) h_1)

theorem tollerref15_New_calls (most : Int) (quota : Int) (h : Heap) (R : Value → Heap → Prop) (H : tollerref15_New_vc most quota h R) : CallsH Tryz.prog 15 (TVs.vals [TV.int IntKind.i64 most, TV.int IntKind.i64 quota]) h R :=
 vcFn_sound (C := ctx) ctx_ok (fn := Tryz.f15) Tryz.func15 ((by kernel_rfl : tollerref15_New_vc most quota h R = vcFn ctx Tryz.f15 [TV.int IntKind.i64 most, TV.int IntKind.i64 quota] h R) ▸ H)


def tollerref15_Pool_Put_vc (p : Option Go.Vc.Loc) (x_Slot : Int) (x_Root : Bs (32 : Nat)) (x_Peer : Int) (x_For : Bs (32 : Nat)) (x_Text : List UInt8) (h : Heap) (R : Value → Heap → Prop) : Prop :=
 Vc.Bind
 (newTV h (TV.agg [TV.int IntKind.i64 x_Slot, TV.bytes (32 : Nat) x_Root, TV.int IntKind.i64 x_Peer, TV.bytes (32 : Nat) x_For, TV.str x_Text]) (50 : Nat))
 fun (h_1 : Array Obj) ↦
 Vc.Bind
 (newTV h_1
 (TV.agg
 [TV.int IntKind.i64 (0 : Int), TV.bytes (32 : Nat) (Bs.zero (32 : Nat)), TV.int IntKind.i64 (0 : Int), TV.bytes (32 : Nat) (Bs.zero (32 : Nat)),
 TV.str []])
 (50 : Nat))
 fun (h_2 : Array Obj) ↦
 ∃ (b : Bs (32 : Nat)),
 atBytes h_2 (Array.size h) (1 : Nat) (32 : Nat) b ∧
 CallsH Tryz.prog (20 : Nat) (TVs.vals [TV.ptr p, TV.bytes (32 : Nat) b]) h_2 fun (v : Value) (h_3 : Array Obj) ↦
 ∃ (b : Bool),
 v = TV.val (TV.bool b) ∧
 If b
 (wok h_3 (Array.size h_1) (0 : Nat) (67 : Nat) ∧
 Vc.Bind
 (TV.put h_3 (Array.size h_1) (0 : Nat)
 (TV.agg
 [TV.int IntKind.i64 (0 : Int), TV.bytes (32 : Nat) (Bs.zero (32 : Nat)), TV.int IntKind.i64 (0 : Int),
 TV.bytes (32 : Nat) (Bs.zero (32 : Nat)), TV.str []]))
 fun (h : Array Obj) ↦
 ∃ (n : Int),
 ∃ (b : Bs (32 : Nat)),
 ∃ (n_1 : Int),
 ∃ (b_1 : Bs (32 : Nat)),
 ∃ (s : List UInt8),
 (at1 h (Array.size h_1) (0 : Nat) (Value.int IntKind.i64 n) ∧
 atBytes h (Array.size h_1) (1 : Nat) (32 : Nat) b ∧
 at1 h (Array.size h_1) (33 : Nat) (Value.int IntKind.i64 n_1) ∧
 atBytes h (Array.size h_1) (34 : Nat) (32 : Nat) b_1 ∧
 at1 h (Array.size h_1) (66 : Nat) (Value.string (ByteArray.mk (List.toArray s)))) ∧
 R
 (TV.val
 (TV.tup
 [TV.int IntKind.i64 (9 : Int),
 TV.agg [TV.int IntKind.i64 n, TV.bytes (32 : Nat) b, TV.int IntKind.i64 n_1, TV.bytes (32 : Nat) b_1, TV.str s]]))
 h)
 (∃ (n : Int),
 at1 h_3 (Array.size h) (33 : Nat) (Value.int IntKind.i64 n) ∧
 Nn p fun (l : Go.Vc.Loc) ↦
 ∃ (n_1 : Int),
 at1 h_3 l.b (l.o + (2 : Nat)) (Value.int IntKind.i64 n_1) ∧
 CallsH Tryz.prog (84 : Nat) (TVs.vals [TV.ptr p, TV.int IntKind.i64 n]) h_3 fun (v : Value) (h_4 : Array Obj) ↦
 ∃ (n : Int),
 v = TV.val (TV.int IntKind.i64 n) ∧
 Ext h_3 h_4 ∧
 If (decide (n_1 ≤ n))
 (wok h_4 (Array.size h_1) (0 : Nat) (67 : Nat) ∧
 Vc.Bind
 (TV.put h_4 (Array.size h_1) (0 : Nat)
 (TV.agg
 [TV.int IntKind.i64 (0 : Int), TV.bytes (32 : Nat) (Bs.zero (32 : Nat)), TV.int IntKind.i64 (0 : Int),
 TV.bytes (32 : Nat) (Bs.zero (32 : Nat)), TV.str []]))
 fun (h : Array Obj) ↦
 ∃ (n : Int),
 ∃ (b : Bs (32 : Nat)),
 ∃ (n_2 : Int),
 ∃ (b_1 : Bs (32 : Nat)),
 ∃ (s : List UInt8),
 (at1 h (Array.size h_1) (0 : Nat) (Value.int IntKind.i64 n) ∧
 atBytes h (Array.size h_1) (1 : Nat) (32 : Nat) b ∧
 at1 h (Array.size h_1) (33 : Nat) (Value.int IntKind.i64 n_2) ∧
 atBytes h (Array.size h_1) (34 : Nat) (32 : Nat) b_1 ∧
 at1 h (Array.size h_1) (66 : Nat) (Value.string (ByteArray.mk (List.toArray s)))) ∧
 R
 (TV.val
 (TV.tup
 [TV.int IntKind.i64 (11 : Int),
 TV.agg
 [TV.int IntKind.i64 n, TV.bytes (32 : Nat) b, TV.int IntKind.i64 n_2, TV.bytes (32 : Nat) b_1,
 TV.str s]]))
 h)
 (Nn p fun (l : Go.Vc.Loc) ↦
 ∃ (s : Sl),
 at1 h_4 l.b l.o (slVal s) ∧
 Join
 (fun (s_1 : Int) (h_5 : Array Obj) ↦
 Go.Vc.Loop (0 : Int) h_5 fun (s_2 : Int) (h_6 : Array Obj) (K : Int → Array Obj → Prop) ↦
 If (decide (s_2 < (↑s.len : Int)))
 (∃ (n : Int),
 ∃ (b : Bs (32 : Nat)),
 ∃ (n_2 : Int),
 ∃ (b_1 : Bs (32 : Nat)),
 ∃ (s_3 : List UInt8),
 (at1 h_6 (Array.size h) (0 : Nat) (Value.int IntKind.i64 n) ∧
 atBytes h_6 (Array.size h) (1 : Nat) (32 : Nat) b ∧
 at1 h_6 (Array.size h) (33 : Nat) (Value.int IntKind.i64 n_2) ∧
 atBytes h_6 (Array.size h) (34 : Nat) (32 : Nat) b_1 ∧
 at1 h_6 (Array.size h) (66 : Nat) (Value.string (ByteArray.mk (List.toArray s_3)))) ∧
 Nn p fun (l : Go.Vc.Loc) ↦
 ∃ (s_4 : Sl),
 at1 h_6 l.b l.o (slVal s_4) ∧
 (0 : Int) ≤ s_2 ∧
 s_2 < (↑s_4.len : Int) ∧
 Nn s_4.a fun (l : Go.Vc.Loc) ↦
 ∃ (n_3 : Int),
 ∃ (b_2 : Bs (32 : Nat)),
 ∃ (n_4 : Int),
 ∃ (b_3 : Bs (32 : Nat)),
 ∃ (s_5 : List UInt8),
 (at1 h_6 l.b (l.o + Int.toNat s_2 * (67 : Nat))
 (Value.int IntKind.i64 n_3) ∧
 atBytes h_6 l.b (l.o + Int.toNat s_2 * (67 : Nat) + (1 : Nat))
 (32 : Nat) b_2 ∧
 at1 h_6 l.b
 (l.o + Int.toNat s_2 * (67 : Nat) + (1 : Nat) + (32 : Nat))
 (Value.int IntKind.i64 n_4) ∧
 atBytes h_6 l.b
 (l.o + Int.toNat s_2 * (67 : Nat) + (1 : Nat) + (32 : Nat) +
 (1 : Nat))
 (32 : Nat) b_3 ∧
 at1 h_6 l.b
 (l.o + Int.toNat s_2 * (67 : Nat) + (1 : Nat) + (32 : Nat) +
 (1 : Nat) +
 (32 : Nat))
 (Value.string (ByteArray.mk (List.toArray s_5)))) ∧
 CallsH Tryz.prog (85 : Nat)
 (TVs.vals
 [TV.agg
 [TV.int IntKind.i64 n, TV.bytes (32 : Nat) b,
 TV.int IntKind.i64 n_2, TV.bytes (32 : Nat) b_1, TV.str s_3],
 TV.agg
 [TV.int IntKind.i64 n_3, TV.bytes (32 : Nat) b_2,
 TV.int IntKind.i64 n_4, TV.bytes (32 : Nat) b_3, TV.str s_5]])
 h_6 fun (v : Value) (h_7 : Array Obj) ↦
 ∃ (b : Bool),
 v = TV.val (TV.bool b) ∧
 If (!b) (K (IntKind.wrap IntKind.i64 (s_2 + (1 : Int))) h_7)
 (Nn p fun (l : Go.Vc.Loc) ↦
 ∃ (s_6 : Sl),
 at1 h_7 l.b l.o (slVal s_6) ∧
 (0 : Int) ≤ s_2 ∧
 s_2 ≤ (↑s_6.cap : Int) ∧
 (0 : Int) ≤ s_2 ∧
 s_2 ≤ s_2 ∧
 ∃ (n : Int),
 ∃ (b : Bs (32 : Nat)),
 ∃ (n_5 : Int),
 ∃ (b_4 : Bs (32 : Nat)),
 ∃ (s_7 : List UInt8),
 (at1 h_7 (Array.size h) (0 : Nat)
 (Value.int IntKind.i64 n) ∧
 atBytes h_7 (Array.size h) (1 : Nat)
 (32 : Nat) b ∧
 at1 h_7 (Array.size h) (33 : Nat)
 (Value.int IntKind.i64 n_5) ∧
 atBytes h_7 (Array.size h)
 (34 : Nat) (32 : Nat) b_4 ∧
 at1 h_7 (Array.size h)
 (66 : Nat)
 (Value.string
 (ByteArray.mk
 (List.toArray s_7)))) ∧
 Nn p fun (l : Go.Vc.Loc) ↦
 ∃ (s_8 : Sl),
 at1 h_7 l.b l.o (slVal s_8) ∧
 (0 : Int) ≤ s_2 ∧
 s_2 ≤ (↑s_8.len : Int) ∧
 Ext h_7
 (Array.push h_7
 (row
 (TVs.cells
 [TV.agg
 [TV.int
 IntKind.i64
 n,
 TV.bytes
 (32 : Nat)
 b,
 TV.int
 IntKind.i64
 n_5,
 TV.bytes
 (32 : Nat)
 b_4,
 TV.str s_7]])
 (50 : Nat))) ∧
 ∃ (new : List Value),
 slAt
 (Array.push h_7
 (row
 (TVs.cells
 [TV.agg
 [TV.int
 IntKind.i64
 n,
 TV.bytes
 (32 :
 Nat)
 b,
 TV.int
 IntKind.i64
 n_5,
 TV.bytes
 (32 :
 Nat)
 b_4,
 TV.str
 s_7]])
 (50 : Nat)))
 (cutSl s_8
 (Int.toNat s_2)
 s_8.len (67 : Nat))
 (67 : Nat) new ∧
 (∀ (v : Value),
 v ∈ new →
 isOne v = true) ∧
 vcAppend
 YtldocdpdjdekiaaGreat.ctx
 (50 : Nat)
 (Sl.mk
 (some
 (Loc.mk
 (Array.size
 h_7)
 (0 : Nat)))
 (1 : Nat)
 (1 : Nat))
 (cutSl s_8
 (Int.toNat s_2)
 s_8.len
 (67 : Nat)).len
 new
 (Array.push h_7
 (row
 (TVs.cells
 [TV.agg
 [TV.int
 IntKind.i64
 n,
 TV.bytes
 (32 :
 Nat)
 b,
 TV.int
 IntKind.i64
 n_5,
 TV.bytes
 (32 :
 Nat)
 b_4,
 TV.str
 s_7]])
 (50 : Nat)))
 fun (s_9 : Sl)
 (h : Array Obj) ↦
 Ext
 (Array.push h_7
 (row
 (TVs.cells
 [TV.agg
 [TV.int
 IntKind.i64
 n,
 TV.bytes
 (32 :
 Nat)
 b,
 TV.int
 IntKind.i64
 n_5,
 TV.bytes
 (32 :
 Nat)
 b_4,
 TV.str
 s_7]])
 (50 : Nat)))
 h ∧
 ∃ (new :
 List Value),
 slAt h s_9
 (67 : Nat)
 new ∧
 (∀
 (v :
 Value),
 v ∈ new →
 isOne
 v =
 true) ∧
 vcAppend
 YtldocdpdjdekiaaGreat.ctx
 (50 : Nat)
 (cutSl
 (Sl.mk
 s_6.a
 s_6.len
 (Int.toNat
 s_2))
 (0 :
 Nat)
 (Int.toNat
 s_2)
 (67 :
 Nat))
 s_9.len
 new h
 fun
 (s_10 :
 Sl)
 (h :
 Array
 Obj) ↦
 Nn p
 fun
 (l :
 Go.Vc.Loc) ↦
 wok h
 l.b
 l.o
 (1 :
 Nat) ∧
 Vc.Bind
 (TV.put
 h
 l.b
 l.o
 (TV.slice
 s_10))
 fun
 (h :
 Array
 Obj) ↦
 Nn p
 fun
 (l :
 Go.Vc.Loc) ↦
 ∃
 (n
 :
 Int),
 at1
 h
 l.b
 (l.o +
 (1 :
 Nat))
 (Value.int
 IntKind.i64
 n) ∧
 If
 (decide
 ((↑s.len :
 Int) <
 n))
 (wok
 h
 (Array.size
 h_1)
 (0 :
 Nat)
 (67 :
 Nat) ∧
 Vc.Bind
 (TV.put
 h
 (Array.size
 h_1)
 (0 :
 Nat)
 (TV.agg
 [TV.int
 IntKind.i64
 (0 :
 Int),
 TV.bytes
 (32 :
 Nat)
 (Bs.zero
 (32 :
 Nat)),
 TV.int
 IntKind.i64
 (0 :
 Int),
 TV.bytes
 (32 :
 Nat)
 (Bs.zero
 (32 :
 Nat)),
 TV.str
 []]))
 fun
 (h :
 Array
 Obj) ↦
 ∃
 (n
 :
 Int),
 ∃
 (b
 :
 Bs
 (32 :
 Nat)),
 ∃
 (n_6
 :
 Int),
 ∃
 (b_5
 :
 Bs
 (32 :
 Nat)),
 ∃
 (s
 :
 List
 UInt8),
 (at1
 h
 (Array.size
 h_1)
 (0 :
 Nat)
 (Value.int
 IntKind.i64
 n) ∧
 atBytes
 h
 (Array.size
 h_1)
 (1 :
 Nat)
 (32 :
 Nat)
 b ∧
 at1
 h
 (Array.size
 h_1)
 (33 :
 Nat)
 (Value.int
 IntKind.i64
 n_6) ∧
 atBytes
 h
 (Array.size
 h_1)
 (34 :
 Nat)
 (32 :
 Nat)
 b_5 ∧
 at1
 h
 (Array.size
 h_1)
 (66 :
 Nat)
 (Value.string
 (ByteArray.mk
 (List.toArray
 s)))) ∧
 R
 (TV.val
 (TV.tup
 [TV.int
 IntKind.i64
 (1 :
 Int),
 TV.agg
 [TV.int
 IntKind.i64
 n,
 TV.bytes
 (32 :
 Nat)
 b,
 TV.int
 IntKind.i64
 n_6,
 TV.bytes
 (32 :
 Nat)
 b_5,
 TV.str
 s]]))
 h)
 (Nn
 p
 fun
 (l :
 Go.Vc.Loc) ↦
 ∃
 (s_11
 :
 Sl),
 at1
 h
 l.b
 l.o
 (slVal
 s_11) ∧
 (0 :
 Int) ≤
 (↑s.len :
 Int) ∧
 (↑s.len :
 Int) <
 (↑s_11.len :
 Int) ∧
 Nn
 s_11.a
 fun
 (l :
 Go.Vc.Loc) ↦
 ∃
 (n
 :
 Int),
 ∃
 (b
 :
 Bs
 (32 :
 Nat)),
 ∃
 (n_6
 :
 Int),
 ∃
 (b_5
 :
 Bs
 (32 :
 Nat)),
 ∃
 (s_12
 :
 List
 UInt8),
 (at1
 h
 l.b
 (l.o +
 Int.toNat
 (↑s.len :
 Int) *
 (67 :
 Nat))
 (Value.int
 IntKind.i64
 n) ∧
 atBytes
 h
 l.b
 (l.o +
 Int.toNat
 (↑s.len :
 Int) *
 (67 :
 Nat) +
 (1 :
 Nat))
 (32 :
 Nat)
 b ∧
 at1
 h
 l.b
 (l.o +
 Int.toNat
 (↑s.len :
 Int) *
 (67 :
 Nat) +
 (1 :
 Nat) +
 (32 :
 Nat))
 (Value.int
 IntKind.i64
 n_6) ∧
 atBytes
 h
 l.b
 (l.o +
 Int.toNat
 (↑s.len :
 Int) *
 (67 :
 Nat) +
 (1 :
 Nat) +
 (32 :
 Nat) +
 (1 :
 Nat))
 (32 :
 Nat)
 b_5 ∧
 at1
 h
 l.b
 (l.o +
 Int.toNat
 (↑s.len :
 Int) *
 (67 :
 Nat) +
 (1 :
 Nat) +
 (32 :
 Nat) +
 (1 :
 Nat) +
 (32 :
 Nat))
 (Value.string
 (ByteArray.mk
 (List.toArray
 s_12)))) ∧
 Vc.Bind
 (newTV
 h
 (TV.agg
 [TV.int
 IntKind.i64
 (0 :
 Int),
 TV.bytes
 (32 :
 Nat)
 (Bs.zero
 (32 :
 Nat)),
 TV.int
 IntKind.i64
 (0 :
 Int),
 TV.bytes
 (32 :
 Nat)
 (Bs.zero
 (32 :
 Nat)),
 TV.str
 []])
 (50 :
 Nat))
 fun
 (h_8 :
 Array
 Obj) ↦
 wok
 h_8
 (Array.size
 h)
 (0 :
 Nat)
 (67 :
 Nat) ∧
 Vc.Bind
 (TV.put
 h_8
 (Array.size
 h)
 (0 :
 Nat)
 (TV.agg
 [TV.int
 IntKind.i64
 n,
 TV.bytes
 (32 :
 Nat)
 b,
 TV.int
 IntKind.i64
 n_6,
 TV.bytes
 (32 :
 Nat)
 b_5,
 TV.str
 s_12]))
 fun
 (h_9 :
 Array
 Obj) ↦
 Nn
 p
 fun
 (l :
 Go.Vc.Loc) ↦
 ∃
 (s_13
 :
 Sl),
 at1
 h_9
 l.b
 l.o
 (slVal
 s_13) ∧
 (0 :
 Int) ≤
 (↑s.len :
 Int) ∧
 (↑s.len :
 Int) ≤
 (↑s_13.cap :
 Int) ∧
 (0 :
 Int) ≤
 (↑s.len :
 Int) ∧
 (↑s.len :
 Int) ≤
 (↑s.len :
 Int) ∧
 Nn
 p
 fun
 (l :
 Go.Vc.Loc) ↦
 wok
 h_9
 l.b
 l.o
 (1 :
 Nat) ∧
 Vc.Bind
 (TV.put
 h_9
 l.b
 l.o
 (TV.slice
 (cutSl
 (Sl.mk
 s_13.a
 s_13.len
 (Int.toNat
 (↑s.len :
 Int)))
 (0 :
 Nat)
 (Int.toNat
 (↑s.len :
 Int))
 (67 :
 Nat))))
 fun
 (h_10 :
 Array
 Obj) ↦
 ∃
 (n
 :
 Int),
 ∃
 (b
 :
 Bs
 (32 :
 Nat)),
 ∃
 (n_7
 :
 Int),
 ∃
 (b_6
 :
 Bs
 (32 :
 Nat)),
 ∃
 (s
 :
 List
 UInt8),
 (at1
 h_10
 (Array.size
 h)
 (0 :
 Nat)
 (Value.int
 IntKind.i64
 n) ∧
 atBytes
 h_10
 (Array.size
 h)
 (1 :
 Nat)
 (32 :
 Nat)
 b ∧
 at1
 h_10
 (Array.size
 h)
 (33 :
 Nat)
 (Value.int
 IntKind.i64
 n_7) ∧
 atBytes
 h_10
 (Array.size
 h)
 (34 :
 Nat)
 (32 :
 Nat)
 b_6 ∧
 at1
 h_10
 (Array.size
 h)
 (66 :
 Nat)
 (Value.string
 (ByteArray.mk
 (List.toArray
 s)))) ∧
 wok
 h_10
 (Array.size
 h_1)
 (0 :
 Nat)
 (67 :
 Nat) ∧
 Vc.Bind
 (TV.put
 h_10
 (Array.size
 h_1)
 (0 :
 Nat)
 (TV.agg
 [TV.int
 IntKind.i64
 n,
 TV.bytes
 (32 :
 Nat)
 b,
 TV.int
 IntKind.i64
 n_7,
 TV.bytes
 (32 :
 Nat)
 b_6,
 TV.str
 s]))
 fun
 (h :
 Array
 Obj) ↦
 ∃
 (n
 :
 Int),
 ∃
 (b
 :
 Bs
 (32 :
 Nat)),
 ∃
 (n_8
 :
 Int),
 ∃
 (b_7
 :
 Bs
 (32 :
 Nat)),
 ∃
 (s
 :
 List
 UInt8),
 (at1
 h
 (Array.size
 h_1)
 (0 :
 Nat)
 (Value.int
 IntKind.i64
 n) ∧
 atBytes
 h
 (Array.size
 h_1)
 (1 :
 Nat)
 (32 :
 Nat)
 b ∧
 at1
 h
 (Array.size
 h_1)
 (33 :
 Nat)
 (Value.int
 IntKind.i64
 n_8) ∧
 atBytes
 h
 (Array.size
 h_1)
 (34 :
 Nat)
 (32 :
 Nat)
 b_7 ∧
 at1
 h
 (Array.size
 h_1)
 (66 :
 Nat)
 (Value.string
 (ByteArray.mk
 (List.toArray
 s)))) ∧
 R
 (TV.val
 (TV.tup
 [TV.int
 IntKind.i64
 (2 :
 Int),
 TV.agg
 [TV.int
 IntKind.i64
 n,
 TV.bytes
 (32 :
 Nat)
 b,
 TV.int
 IntKind.i64
 n_8,
 TV.bytes
 (32 :
 Nat)
 b_7,
 TV.str
 s]]))
 h)))
 (Nn p fun (l : Go.Vc.Loc) ↦
 ∃ (s_3 : Sl),
 at1 h_6 l.b l.o (slVal s_3) ∧
 (0 : Int) ≤ s_2 ∧
 s_2 ≤ (↑s_3.cap : Int) ∧
 (0 : Int) ≤ s_2 ∧
 s_2 ≤ s_2 ∧
 ∃ (n : Int),
 ∃ (b : Bs (32 : Nat)),
 ∃ (n_2 : Int),
 ∃ (b_1 : Bs (32 : Nat)),
 ∃ (s_4 : List UInt8),
 (at1 h_6 (Array.size h) (0 : Nat) (Value.int IntKind.i64 n) ∧
 atBytes h_6 (Array.size h) (1 : Nat) (32 : Nat) b ∧
 at1 h_6 (Array.size h) (33 : Nat) (Value.int IntKind.i64 n_2) ∧
 atBytes h_6 (Array.size h) (34 : Nat) (32 : Nat) b_1 ∧
 at1 h_6 (Array.size h) (66 : Nat)
 (Value.string (ByteArray.mk (List.toArray s_4)))) ∧
 Nn p fun (l : Go.Vc.Loc) ↦
 ∃ (s_5 : Sl),
 at1 h_6 l.b l.o (slVal s_5) ∧
 (0 : Int) ≤ s_2 ∧
 s_2 ≤ (↑s_5.len : Int) ∧
 Ext h_6
 (Array.push h_6
 (row
 (TVs.cells
 [TV.agg
 [TV.int IntKind.i64 n, TV.bytes (32 : Nat) b,
 TV.int IntKind.i64 n_2, TV.bytes (32 : Nat) b_1,
 TV.str s_4]])
 (50 : Nat))) ∧
 ∃ (new : List Value),
 slAt
 (Array.push h_6
 (row
 (TVs.cells
 [TV.agg
 [TV.int IntKind.i64 n, TV.bytes (32 : Nat) b,
 TV.int IntKind.i64 n_2, TV.bytes (32 : Nat) b_1,
 TV.str s_4]])
 (50 : Nat)))
 (cutSl s_5 (Int.toNat s_2) s_5.len (67 : Nat)) (67 : Nat) new ∧
 (∀ (v : Value), v ∈ new → isOne v = true) ∧
 vcAppend YtldocdpdjdekiaaGreat.ctx (50 : Nat)
 (Sl.mk (some (Loc.mk (Array.size h_6) (0 : Nat))) (1 : Nat)
 (1 : Nat))
 (cutSl s_5 (Int.toNat s_2) s_5.len (67 : Nat)).len new
 (Array.push h_6
 (row
 (TVs.cells
 [TV.agg
 [TV.int IntKind.i64 n, TV.bytes (32 : Nat) b,
 TV.int IntKind.i64 n_2, TV.bytes (32 : Nat) b_1,
 TV.str s_4]])
 (50 : Nat)))
 fun (s_6 : Sl) (h : Array Obj) ↦
 Ext
 (Array.push h_6
 (row
 (TVs.cells
 [TV.agg
 [TV.int IntKind.i64 n, TV.bytes (32 : Nat) b,
 TV.int IntKind.i64 n_2, TV.bytes (32 : Nat) b_1,
 TV.str s_4]])
 (50 : Nat)))
 h ∧
 ∃ (new : List Value),
 slAt h s_6 (67 : Nat) new ∧
 (∀ (v : Value), v ∈ new → isOne v = true) ∧
 vcAppend YtldocdpdjdekiaaGreat.ctx (50 : Nat)
 (cutSl (Sl.mk s_3.a s_3.len (Int.toNat s_2)) (0 : Nat)
 (Int.toNat s_2) (67 : Nat))
 s_6.len new h fun (s_7 : Sl) (h : Array Obj) ↦
 Nn p fun (l : Go.Vc.Loc) ↦
 wok h l.b l.o (1 : Nat) ∧
 Vc.Bind (TV.put h l.b l.o (TV.slice s_7))
 fun (h : Array Obj) ↦
 Nn p fun (l : Go.Vc.Loc) ↦
 ∃ (n : Int),
 at1 h l.b (l.o + (1 : Nat))
 (Value.int IntKind.i64 n) ∧
 If (decide ((↑s.len : Int) < n))
 (wok h (Array.size h_1) (0 : Nat)
 (67 : Nat) ∧
 Vc.Bind
 (TV.put h (Array.size h_1) (0 : Nat)
 (TV.agg
 [TV.int IntKind.i64 (0 : Int),
 TV.bytes (32 : Nat)
 (Bs.zero (32 : Nat)),
 TV.int IntKind.i64 (0 : Int),
 TV.bytes (32 : Nat)
 (Bs.zero (32 : Nat)),
 TV.str []]))
 fun (h : Array Obj) ↦
 ∃ (n : Int),
 ∃ (b : Bs (32 : Nat)),
 ∃ (n_3 : Int),
 ∃ (b_2 : Bs (32 : Nat)),
 ∃ (s : List UInt8),
 (at1 h (Array.size h_1)
 (0 : Nat)
 (Value.int
 IntKind.i64 n) ∧
 atBytes h
 (Array.size h_1)
 (1 : Nat)
 (32 : Nat) b ∧
 at1 h
 (Array.size h_1)
 (33 : Nat)
 (Value.int
 IntKind.i64
 n_3) ∧
 atBytes h
 (Array.size
 h_1)
 (34 : Nat)
 (32 : Nat)
 b_2 ∧
 at1 h
 (Array.size
 h_1)
 (66 : Nat)
 (Value.string
 (ByteArray.mk
 (List.toArray
 s)))) ∧
 R
 (TV.val
 (TV.tup
 [TV.int
 IntKind.i64
 (1 : Int),
 TV.agg
 [TV.int
 IntKind.i64
 n,
 TV.bytes
 (32 : Nat)
 b,
 TV.int
 IntKind.i64
 n_3,
 TV.bytes
 (32 : Nat)
 b_2,
 TV.str s]]))
 h)
 (Nn p fun (l : Go.Vc.Loc) ↦
 ∃ (s_8 : Sl),
 at1 h l.b l.o (slVal s_8) ∧
 (0 : Int) ≤ (↑s.len : Int) ∧
 (↑s.len : Int) <
 (↑s_8.len : Int) ∧
 Nn s_8.a fun (l : Go.Vc.Loc) ↦
 ∃ (n : Int),
 ∃ (b : Bs (32 : Nat)),
 ∃ (n_3 : Int),
 ∃ (b_2 :
 Bs (32 : Nat)),
 ∃ (s_9 :
 List UInt8),
 (at1 h l.b
 (l.o +
 Int.toNat
 (↑s.len :
 Int) *
 (67 :
 Nat))
 (Value.int
 IntKind.i64
 n) ∧
 atBytes h l.b
 (l.o +
 Int.toNat
 (↑s.len :
 Int) *
 (67 :
 Nat) +
 (1 :
 Nat))
 (32 : Nat)
 b ∧
 at1 h l.b
 (l.o +
 Int.toNat
 (↑s.len :
 Int) *
 (67 :
 Nat) +
 (1 :
 Nat) +
 (32 :
 Nat))
 (Value.int
 IntKind.i64
 n_3) ∧
 atBytes h
 l.b
 (l.o +
 Int.toNat
 (↑s.len :
 Int) *
 (67 :
 Nat) +
 (1 :
 Nat) +
 (32 :
 Nat) +
 (1 :
 Nat))
 (32 :
 Nat)
 b_2 ∧
 at1 h
 l.b
 (l.o +
 Int.toNat
 (↑s.len :
 Int) *
 (67 :
 Nat) +
 (1 :
 Nat) +
 (32 :
 Nat) +
 (1 :
 Nat) +
 (32 :
 Nat))
 (Value.string
 (ByteArray.mk
 (List.toArray
 s_9)))) ∧
 Vc.Bind
 (newTV h
 (TV.agg
 [TV.int
 IntKind.i64
 (0 :
 Int),
 TV.bytes
 (32 :
 Nat)
 (Bs.zero
 (32 :
 Nat)),
 TV.int
 IntKind.i64
 (0 :
 Int),
 TV.bytes
 (32 :
 Nat)
 (Bs.zero
 (32 :
 Nat)),
 TV.str
 []])
 (50 : Nat))
 fun
 (h_7 :
 Array
 Obj) ↦
 wok h_7
 (Array.size
 h)
 (0 : Nat)
 (67 :
 Nat) ∧
 Vc.Bind
 (TV.put
 h_7
 (Array.size
 h)
 (0 :
 Nat)
 (TV.agg
 [TV.int
 IntKind.i64
 n,
 TV.bytes
 (32 :
 Nat)
 b,
 TV.int
 IntKind.i64
 n_3,
 TV.bytes
 (32 :
 Nat)
 b_2,
 TV.str
 s_9]))
 fun
 (h_8 :
 Array
 Obj) ↦
 Nn p
 fun
 (l :
 Go.Vc.Loc) ↦
 ∃ (s_10
 : Sl),
 at1
 h_8
 l.b
 l.o
 (slVal
 s_10) ∧
 (0 :
 Int) ≤
 (↑s.len :
 Int) ∧
 (↑s.len :
 Int) ≤
 (↑s_10.cap :
 Int) ∧
 (0 :
 Int) ≤
 (↑s.len :
 Int) ∧
 (↑s.len :
 Int) ≤
 (↑s.len :
 Int) ∧
 Nn
 p
 fun
 (l :
 Go.Vc.Loc) ↦
 wok
 h_8
 l.b
 l.o
 (1 :
 Nat) ∧
 Vc.Bind
 (TV.put
 h_8
 l.b
 l.o
 (TV.slice
 (cutSl
 (Sl.mk
 s_10.a
 s_10.len
 (Int.toNat
 (↑s.len :
 Int)))
 (0 :
 Nat)
 (Int.toNat
 (↑s.len :
 Int))
 (67 :
 Nat))))
 fun
 (h_9 :
 Array
 Obj) ↦
 ∃
 (n
 :
 Int),
 ∃
 (b
 :
 Bs
 (32 :
 Nat)),
 ∃
 (n_4
 :
 Int),
 ∃
 (b_3
 :
 Bs
 (32 :
 Nat)),
 ∃
 (s
 :
 List
 UInt8),
 (at1
 h_9
 (Array.size
 h)
 (0 :
 Nat)
 (Value.int
 IntKind.i64
 n) ∧
 atBytes
 h_9
 (Array.size
 h)
 (1 :
 Nat)
 (32 :
 Nat)
 b ∧
 at1
 h_9
 (Array.size
 h)
 (33 :
 Nat)
 (Value.int
 IntKind.i64
 n_4) ∧
 atBytes
 h_9
 (Array.size
 h)
 (34 :
 Nat)
 (32 :
 Nat)
 b_3 ∧
 at1
 h_9
 (Array.size
 h)
 (66 :
 Nat)
 (Value.string
 (ByteArray.mk
 (List.toArray
 s)))) ∧
 wok
 h_9
 (Array.size
 h_1)
 (0 :
 Nat)
 (67 :
 Nat) ∧
 Vc.Bind
 (TV.put
 h_9
 (Array.size
 h_1)
 (0 :
 Nat)
 (TV.agg
 [TV.int
 IntKind.i64
 n,
 TV.bytes
 (32 :
 Nat)
 b,
 TV.int
 IntKind.i64
 n_4,
 TV.bytes
 (32 :
 Nat)
 b_3,
 TV.str
 s]))
 fun
 (h :
 Array
 Obj) ↦
 ∃
 (n
 :
 Int),
 ∃
 (b
 :
 Bs
 (32 :
 Nat)),
 ∃
 (n_5
 :
 Int),
 ∃
 (b_4
 :
 Bs
 (32 :
 Nat)),
 ∃
 (s
 :
 List
 UInt8),
 (at1
 h
 (Array.size
 h_1)
 (0 :
 Nat)
 (Value.int
 IntKind.i64
 n) ∧
 atBytes
 h
 (Array.size
 h_1)
 (1 :
 Nat)
 (32 :
 Nat)
 b ∧
 at1
 h
 (Array.size
 h_1)
 (33 :
 Nat)
 (Value.int
 IntKind.i64
 n_5) ∧
 atBytes
 h
 (Array.size
 h_1)
 (34 :
 Nat)
 (32 :
 Nat)
 b_4 ∧
 at1
 h
 (Array.size
 h_1)
 (66 :
 Nat)
 (Value.string
 (ByteArray.mk
 (List.toArray
 s)))) ∧
 R
 (TV.val
 (TV.tup
 [TV.int
 IntKind.i64
 (2 :
 Int),
 TV.agg
 [TV.int
 IntKind.i64
 n,
 TV.bytes
 (32 :
 Nat)
 b,
 TV.int
 IntKind.i64
 n_5,
 TV.bytes
 (32 :
 Nat)
 b_4,
 TV.str
 s]]))
 h)))
 fun (J : Int → Array Obj → Prop) ↦
 Nn p fun (l : Go.Vc.Loc) ↦
 ∃ (n : Int),
 at1 h_4 l.b (l.o + (1 : Nat)) (Value.int IntKind.i64 n) ∧
 If (decide (n ≤ (↑s.len : Int)))
 (∃ (n : Int),
 ∃ (b : Bs (32 : Nat)),
 ∃ (n_2 : Int),
 ∃ (b_1 : Bs (32 : Nat)),
 ∃ (s_1 : List UInt8),
 (at1 h_4 (Array.size h) (0 : Nat) (Value.int IntKind.i64 n) ∧
 atBytes h_4 (Array.size h) (1 : Nat) (32 : Nat) b ∧
 at1 h_4 (Array.size h) (33 : Nat) (Value.int IntKind.i64 n_2) ∧
 atBytes h_4 (Array.size h) (34 : Nat) (32 : Nat) b_1 ∧
 at1 h_4 (Array.size h) (66 : Nat) (Value.string (ByteArray.mk (List.toArray s_1)))) ∧
 Nn p fun (l : Go.Vc.Loc) ↦
 ∃ (s_2 : Sl),
 at1 h_4 l.b l.o (slVal s_2) ∧
 (0 : Int) ≤ IntKind.wrap IntKind.i64 ((↑s.len : Int) - (1 : Int)) ∧
 IntKind.wrap IntKind.i64 ((↑s.len : Int) - (1 : Int)) < (↑s_2.len : Int) ∧
 Nn s_2.a fun (l : Go.Vc.Loc) ↦
 ∃ (n_3 : Int),
 ∃ (b_2 : Bs (32 : Nat)),
 ∃ (n_4 : Int),
 ∃ (b_3 : Bs (32 : Nat)),
 ∃ (s_3 : List UInt8),
 (at1 h_4 l.b
 (l.o +
 Int.toNat
 (IntKind.wrap IntKind.i64 ((↑s.len : Int) - (1 : Int))) *
 (67 : Nat))
 (Value.int IntKind.i64 n_3) ∧
 atBytes h_4 l.b
 (l.o +
 Int.toNat
 (IntKind.wrap IntKind.i64 ((↑s.len : Int) - (1 : Int))) *
 (67 : Nat) +
 (1 : Nat))
 (32 : Nat) b_2 ∧
 at1 h_4 l.b
 (l.o +
 Int.toNat
 (IntKind.wrap IntKind.i64
 ((↑s.len : Int) - (1 : Int))) *
 (67 : Nat) +
 (1 : Nat) +
 (32 : Nat))
 (Value.int IntKind.i64 n_4) ∧
 atBytes h_4 l.b
 (l.o +
 Int.toNat
 (IntKind.wrap IntKind.i64
 ((↑s.len : Int) - (1 : Int))) *
 (67 : Nat) +
 (1 : Nat) +
 (32 : Nat) +
 (1 : Nat))
 (32 : Nat) b_3 ∧
 at1 h_4 l.b
 (l.o +
 Int.toNat
 (IntKind.wrap IntKind.i64
 ((↑s.len : Int) - (1 : Int))) *
 (67 : Nat) +
 (1 : Nat) +
 (32 : Nat) +
 (1 : Nat) +
 (32 : Nat))
 (Value.string (ByteArray.mk (List.toArray s_3)))) ∧
 CallsH Tryz.prog (85 : Nat)
 (TVs.vals
 [TV.agg
 [TV.int IntKind.i64 n, TV.bytes (32 : Nat) b,
 TV.int IntKind.i64 n_2, TV.bytes (32 : Nat) b_1, TV.str s_1],
 TV.agg
 [TV.int IntKind.i64 n_3, TV.bytes (32 : Nat) b_2,
 TV.int IntKind.i64 n_4, TV.bytes (32 : Nat) b_3, TV.str s_3]])
 h_4 fun (v : Value) (h : Array Obj) ↦
 ∃ (b : Bool),
 v = TV.val (TV.bool b) ∧
 If (!b)
 (wok h (Array.size h_1) (0 : Nat) (67 : Nat) ∧
 Vc.Bind
 (TV.put h (Array.size h_1) (0 : Nat)
 (TV.agg
 [TV.int IntKind.i64 (0 : Int),
 TV.bytes (32 : Nat) (Bs.zero (32 : Nat)),
 TV.int IntKind.i64 (0 : Int),
 TV.bytes (32 : Nat) (Bs.zero (32 : Nat)), TV.str []]))
 fun (h : Array Obj) ↦
 ∃ (n : Int),
 ∃ (b : Bs (32 : Nat)),
 ∃ (n_5 : Int),
 ∃ (b_4 : Bs (32 : Nat)),
 ∃ (s : List UInt8),
 (at1 h (Array.size h_1) (0 : Nat)
 (Value.int IntKind.i64 n) ∧
 atBytes h (Array.size h_1) (1 : Nat)
 (32 : Nat) b ∧
 at1 h (Array.size h_1) (33 : Nat)
 (Value.int IntKind.i64 n_5) ∧
 atBytes h (Array.size h_1) (34 : Nat)
 (32 : Nat) b_4 ∧
 at1 h (Array.size h_1) (66 : Nat)
 (Value.string
 (ByteArray.mk (List.toArray s)))) ∧
 R
 (TV.val
 (TV.tup
 [TV.int IntKind.i64 (12 : Int),
 TV.agg
 [TV.int IntKind.i64 n,
 TV.bytes (32 : Nat) b,
 TV.int IntKind.i64 n_5,
 TV.bytes (32 : Nat) b_4,
 TV.str s]]))
 h)
 (J (0 : Int) h))
 (J (0 : Int) h_4)))

theorem tollerref15_Pool_Put_calls (p : Option Go.Vc.Loc) (x_Slot : Int) (x_Root : Bs (32 : Nat)) (x_Peer : Int) (x_For : Bs (32 : Nat)) (x_Text : List UInt8) (h : Heap) (R : Value → Heap → Prop) (H : tollerref15_Pool_Put_vc p x_Slot x_Root x_Peer x_For x_Text h R) : CallsH Tryz.prog 51 (TVs.vals [TV.ptr p, TV.agg [TV.int IntKind.i64 x_Slot, TV.bytes (32 : Nat) x_Root, TV.int IntKind.i64 x_Peer, TV.bytes (32 : Nat) x_For, TV.str x_Text]]) h R :=
 vcFn_sound (C := ctx) ctx_ok (fn := Tryz.f51) Tryz.func51 ((by kernel_rfl : tollerref15_Pool_Put_vc p x_Slot x_Root x_Peer x_For x_Text h R = vcFn ctx Tryz.f51 [TV.ptr p, TV.agg [TV.int IntKind.i64 x_Slot, TV.bytes (32 : Nat) x_Root, TV.int IntKind.i64 x_Peer, TV.bytes (32 : Nat) x_For, TV.str x_Text]] h R) ▸ H)


end Go.Proofs.YtldocdpdjdekiaaGreat
end

section
/- The document's pool: items in order; what its functions do. -/
namespace Go.Proofs.YtldocdpdjdekiaaGreat.Pool
open Go Go.Vc

/-- Appending to a row without room: a new row. -/
theorem append_full {C : Ctx} {T : TypeId} {sz : Nat} {h : Heap} {t s : Sl} {ts us : List TV} {K : Sl → Heap → Prop} (hsz : (C.ti T).size = sz) (hz : (C.ti T).z.size = sz) (hpos : 0 < (C.ti T).bytes) (h0 : 0 < sz)
    (hb : (t.len + s.len) * (C.ti T).bytes ≤ 70368744177664) (e0 : Elems sz h t ts) (hts : ∀ u ∈ ts, u.size = sz) (hfull : t.len = t.cap) (e : Elems sz h s us) (hs : ∀ u ∈ us, u.size = sz) (hp : ∀ u ∈ us, u.plain = true) (hne : 0 < s.len)
    (hk : ∀ t' h', Own T sz h' t' (ts ++ us) → Ext h h' → (∀ l, t'.a = some l → h.size ≤ l.b) → K t' h') :
    ∃ new, slAt h s sz new ∧ (∀ v ∈ new, isOne v = true) ∧ vcAppend C T t s.len new h K := by
  refine ⟨TVs.cells us, e.cells hs h0, TVs.plain_cells_of hp, TVs.cells ts, ?_, hb, hpos, fun hroom => by omega, fun hroom => by omega, fun _ c hc => ?_⟩
  · rw [hsz]
    exact e0.cells hts h0
  · have elen := e.len
    have olen := e0.len
    refine hk _ _ ⟨fun x hx => ?_, by simp [olen, elen], hc, .inr ⟨_, zeros (C.ti T).z (c - (t.len + s.len)), rfl, ?_, ?_⟩⟩ (Ext.push _ _) fun l hl => ?_
    · rcases List.mem_append.1 hx with h1 | h1
      · exact hts x h1
      · exact hs x h1
    · rw [push_get, TVs.cells_append]
    · rw [zeros_length, hz]
    · cases hl
      exact Nat.le_refl _

theorem cut67 {h : Heap} {s : Sl} {ts : List TV} {i j : Nat} (e : Elems 67 h s ts) (hij : i ≤ j) (hj : j ≤ s.len) (c : Nat) (hc : j ≤ c) : Elems 67 h (cutSl (Sl.mk s.a s.len c) i j 67) ((ts.drop i).take (j - i)) := by
  have hl := e.len
  refine ⟨by simp only [cutSl, List.length_take, List.length_drop]; omega, fun hn => ?_, fun l hla k t ht => ?_⟩
  · have : ts = [] ∨ j - i = 0 := by
      unfold cutSl at hn
      simp only at hn
      split at hn
      · right; omega
      · left
        cases hs : s.a with
        | none => exact e.nil hs
        | some l => rw [hs] at hn; simp at hn
    rcases this with rfl | h0
    · simp
    · rw [h0]; simp
  · unfold cutSl at hla
    simp only at hla
    rw [List.getElem?_take] at ht
    split at ht
    · rename_i hk
      rw [List.getElem?_drop] at ht
      split at hla
      · omega
      · cases hs : s.a with
        | none => rw [hs] at hla; simp at hla
        | some l0 =>
          rw [hs] at hla
          simp only [Option.map_some, Option.some.injEq] at hla
          subst hla
          have := e.get l0 hs (i + k) t ht
          rw [Nat.add_mul, ← Nat.add_assoc] at this
          exact this
    · cases ht

/-- The first place ahead of which an item comes. -/
theorem ins_at (x : It) : ∀ (M : List It) (i : Nat), i ≤ M.length → (∀ j y, j < i → M[j]? = some y → bf x y = false) → (i = M.length ∨ ∃ y, M[i]? = some y ∧ bf x y = true) → insIt x M = M.take i ++ ([x] ++ M.drop i)
  | [], i, hi, _, _ => by
    have : i = 0 := by simpa using hi
    subst this
    rfl
  | y :: ys, 0, _, _, h => by
    rcases h with h | ⟨z, hz, hb⟩
    · cases h
    · injection hz with hz
      subst hz
      rw [insIt, if_pos hb]
      rfl
  | y :: ys, i + 1, hi, hj, h => by
    have hy := hj 0 y (Nat.succ_pos _) rfl
    have ih := ins_at x ys i (by simpa using hi) (fun j z hji hz => hj (j + 1) z (by omega) hz) (by
      rcases h with h | ⟨z, hz, hb⟩
      · left; simpa using h
      · right; exact ⟨z, hz, hb⟩)
    rw [insIt, if_neg (by rw [hy]; decide), ih]
    rfl

theorem insIt_length (x : It) (M : List It) : (insIt x M).length = M.length + 1 := by rw [(insIt_perm x M).length_eq, List.length_cons]

theorem insIt_last {x y : It} {M : List It} (hl : M.getLast? = some y) (hb : bf x y = true) : insIt x M = insIt x M.dropLast ++ [y] := by
  obtain ⟨l, rfl⟩ := List.getLast?_eq_some_iff.1 hl
  rw [List.dropLast_concat]
  clear hl
  induction l with
  | nil => simp [insIt, hb]
  | cons z zs ih =>
    rw [List.cons_append, insIt, insIt]
    split
    · rfl
    · rw [ih]; rfl

/-- The document's pool in memory. -/
structure RL (h : Heap) (m : Nat) (A : Sl) (M : List It) (most quota : Int) : Prop where
  var : Var 48 h m (.agg [.slice A, .int .i64 most, .int .i64 quota])
  el : Elems 67 h A (its M)
  cap : A.len ≤ A.cap
  apart : ∀ l, A.a = some l → l.b ≠ m
  low : ∀ l, A.a = some l → l.b < h.size
  few : M.length < 900

section
variable {R : Value → Heap → Prop} {h : Heap} {m : Nat} {A : Sl} {M : List It} {most quota : Int}

theorem RL.only {h' : Heap} {Q : Nat → Prop} (r : RL h m A M most quota) (o : Only Q h h') (hm : ¬ Q m) (hA : ∀ l, A.a = some l → ¬ Q l.b) : RL h' m A M most quota :=
  ⟨r.var.only o hm, r.el.only o hA, r.cap, r.apart, fun l hl => Nat.lt_of_lt_of_le (r.low l hl) o.size, r.few⟩
theorem RL.ext {h' : Heap} (r : RL h m A M most quota) (x : Ext h h') : RL h' m A M most quota :=
  ⟨r.var.ext x, r.el.ext x, r.cap, r.apart, fun l hl => Nat.lt_of_lt_of_le (r.low l hl) x.size, r.few⟩
theorem RL.len (r : RL h m A M most quota) : M.length = A.len := by have := r.el.len; rwa [List.length_map] at this

theorem rless_spec {a b : Bs 32} (hr : ∀ h', Ext h h' → R (TV.bool (Op.bytesLess a.l b.l)).val h') : CallsH Tryz.prog 105 (TVs.vals [.bytes 32 a, .bytes 32 b]) h R := by
  apply tollerref03_Less_calls
  unfold tollerref03_Less_vc
  refine newTV_in fun h1 v1 x1 s1 => newTV_in fun h2 v2 x2 s2 => ?_
  have v1' := v1.ext x2
  have byte_at : ∀ {h : Heap} {b : Nat} {x : Bs 32} {i : Nat}, Var 24 h b (.bytes 32 x) → (hi : i < 32) → at1 h b (0 + i * 1) (.int .u8 ((x.l[i]'(by rw [x.h]; exact hi)).toNat : Int)) := by
    intro h b x i v hi
    have := v.bytes i hi
    rw [Nat.mul_one]
    unfold at1
    rw [this]
    have hl : i < x.l.length := by rw [x.h]; exact hi
    simp [List.getD, hl]
  refine ⟨fun s hh => 0 ≤ s.2 ∧ s.2 ≤ 32 ∧ hh = h2 ∧ Op.bytesLess a.l b.l = Op.bytesLess (a.l.drop s.2.toNat) (b.l.drop s.2.toNat), fun s _ => ((32 : Int) - s.2).toNat, ⟨by simp, by simp, rfl, by simp⟩, ?_⟩
  rintro ⟨x, i⟩ hh ⟨i0, i1, rfl, hl⟩
  simp only at i0 i1 hl ⊢
  have ha := a.h
  have hb := b.h
  refine If.dec.2 ⟨fun hi => ?_, fun hi => ?_⟩
  · have ni : i.toNat < 32 := by omega
    have da : a.l.drop i.toNat = a.l[i.toNat] :: a.l.drop (i.toNat + 1) := List.drop_eq_getElem_cons (by omega)
    have db : b.l.drop i.toNat = b.l[i.toNat] :: b.l.drop (i.toNat + 1) := List.drop_eq_getElem_cons (by omega)
    rw [da, db] at hl
    simp only [Op.bytesLess] at hl
    refine ⟨i0, hi, _, byte_at v1' ni, i0, hi, _, byte_at v2 ni, ?_⟩
    refine If.split (fun hne => ?_) (fun he => ?_)
    · refine ⟨i0, hi, _, byte_at v1' ni, i0, hi, _, byte_at v2 ni, ?_⟩
      have hne' : (a.l[i.toNat] == b.l[i.toNat]) = false := by
        rw [beq_eq_false_iff_ne]
        intro hx
        rw [hx] at hne
        simp at hne
      rw [hne', Bool.false_and, Bool.or_false] at hl
      have : Op.bytesLess a.l b.l = decide (((a.l[i.toNat]).toNat : Int) < ((b.l[i.toNat]).toNat : Int)) := by
        rw [hl]
        refine decide_eq_decide.2 ?_
        rw [UInt8.lt_iff_toNat_lt]
        omega
      rw [← this]
      exact hr _ (x1.trans x2)
    · have he' : a.l[i.toNat] = b.l[i.toNat] := by
        simp only [Bool.not_eq_false', decide_eq_true_eq] at he
        exact UInt8.toNat_inj.1 (by omega)
      rw [wrap_i64 (by omega) (by omega)]
      refine ⟨⟨by omega, by omega, by trivial, ?_⟩, by first | omega | (dsimp only; omega)⟩
      have hi' : (i + 1).toNat = i.toNat + 1 := by omega
      rw [hi', hl, he']
      have : ¬ (b.l[i.toNat] < b.l[i.toNat]) := UInt8.lt_irrefl _
      simp [this]
  · have hi' : i.toNat = 32 := by omega
    rw [hi', List.drop_eq_nil_of_le (by omega), List.drop_eq_nil_of_le (by omega)] at hl
    simp only [Op.bytesLess] at hl
    rw [hl] at hr
    exact hr _ (x1.trans x2)

theorem rbefore_spec {x y : It} (hr : ∀ h', Ext h h' → R (TV.bool (bf x y)).val h') : CallsH Tryz.prog 85 (TVs.vals [x.tv, y.tv]) h R := by
  apply tollerref15_Before_calls x.slot x.root x.peer x.fr x.text y.slot y.root y.peer y.fr y.text
  unfold tollerref15_Before_vc
  refine newTV_in fun h1 v1 x1 s1 => newTV_in fun h2 v2 x2 s2 => ?_
  have v1' := v1.ext x2
  have x12 := x1.trans x2
  refine ⟨x.slot, v_slot (x := x) v1', y.slot, v_slot (x := y) v2, If.split (fun hne => ?_) fun he => ?_⟩
  · have hne' : x.slot ≠ y.slot := by simpa using hne
    refine ⟨x.slot, v_slot (x := x) v1', y.slot, v_slot (x := y) v2, ?_⟩
    have := hr h2 x12
    rwa [show bf x y = decide (x.slot < y.slot) by unfold bf; simp [hne']] at this
  · have he' : x.slot = y.slot := by simpa using he
    refine ⟨x.root, v_root (x := x) v1', y.root, v_root (x := y) v2, rless_spec fun h' x' => ⟨_, rfl, ?_⟩⟩
    have := hr h' (x12.trans x')
    rwa [show bf x y = Op.bytesLess x.root.l y.root.l by unfold bf; simp [he']] at this

theorem rof_spec (r : RL h m A M most quota) {k : Int} (hr : ∀ h', Ext h h' → R (TV.int .i64 (cnt k M : Int)).val h') : CallsH Tryz.prog 84 (TVs.vals [.ptr (some ⟨m, 0⟩), .int .i64 k]) h R := by
  apply tollerref15_Pool_Of_calls
  unfold tollerref15_Pool_Of_vc
  have few := r.few
  have hel := r.len
  refine ⟨A, r.var.at1 rfl, ?_⟩
  refine ⟨fun s hh => 0 ≤ s.2 ∧ s.2 ≤ M.length ∧ Ext h hh ∧ s.1 = (cnt k (M.take s.2.toNat) : Int), fun s _ => ((M.length : Int) - s.2).toNat, ⟨Int.le_refl _, Int.natCast_nonneg _, Ext.refl _, rfl⟩, ?_⟩
  rintro ⟨n, i⟩ hh ⟨i0, i1, x, hn⟩
  simp only at i0 i1 hn ⊢
  have hcl : cnt k (M.take i.toNat) ≤ 900 := by
    unfold cnt
    have := List.countP_le_length (p := fun x : It => decide (x.peer = k)) (l := M.take i.toNat)
    rw [List.length_take] at this
    omega
  refine If.dec.2 ⟨fun hi => ?_, fun hi => ?_⟩
  · refine its_at (r.el.ext x) i0 (by omega) fun l y _ hy => ?_
    refine newTV_in fun h2 v2 x2 s2 => ?_
    refine put_in v2 (t := y.tv) rfl fun h3 v3 o3 s3 => ?_
    have x23 : Ext hh h3 := Only.cut x2 o3 fun j hj => by omega
    refine ⟨y.peer, v_peer (x := y) v3, ?_⟩
    have hi' : (i + 1).toNat = i.toNat + 1 := by omega
    have htk : M.take (i.toNat + 1) = M.take i.toNat ++ [y] := by rw [List.take_add_one, hy]; rfl
    have hc1 : cnt k (M.take (i.toNat + 1)) = cnt k (M.take i.toNat) + if y.peer = k then 1 else 0 := by
      rw [htk]
      unfold cnt
      rw [List.countP_append, List.countP_singleton]
      by_cases hk : y.peer = k <;> simp [hk]
    rw [wrap_i64 (n := i + 1) (by omega) (by omega)]
    refine If.dec.2 ⟨fun hk => ?_, fun hk => ?_⟩
    · rw [wrap_i64 (n := n + 1) (by omega) (by omega)]
      rw [if_pos hk] at hc1
      exact ⟨⟨by first | omega | (dsimp only; omega), by first | omega | (dsimp only; omega), x.trans x23, by rw [hi', hc1]; omega⟩, by first | omega | (dsimp only; omega)⟩
    · rw [if_neg hk] at hc1
      exact ⟨⟨by first | omega | (dsimp only; omega), by first | omega | (dsimp only; omega), x.trans x23, by rw [hi', hc1]; omega⟩, by first | omega | (dsimp only; omega)⟩
  · have hi2 : i.toNat = M.length := by omega
    rw [hi2, List.take_length] at hn
    rw [hn]
    exact hr hh x

theorem rhas_spec (r : RL h m A M most quota) {k : Bs 32} (hr : ∀ h', Ext h h' → R (TV.bool (has k M)).val h') : CallsH Tryz.prog 20 (TVs.vals [.ptr (some ⟨m, 0⟩), .bytes 32 k]) h R := by
  apply tollerref15_Pool_Has_calls
  unfold tollerref15_Pool_Has_vc
  have few := r.few
  have hel := r.len
  refine newTV_in fun h1 v1 x1 s1 => ?_
  refine ⟨A, (r.var.ext x1).at1 rfl, ?_⟩
  refine ⟨fun s hh => 0 ≤ s.2 ∧ s.2 ≤ M.length ∧ Ext h1 hh ∧ has k (M.take s.2.toNat) = false, fun s _ => ((M.length : Int) - s.2).toNat, ⟨Int.le_refl _, Int.natCast_nonneg _, Ext.refl _, rfl⟩, ?_⟩
  rintro ⟨n, i⟩ hh ⟨i0, i1, x, hn⟩
  simp only at i0 i1 hn ⊢
  refine If.dec.2 ⟨fun hi => ?_, fun hi => ?_⟩
  · refine its_at (r.el.ext (x1.trans x)) i0 (by omega) fun l y _ hy => ?_
    refine newTV_in fun h2 v2 x2 s2 => ?_
    refine put_in v2 (t := y.tv) rfl fun h3 v3 o3 s3 => ?_
    have x23 : Ext hh h3 := Only.cut x2 o3 fun j hj => by omega
    refine ⟨y.root, v_root (x := y) v3, k, ((v1.ext x).ext x23).bytes, ?_⟩
    have hi' : (i + 1).toNat = i.toNat + 1 := by omega
    refine If.dec.2 ⟨fun hk => ?_, fun hk => ?_⟩
    · have : has k M = true := List.any_eq_true.2 ⟨y, List.mem_of_getElem? hy, by simp [Bs.ext' hk]⟩
      rw [this] at hr
      exact hr h3 ((x1.trans x).trans x23)
    · rw [wrap_i64 (n := i + 1) (by omega) (by omega)]
      have htk : M.take (i.toNat + 1) = M.take i.toNat ++ [y] := by rw [List.take_add_one, hy]; rfl
      refine ⟨⟨by first | omega | (dsimp only; omega), by first | omega | (dsimp only; omega), x.trans x23, ?_⟩, by first | omega | (dsimp only; omega)⟩
      try dsimp only
      rw [hi', htk]
      unfold has at hn ⊢
      rw [List.any_append, hn, Bool.false_or]
      have : y.root ≠ k := fun e => hk (by rw [e])
      simp [this]
  · have hi2 : i.toNat = M.length := by omega
    rw [hi2, List.take_length] at hn
    rw [hn] at hr
    exact hr hh (x1.trans x)

theorem rnew_spec {q : Int} (hr : ∀ h' b, RL h' h.size Sl.nil [] most q → Ext h h' → b = decide (1 ≤ most ∧ most ≤ 64 ∧ 1 ≤ q ∧ q ≤ 64) → R (TV.tup [.ptr (some ⟨h.size, 0⟩), .bool b]).val h') : CallsH Tryz.prog 15 (TVs.vals [.int .i64 most, .int .i64 q]) h R := by
  apply tollerref15_New_calls
  unfold tollerref15_New_vc
  refine newTV_in fun h1 v1 x1 s1 => ?_
  have r1 : RL h1 h.size Sl.nil [] most q := ⟨v1, Elems.nil_ 67 h1, Nat.le_refl _, (fun l hl => by cases hl), (fun l hl => by cases hl), by decide⟩
  refine If.dec.2 ⟨fun h1' => If.dec.2 ⟨fun h2 => If.dec.2 ⟨fun h3 => hr h1 _ r1 x1 (by simp [h1', h2, h3]), fun h3 => ?_⟩, fun h2 => ?_⟩, fun h1' => ?_⟩
  · exact hr h1 _ r1 x1 (decide_eq_false (by omega)).symm
  · exact hr h1 _ r1 x1 (decide_eq_false (by omega)).symm
  · exact hr h1 _ r1 x1 (decide_eq_false (by omega)).symm

end
end Go.Proofs.YtldocdpdjdekiaaGreat.Pool
end

section
/- The document's Put does what the program's Put does to the items in order. -/
namespace Go.Proofs.YtldocdpdjdekiaaGreat.Pool
open Go Go.Vc
section
variable {R : Value → Heap → Prop} {h : Heap} {m : Nat} {A : Sl} {M : List It} {most quota : Int}

theorem zero_sz (x : It) : x.tv.size = It.zero.tv.size := rfl

set_option maxHeartbeats 1000000 in
theorem docput_spec (r : RL h m A M most quota) (x : It) (hm : 1 ≤ most) (hmm : most ≤ 64) (hlen : (M.length : Int) ≤ most)
    (hr : ∀ h' A', RL h' m A' (putS most quota x M).2.2 most quota → Only (· = m) h h' → (∀ l, A'.a = some l → (∃ l', A.a = some l' ∧ l'.b = l.b) ∨ h.size ≤ l.b) → R (TV.tup [.int .i64 (putS most quota x M).1, (putS most quota x M).2.1.tv]).val h') :
    CallsH Tryz.prog 51 (TVs.vals [.ptr (some ⟨m, 0⟩), x.tv]) h R := by
  apply tollerref15_Pool_Put_calls (some ⟨m, 0⟩) x.slot x.root x.peer x.fr x.text
  unfold tollerref15_Pool_Put_vc
  have mlt := r.var.lt
  refine newTV_in fun h1 v1 x1 s1 => newTV_in fun h2 v2 x2 s2 => ?_
  have v1' : Var 50 h2 h.size x.tv := v1.ext x2
  have x12 := x1.trans x2
  -- an answer, with what gives way
  have ans : ∀ (hh : Heap) (A' : Sl) (S' : List It) (v : Int) (y : It), Var 50 hh h1.size It.zero.tv → RL hh m A' S' most quota → Only (· = m) h hh → (∀ l, A'.a = some l → (∃ l', A.a = some l' ∧ l'.b = l.b) ∨ h.size ≤ l.b) → (∀ l, A'.a = some l → l.b ≠ h1.size) → putS most quota x M = (v, y, S') →
      wok hh h1.size 0 67 ∧ Bind (TV.put hh h1.size 0 y.tv) fun (h : Heap) =>
        ∃ (n : Int), ∃ (c : Bs 32), ∃ (n1 : Int), ∃ (c1 : Bs 32), ∃ (s : List UInt8), (at1 h h1.size 0 (.int .i64 n) ∧ atBytes h h1.size 1 32 c ∧ at1 h h1.size 33 (.int .i64 n1) ∧ atBytes h h1.size 34 32 c1 ∧ at1 h h1.size 66 (.string (ByteArray.mk (List.toArray s)))) ∧
          R (TV.tup [.int .i64 v, .agg [.int .i64 n, .bytes 32 c, .int .i64 n1, .bytes 32 c1, .str s]]).val h := by
    intro hh A' S' v y vz rl o nw ne e
    refine put_in vz (t := y.tv) (zero_sz y) fun h9 v9 o9 s9 => v_it (x := y) v9 ?_
    have := hr h9 A' (by rw [e]; exact rl.only o9 (by omega) ne) ⟨Nat.le_trans o.size o9.size, fun i hi hn => by rw [o9.same i (by have := o.size; omega) (by omega), o.same i hi hn]⟩ nw
    rw [e] at this
    exact this
  have lowA := r.low
  have r2 := r.ext x12
  refine ⟨x.root, v_root (x := x) v1', rhas_spec r2 fun h3 x3 => ⟨_, rfl, ?_⟩⟩
  have x13 := x12.trans x3
  have r3 := r2.ext x3
  have v13 : Var 50 h3 h.size x.tv := v1'.ext x3
  have v23 : Var 50 h3 h1.size It.zero.tv := v2.ext x3
  have ofx : ∀ hh, Ext h hh → Only (· = m) h hh := fun hh e => Only.of_ext e
  have same : ∀ l, A.a = some l → (∃ l', A.a = some l' ∧ l'.b = l.b) ∨ h.size ≤ l.b := fun l hl => .inl ⟨l, hl, rfl⟩
  have neA : ∀ l, A.a = some l → l.b ≠ h1.size := fun l hl => by have := lowA l hl; omega
  cases hhas : has x.root M with
  | true => exact If.yes (ans h3 A M 9 It.zero v23 r3 (ofx _ x13) same neA (by unfold putS; rw [if_pos hhas]))
  | false =>
  refine If.no ⟨x.peer, v_peer (x := x) v13, quota, r3.var.at1 rfl, rof_spec r3 fun h4 x4 => ⟨_, rfl, x4, ?_⟩⟩
  have x14 := x13.trans x4
  have r4 := r3.ext x4
  have v14 := v13.ext x4
  have v24 := v23.ext x4
  refine If.dec.2 ⟨fun hq => ?_, fun hq => ?_⟩
  · exact ans h4 A M 11 It.zero v24 r4 (ofx _ x14) same neA (by unfold putS; rw [if_neg (by rw [hhas]; decide), if_pos hq])
  refine ⟨A, r4.var.at1 rfl, ?_⟩
  have hl := r.len
  intro J hJ
  have key : ∀ h5, Ext h4 h5 → ((M.length : Int) < most ∨ ∃ y, M.getLast? = some y ∧ bf x y = true) → J 0 h5 := by
    intro h5 x5 hroom
    refine hJ _ _ ?_
    clear hJ
    refine ⟨fun i hh => 0 ≤ i ∧ i ≤ A.len ∧ Ext h5 hh ∧ ∀ j y, j < i.toNat → M[j]? = some y → bf x y = false, fun i _ => ((A.len : Int) - i).toNat, ⟨Int.le_refl 0, by omega, Ext.refl _, fun j y hj => absurd hj (by simp)⟩, ?_⟩
    rintro i h6 ⟨i0, i1, x6, hall⟩
    have x56 := x5.trans x6
    have r6 := r4.ext x56
    have v16 := v14.ext x56
    -- the rest, from wherever the search ended
    have fin : ∀ hq, Ext h6 hq → (i.toNat = M.length ∨ ∃ y, M[i.toNat]? = some y ∧ bf x y = true) → ∃ (h0 : RL hq m A M most quota) (v1q : Var 50 hq h.size x.tv) (v2q : Var 50 hq h1.size It.zero.tv), Ext h hq ∧ insIt x M = M.take i.toNat ++ ([x] ++ M.drop i.toNat) :=
      fun hq xq hat => ⟨r6.ext xq, v16.ext xq, (v24.ext x56).ext xq, (x14.trans x56).trans xq, ins_at x M i.toNat (by omega) hall hat⟩
    refine If.dec.2 ⟨fun hi => ?_, fun hi => ?_⟩
    · refine v_it (x := x) v16 ⟨A, r6.var.at1 rfl, its_at r6.el i0 (by omega) fun l y _ hy => ?_⟩
      refine rbefore_spec (x := x) (y := y) fun h7 x7 => ⟨_, rfl, ?_⟩
      cases hb : bf x y with
      | false =>
        refine If.yes ?_
        rw [wrap_i64 (n := i + 1) (by omega) (by omega)]
        refine ⟨⟨by omega, by omega, x6.trans x7, fun j z hj hz => ?_⟩, by first | omega | (dsimp only; omega)⟩
        by_cases hji : j < i.toNat
        · exact hall j z hji hz
        · have : j = i.toNat := by omega
          subst this
          rw [hy] at hz
          injection hz with hz
          subst hz
          exact hb
      | true =>
        refine If.no ?_
        obtain ⟨rq, v1q, v2q, xq, hins⟩ := fin h7 x7 (.inr ⟨y, hy, hb⟩)
        refine ⟨A, rq.var.at1 rfl, i0, by have := rq.cap; omega, i0, Int.le_refl _, v_it (x := x) v1q ⟨A, rq.var.at1 rfl, i0, i1, Ext.push _ _, ?_⟩⟩
        have xp := Ext.push h7 (row (TVs.cells [x.tv]) 50)
        have op := Own.new (T := 50) (sz := 67) h7 [x.tv] (fun t ht => by rw [List.mem_singleton.1 ht]; rfl)
        have hcut := cut67 (i := i.toNat) (j := A.len) (rq.el.ext xp) (by omega) (Nat.le_refl _) A.cap rq.cap
        have htk0 := cut67 (i := 0) (j := i.toNat) (rq.el.ext xp) (Nat.zero_le _) (by omega) i.toNat (Nat.le_refl _)
        rw [List.drop_zero, Nat.sub_zero, ← List.map_take] at htk0
        rw [← List.map_drop, List.take_of_length_le (by rw [List.length_map, List.length_drop]; omega)] at hcut
        have szp : (h7.push (row (TVs.cells [x.tv]) 50)).size = h7.size + 1 := by simp
        have few := r.few
        refine appendN (C := ctx) (T := 50) (sz := 67) size68 zsize68 (by rw [bytes68]; decide) (by decide) (by rw [bytes68]; simp only [cutSl]; omega) op hcut (its_size _) (its_plain _) fun s8 h8 o8 x8 _ b8 => ⟨x8 rfl, ?_⟩
        have x8' := x8 rfl
        have z8 : h7.size + 1 ≤ h8.size := by have := x8'.size; rw [← szp]; exact this
        have o8len := o8.len
        rw [List.length_append, List.length_map, List.length_drop, List.length_singleton] at o8len
        refine append_full (C := ctx) (T := 50) (sz := 67) (ts := its (M.take i.toNat)) (us := its ([x] ++ M.drop i.toNat)) size68 zsize68 (by rw [bytes68]; decide) (by decide) (by rw [bytes68]; simp only [cutSl]; omega) (htk0.ext x8') (its_size _) (by simp [cutSl]) o8.elems (its_size _) (its_plain _) (by omega) fun s9 h9 o9 x9 b9 => ?_
        have o9' : Own 50 67 h9 s9 (its (insIt x M)) := by rw [hins]; simpa [its] using o9
        have x79 : Ext h7 h9 := (xp.trans x8').trans x9
        have x09 := xq.trans x79
        have r9 := rq.ext x79
        have z79 := x79.size
        refine field_in (i := 0) (t := .slice s9) (t0 := .slice A) r9.var rfl rfl rfl rfl fun h10 v10 (o10 : Only (· = m) h9 h10) s10 => ?_
        have v10' : Var 48 h10 m (.agg [.slice s9, .int .i64 most, .int .i64 quota]) := v10
        have hlt9 := o9'.lt
        have m0 : ∀ l, s9.a = some l → l.b ≠ m := fun l hl => by have := b9 l hl; have := xq.size; omega
        have r10 : RL h10 m s9 (insIt x M) most quota := ⟨v10', o9'.elems.only o10 m0, o9'.cap, m0, fun l hl => by have := hlt9 l hl; omega, by rw [insIt_length]; omega⟩
        have oh10 : Only (· = m) h h10 := (Only.of_ext x09).trans o10
        have nw10 : ∀ l, s9.a = some l → (∃ l', A.a = some l' ∧ l'.b = l.b) ∨ h.size ≤ l.b := fun l hl => .inr (by have := b9 l hl; have := xq.size; omega)
        have hne10 : ∀ l, s9.a = some l → l.b ≠ h1.size := fun l hl => by have := b9 l hl; have := v2q.lt; omega
        have v2r : Var 50 h10 h1.size It.zero.tv := (v2q.ext x79).only o10 (by omega)
        refine ⟨most, v10'.at1 rfl, If.dec.2 ⟨fun hlt => ?_, fun hge => ?_⟩⟩
        · exact ans h10 s9 (insIt x M) 1 It.zero v2r r10 oh10 nw10 hne10 (by unfold putS; rw [if_neg (by rw [hhas]; decide), if_neg hq, if_pos (by rw [hl]; exact hlt)])
        · obtain ⟨y, hy, hb⟩ : ∃ y, M.getLast? = some y ∧ bf x y = true := by
            rcases hroom with h | h
            · omega
            · exact h
          have hlast := insIt_last hy hb
          have hil := insIt_length x M
          have hdl : (insIt x M.dropLast).length = M.length := by
            have := congrArg List.length hlast
            rw [List.length_append, List.length_singleton] at this
            omega
          refine ⟨s9, v10'.at1 rfl, ?_⟩
          refine its_at (i := (A.len : Int)) r10.el (by omega) (by omega) fun l z _ hz => ?_
          have hzy : z = y := by
            rw [hlast, Int.toNat_natCast, ← hl, ← hdl, List.getElem?_append_right (Nat.le_refl _), Nat.sub_self] at hz
            injection hz with hz
            exact hz.symm
          subst hzy
          refine newTV_in fun h11 v11 x11 s11 => put_in (t0 := It.zero.tv) (t := z.tv) v11 (zero_sz z) fun h12 v12 o12 s12 => ?_
          have x1012 : Ext h10 h12 := Only.cut x11 o12 fun j hj => by omega
          have r12 := r10.ext x1012
          have hcap := r12.cap
          have hlen9 := r12.len
          refine ⟨s9, r12.var.at1 rfl, by omega, by omega, by omega, Int.le_refl _, ?_⟩
          have hcut2 := cut67 (i := 0) (j := A.len) r12.el (Nat.zero_le _) (by omega) A.len (Nat.le_refl _)
          rw [List.drop_zero, Nat.sub_zero, ← List.map_take, hlast, ← hl, ← hdl, List.take_left] at hcut2
          rw [hdl, hl] at hcut2
          refine field_in (i := 0) (t := .slice (cutSl (Sl.mk s9.a s9.len A.len) 0 A.len 67)) (t0 := .slice s9) r12.var rfl rfl rfl rfl fun h13 v13' (o13 : Only (· = m) h12 h13) s13 => ?_
          have hca : ∀ l, (cutSl (Sl.mk s9.a s9.len A.len) 0 A.len 67).a = some l → ∃ l', s9.a = some l' ∧ l'.b = l.b := fun l hl' => by
            unfold cutSl at hl'
            simp only at hl'
            split at hl'
            · exact ⟨l, hl', rfl⟩
            · cases hs : s9.a with
              | none => rw [hs] at hl'; simp at hl'
              | some l0 =>
                rw [hs] at hl'
                simp only [Option.map_some, Option.some.injEq] at hl'
                subst hl'
                exact ⟨l0, rfl, rfl⟩
          have m1 : ∀ l, (cutSl (Sl.mk s9.a s9.len A.len) 0 A.len 67).a = some l → l.b ≠ m := fun l hl' => by
            obtain ⟨l', h8, h9'⟩ := hca l hl'
            rw [← h9']; exact m0 l' h8
          have r13 : RL h13 m (cutSl (Sl.mk s9.a s9.len A.len) 0 A.len 67) (insIt x M.dropLast) most quota := ⟨v13', hcut2.only o13 m1, by simp [cutSl], m1, fun l hl' => by
            obtain ⟨l', h8, h9'⟩ := hca l hl'
            have := r12.low l' h8
            omega, by rw [hdl]; omega⟩
          have hmlt : m < h10.size := v10'.lt
          have vy13 : Var 50 h13 h10.size z.tv := v12.only o13 (by omega)
          have v2r13 : Var 50 h13 h1.size It.zero.tv := (v2r.ext x1012).only o13 (by omega)
          refine v_it (x := z) vy13 (ans h13 _ (insIt x M.dropLast) 2 z v2r13 r13 (oh10.trans ((Only.of_ext x1012).trans o13)) (fun l hl' => ?_) (fun l hl' => ?_) ?_)
          · obtain ⟨l', h8, h9'⟩ := hca l hl'
            rcases nw10 l' h8 with ⟨l3, h3, h4⟩ | h3
            · exact .inl ⟨l3, h3, by rw [h4, h9']⟩
            · exact .inr (by rw [← h9']; exact h3)
          · obtain ⟨l', h8, h9'⟩ := hca l hl'
            rw [← h9']; exact hne10 l' h8
          · unfold putS
            rw [if_neg (by rw [hhas]; decide), if_neg hq, if_neg (by rw [hl]; exact hge), hy]
            simp [hb]
    · obtain ⟨rq, v1q, v2q, xq, hins⟩ := fin h6 (Ext.refl _) (.inl (by omega))
      refine ⟨A, rq.var.at1 rfl, i0, by have := rq.cap; omega, i0, Int.le_refl _, v_it (x := x) v1q ⟨A, rq.var.at1 rfl, i0, i1, Ext.push _ _, ?_⟩⟩
      have xp := Ext.push h6 (row (TVs.cells [x.tv]) 50)
      have op := Own.new (T := 50) (sz := 67) h6 [x.tv] (fun t ht => by rw [List.mem_singleton.1 ht]; rfl)
      have hcut := cut67 (i := i.toNat) (j := A.len) (rq.el.ext xp) (by omega) (Nat.le_refl _) A.cap rq.cap
      have htk0 := cut67 (i := 0) (j := i.toNat) (rq.el.ext xp) (Nat.zero_le _) (by omega) i.toNat (Nat.le_refl _)
      rw [List.drop_zero, Nat.sub_zero, ← List.map_take] at htk0
      rw [← List.map_drop, List.take_of_length_le (by rw [List.length_map, List.length_drop]; omega)] at hcut
      have szp : (h6.push (row (TVs.cells [x.tv]) 50)).size = h6.size + 1 := by simp
      have few := r.few
      refine appendN (C := ctx) (T := 50) (sz := 67) size68 zsize68 (by rw [bytes68]; decide) (by decide) (by rw [bytes68]; simp only [cutSl]; omega) op hcut (its_size _) (its_plain _) fun s8 h8 o8 x8 _ b8 => ⟨x8 rfl, ?_⟩
      have x8' := x8 rfl
      have z8 : h6.size + 1 ≤ h8.size := by have := x8'.size; rw [← szp]; exact this
      have o8len := o8.len
      rw [List.length_append, List.length_map, List.length_drop, List.length_singleton] at o8len
      refine append_full (C := ctx) (T := 50) (sz := 67) (ts := its (M.take i.toNat)) (us := its ([x] ++ M.drop i.toNat)) size68 zsize68 (by rw [bytes68]; decide) (by decide) (by rw [bytes68]; simp only [cutSl]; omega) (htk0.ext x8') (its_size _) (by simp [cutSl]) o8.elems (its_size _) (its_plain _) (by omega) fun s9 h9 o9 x9 b9 => ?_
      have o9' : Own 50 67 h9 s9 (its (insIt x M)) := by rw [hins]; simpa [its] using o9
      have x79 : Ext h6 h9 := (xp.trans x8').trans x9
      have x09 := xq.trans x79
      have r9 := rq.ext x79
      have z79 := x79.size
      refine field_in (i := 0) (t := .slice s9) (t0 := .slice A) r9.var rfl rfl rfl rfl fun h10 v10 (o10 : Only (· = m) h9 h10) s10 => ?_
      have v10' : Var 48 h10 m (.agg [.slice s9, .int .i64 most, .int .i64 quota]) := v10
      have hlt9 := o9'.lt
      have m0 : ∀ l, s9.a = some l → l.b ≠ m := fun l hl => by have := b9 l hl; have := xq.size; omega
      have r10 : RL h10 m s9 (insIt x M) most quota := ⟨v10', o9'.elems.only o10 m0, o9'.cap, m0, fun l hl => by have := hlt9 l hl; omega, by rw [insIt_length]; omega⟩
      have oh10 : Only (· = m) h h10 := (Only.of_ext x09).trans o10
      have nw10 : ∀ l, s9.a = some l → (∃ l', A.a = some l' ∧ l'.b = l.b) ∨ h.size ≤ l.b := fun l hl => .inr (by have := b9 l hl; have := xq.size; omega)
      have hne10 : ∀ l, s9.a = some l → l.b ≠ h1.size := fun l hl => by have := b9 l hl; have := v2q.lt; omega
      have v2r : Var 50 h10 h1.size It.zero.tv := (v2q.ext x79).only o10 (by omega)
      refine ⟨most, v10'.at1 rfl, If.dec.2 ⟨fun hlt => ?_, fun hge => ?_⟩⟩
      · exact ans h10 s9 (insIt x M) 1 It.zero v2r r10 oh10 nw10 hne10 (by unfold putS; rw [if_neg (by rw [hhas]; decide), if_neg hq, if_pos (by rw [hl]; exact hlt)])
      · obtain ⟨y, hy, hb⟩ : ∃ y, M.getLast? = some y ∧ bf x y = true := by
          rcases hroom with h | h
          · omega
          · exact h
        have hlast := insIt_last hy hb
        have hil := insIt_length x M
        have hdl : (insIt x M.dropLast).length = M.length := by
          have := congrArg List.length hlast
          rw [List.length_append, List.length_singleton] at this
          omega
        refine ⟨s9, v10'.at1 rfl, ?_⟩
        refine its_at (i := (A.len : Int)) r10.el (by omega) (by omega) fun l z _ hz => ?_
        have hzy : z = y := by
          rw [hlast, Int.toNat_natCast, ← hl, ← hdl, List.getElem?_append_right (Nat.le_refl _), Nat.sub_self] at hz
          injection hz with hz
          exact hz.symm
        subst hzy
        refine newTV_in fun h11 v11 x11 s11 => put_in (t0 := It.zero.tv) (t := z.tv) v11 (zero_sz z) fun h12 v12 o12 s12 => ?_
        have x1012 : Ext h10 h12 := Only.cut x11 o12 fun j hj => by omega
        have r12 := r10.ext x1012
        have hcap := r12.cap
        have hlen9 := r12.len
        refine ⟨s9, r12.var.at1 rfl, by omega, by omega, by omega, Int.le_refl _, ?_⟩
        have hcut2 := cut67 (i := 0) (j := A.len) r12.el (Nat.zero_le _) (by omega) A.len (Nat.le_refl _)
        rw [List.drop_zero, Nat.sub_zero, ← List.map_take, hlast, ← hl, ← hdl, List.take_left] at hcut2
        rw [hdl, hl] at hcut2
        refine field_in (i := 0) (t := .slice (cutSl (Sl.mk s9.a s9.len A.len) 0 A.len 67)) (t0 := .slice s9) r12.var rfl rfl rfl rfl fun h13 v13' (o13 : Only (· = m) h12 h13) s13 => ?_
        have hca : ∀ l, (cutSl (Sl.mk s9.a s9.len A.len) 0 A.len 67).a = some l → ∃ l', s9.a = some l' ∧ l'.b = l.b := fun l hl' => by
          unfold cutSl at hl'
          simp only at hl'
          split at hl'
          · exact ⟨l, hl', rfl⟩
          · cases hs : s9.a with
            | none => rw [hs] at hl'; simp at hl'
            | some l0 =>
              rw [hs] at hl'
              simp only [Option.map_some, Option.some.injEq] at hl'
              subst hl'
              exact ⟨l0, rfl, rfl⟩
        have m1 : ∀ l, (cutSl (Sl.mk s9.a s9.len A.len) 0 A.len 67).a = some l → l.b ≠ m := fun l hl' => by
          obtain ⟨l', h8, h9'⟩ := hca l hl'
          rw [← h9']; exact m0 l' h8
        have r13 : RL h13 m (cutSl (Sl.mk s9.a s9.len A.len) 0 A.len 67) (insIt x M.dropLast) most quota := ⟨v13', hcut2.only o13 m1, by simp [cutSl], m1, fun l hl' => by
          obtain ⟨l', h8, h9'⟩ := hca l hl'
          have := r12.low l' h8
          omega, by rw [hdl]; omega⟩
        have hmlt : m < h10.size := v10'.lt
        have vy13 : Var 50 h13 h10.size z.tv := v12.only o13 (by omega)
        have v2r13 : Var 50 h13 h1.size It.zero.tv := (v2r.ext x1012).only o13 (by omega)
        refine v_it (x := z) vy13 (ans h13 _ (insIt x M.dropLast) 2 z v2r13 r13 (oh10.trans ((Only.of_ext x1012).trans o13)) (fun l hl' => ?_) (fun l hl' => ?_) ?_)
        · obtain ⟨l', h8, h9'⟩ := hca l hl'
          rcases nw10 l' h8 with ⟨l3, h3, h4⟩ | h3
          · exact .inl ⟨l3, h3, by rw [h4, h9']⟩
          · exact .inr (by rw [← h9']; exact h3)
        · obtain ⟨l', h8, h9'⟩ := hca l hl'
          rw [← h9']; exact hne10 l' h8
        · unfold putS
          rw [if_neg (by rw [hhas]; decide), if_neg hq, if_neg (by rw [hl]; exact hge), hy]
          simp [hb]
  refine ⟨most, r4.var.at1 rfl, If.dec.2 ⟨fun hfull => ?_, fun hroom => key h4 (Ext.refl _) (.inl (by omega))⟩⟩
  have hSlen : (M.length : Int) = most := by omega
  refine v_it (x := x) v14 ⟨A, r4.var.at1 rfl, ?_⟩
  rw [wrap_i64 (n := (A.len : Int) - 1) (by omega) (by have := r.few; omega)]
  refine its_at r4.el (by omega) (by omega) fun l y _ hy => rbefore_spec (x := x) (y := y) fun h5 x5 => ⟨_, rfl, ?_⟩
  have hlast : M.getLast? = some y := by
    rw [List.getLast?_eq_getElem?, ← hy]
    congr 1
    omega
  cases hb : bf x y with
  | true => exact If.no (key h5 x5 (.inr ⟨y, hlast, hb⟩))
  | false =>
    refine If.yes (ans h5 A M 12 It.zero (v24.ext x5) (r4.ext x5) (ofx _ (x14.trans x5)) same neA ?_)
    unfold putS
    rw [if_neg (by rw [hhas]; decide), if_neg hq, if_neg (by omega), hlast]
    simp [hb]

end
end Go.Proofs.YtldocdpdjdekiaaGreat.Pool
end

section
/- Fields of elements that are written. -/
namespace Go.Vc
open Go

theorem list_cut {α : Type} (P C Q rest U : List α) (d n : Nat) (hd : d + n ≤ C.length) :
    (P ++ (C ++ Q) ++ rest).take (P.length + d) ++ U ++ (P ++ (C ++ Q) ++ rest).drop (P.length + d + n) = P ++ (C.take d ++ U ++ C.drop (d + n)) ++ Q ++ rest := by
  rw [Nat.add_assoc P.length d n, List.append_assoc P, List.take_length_add_append, List.drop_length_add_append, List.append_assoc C, List.take_append_of_le_length (by omega), List.drop_append_of_le_length (by omega)]
  simp only [List.append_assoc]

/-- A field of an element is written. -/
theorem Own.field_in {T : TypeId} {sz n d : Nat} {h : Heap} {s : Sl} {ts : List TV} {K : Heap → Prop} {u t t0 : TV} {i : Int} (o : Own T sz h s ts) (i0 : 0 ≤ i) (hg : ts[i.toNat]? = some t0) (hu : u.size = n)
    (hdn : d + n ≤ sz) (hc : t0.cells.take d ++ u.cells ++ t0.cells.drop (d + n) = t.cells)
    (hk : ∀ h1, Own T sz h1 s (ts.set i.toNat t) → Only (In s) h h1 → h1.size = h.size → K h1) :
    0 ≤ i ∧ i < (s.len : Int) ∧ Nn s.a fun l => wok h l.b (l.o + i.toNat * sz + d) n ∧ Bind (u.put h l.b (l.o + i.toNat * sz + d)) K := by
  have hi : i.toNat < ts.length := (List.getElem?_eq_some_iff.1 hg).1
  have hle := o.len
  have hlen := TVs.cells_uniform ts o.size
  have ht0 : t0.size = sz := o.size _ (List.mem_of_getElem? hg)
  have ht : t.size = sz := by
    rw [← TV.cells_length, ← hc, List.length_append, List.length_append, List.length_take, List.length_drop, TV.cells_length, TV.cells_length, ht0, hu]
    omega
  refine ⟨i0, by omega, ?_⟩
  rcases o.row with rfl | ⟨b, rest, ha, hb, hr⟩
  · simp only [Sl.nil] at hle
    omega
  · have hmul : i.toNat * sz + sz ≤ ts.length * sz := by
      have := Nat.mul_le_mul_right sz (show i.toNat + 1 ≤ ts.length by omega)
      rwa [Nat.succ_mul] at this
    have hl : i.toNat * sz + d + u.size ≤ (TVs.cells ts ++ rest).length := by rw [List.length_append, hlen, hu]; omega
    rw [ha]
    show wok h b (0 + i.toNat * sz + d) n ∧ Bind (u.put h b (0 + i.toNat * sz + d)) K
    rw [Nat.zero_add]
    refine ⟨wok_row hb (by rw [← hu]; exact hl), hk _ ?_ ((put_only hb hl).mono fun j hj => ⟨⟨b, 0⟩, ha, hj.symm⟩) (put_size hb hl)⟩
    have hp := put_row (t := u) hb hl
    refine ⟨fun v hv => ?_, by rw [List.length_set]; exact o.len, o.cap, .inr ⟨b, rest, ha, ?_, hr⟩⟩
    · rcases List.mem_or_eq_of_mem_set hv with h1 | rfl
      · exact o.size v h1
      · exact ht
    · have hA := cells_elem ts i.toNat t0 o.size ht0 hi
      have hself : ts.set i.toNat t0 = ts := by
        obtain ⟨h1, h2⟩ := List.getElem?_eq_some_iff.1 hg
        rw [← h2, List.set_getElem_self]
      rw [hself] at hA
      rw [hp, ← cells_elem ts i.toNat t o.size ht hi, ht, ← hc, ← hu]
      rw [ht0] at hA
      obtain ⟨P, hP⟩ : ∃ P, P = (TVs.cells ts).take (i.toNat * sz) := ⟨_, rfl⟩
      obtain ⟨Q, hQ⟩ : ∃ Q, Q = (TVs.cells ts).drop (i.toNat * sz + sz) := ⟨_, rfl⟩
      rw [← hP, ← hQ] at hA ⊢
      have hPl : P.length = i.toNat * sz := by rw [hP, List.length_take, hlen]; omega
      have := list_cut P t0.cells Q rest u.cells d u.size (by rw [TV.cells_length, ht0, hu]; exact hdn)
      rw [hPl] at this
      rw [← hA, List.append_assoc P, this]

theorem wf_u8 {n : Int} (h : (Lit.int .u8 n).wf = true) : 0 ≤ n ∧ n < 256 := by
  simp only [Lit.wf, Bool.and_eq_true, decide_eq_true_eq] at h
  have h0 : IntKind.u8.min ≤ n := h.1
  have h1 : n ≤ IntKind.u8.max := h.2
  have e0 : IntKind.u8.min = 0 := rfl
  have e1 : IntKind.u8.max = 255 := rfl
  omega

theorem wf_u64 {n : Int} (h : (Lit.int .u64 n).wf = true) : 0 ≤ n ∧ n < 18446744073709551616 := by
  simp only [Lit.wf, Bool.and_eq_true, decide_eq_true_eq] at h
  have h0 : IntKind.u64.min ≤ n := h.1
  have h1 : n ≤ IntKind.u64.max := h.2
  have e0 : IntKind.u64.min = 0 := rfl
  have e1 : IntKind.u64.max = 18446744073709551615 := rfl
  omega

/-- Bytes, as many as there are, the others 0. -/
def bsOf (n : Nat) (l : List UInt8) : Bs n := ⟨(l ++ List.replicate n 0).take n, by simp⟩

/-- Bytes are copied into a field of bytes that are 0. -/
theorem bytes_copy {T : TypeId} {h : Heap} {b i o n : Nat} {ts : List TV} {s : List UInt8} {K : Heap → Prop} (v : Var T h b (.agg ts)) (hi : ts[i]? = some (.bytes n (Bs.zero n))) (ho : TVs.size (ts.take i) = o) (hs : s.length ≤ n)
    (hk : ∀ h1, Var T h1 b (.agg (ts.set i (.bytes n (bsOf n s)))) → Only (· = b) h h1 → h1.size = h.size → K h1) :
    wok h b o (Nat.min s.length n) ∧ Bind (putl h b o ((s.take (Nat.min s.length n)).map fun (c : UInt8) => Value.int .u8 (c.toNat : Int))) K := by
  have hmin : Nat.min s.length n = s.length := Nat.min_eq_left hs
  rw [hmin, List.take_length]
  have hle := TVs.size_take_le ts i _ hi
  have hsz : (TV.bytes n (Bs.zero n)).size = n := by simp only [TV.size]
  rw [hsz] at hle
  have hl : o + (s.map fun (c : UInt8) => Value.int .u8 (c.toNat : Int)).length ≤ (TV.agg ts).cells.length := by rw [TV.cells_length, List.length_map]; simp only [TV.size]; omega
  have hg := putl_get (s.map fun (c : UInt8) => Value.int .u8 (c.toNat : Int)) h b o _ T v hl
  refine ⟨wok_row v (by rw [List.length_map] at hl; exact hl), hk _ ?_ ⟨by rw [hg.2.1]; exact Nat.le_refl _, fun b' _ hn => hg.2.2 b' hn⟩ hg.2.1⟩
  unfold Var
  rw [hg.1]
  congr 2
  have hc : (TV.agg ts).cells = TVs.cells ts := by simp only [TV.cells]
  have hc2 : (TV.agg (ts.set i (.bytes n (bsOf n s)))).cells = TVs.cells (ts.set i (.bytes n (bsOf n s))) := by simp only [TV.cells]
  rw [hc, hc2]
  have h0 := cells_field ts i o (.bytes n (Bs.zero n)) (.bytes n (Bs.zero n)) hi rfl ho
  have hself : ts.set i (.bytes n (Bs.zero n)) = ts := by
    obtain ⟨h1, h2⟩ := List.getElem?_eq_some_iff.1 hi
    rw [← h2, List.set_getElem_self]
  rw [hself] at h0
  have h1 := cells_field ts i o (.bytes n (bsOf n s)) (.bytes n (Bs.zero n)) hi (by simp only [TV.size]) ho
  rw [← h1]
  obtain ⟨P, hP⟩ : ∃ P, P = (TVs.cells ts).take o := ⟨_, rfl⟩
  have hsz2 : (TV.bytes n (bsOf n s)).size = n := by simp only [TV.size]
  rw [hsz] at h0
  rw [hsz2]
  obtain ⟨Q, hQ⟩ : ∃ Q, Q = (TVs.cells ts).drop (o + n) := ⟨_, rfl⟩
  rw [← hP, ← hQ] at h0 ⊢
  have hPl : P.length = o := by
    rw [hP, List.length_take, ← hc, TV.cells_length]
    simp only [TV.size]
    omega
  have hz : (TV.bytes n (Bs.zero n)).cells = List.replicate n (.int .u8 0) := by simp [TV.cells, Bs.zero]
  rw [hz] at h0
  have hcut := list_cut P (List.replicate n (.int .u8 0)) Q [] (s.map fun (c : UInt8) => Value.int .u8 (c.toNat : Int)) 0 s.length (by rw [List.length_replicate]; omega)
  rw [hPl, List.append_nil, List.append_nil, Nat.add_zero, ← List.append_assoc P, h0] at hcut
  rw [← hP] at hcut
  rw [List.length_map, hcut]
  congr 2
  have ht : (TV.bytes n (bsOf n s)).cells = (bsOf n s).l.map fun c => Value.int .u8 (c.toNat : Int) := by simp only [TV.cells]
  rw [ht]
  unfold bsOf
  simp only
  rw [List.take_append, List.take_of_length_le hs, List.map_append]
  simp [List.take_replicate, List.drop_replicate]

/-- A byte of a field of bytes is written. -/
theorem byte_field {T : TypeId} {h : Heap} {b i o p n k : Nat} {ts : List TV} {x : Bs n} {c : Int} {K : Heap → Prop} (v : Var T h b (.agg ts)) (hi : ts[i]? = some (.bytes n x)) (ho : TVs.size (ts.take i) = o) (hkn : k < n) (hp : p = o + k) (h0 : 0 ≤ c) (h1 : c < 256)
    (hk : ∀ h1, Var T h1 b (.agg (ts.set i (.bytes n (x.set k (UInt8.ofNat c.toNat))))) → Only (· = b) h h1 → h1.size = h.size → K h1) :
    wok h b p 1 ∧ Bind ((TV.int .u8 c).put h b p) K := by
  subst hp
  have hle := TVs.size_take_le ts i _ hi
  have hsz : ∀ y : Bs n, (TV.bytes n y).size = n := fun y => by simp only [TV.size]
  rw [hsz] at hle
  have hc : ∀ us : List TV, (TV.agg us).cells = TVs.cells us := fun us => by simp only [TV.cells]
  have hl : o + k + (TV.int .u8 c).size ≤ (TV.agg ts).cells.length := by rw [TV.cells_length]; simp only [TV.size]; omega
  refine ⟨wok_row v hl, hk _ ?_ (put_only v hl) (put_size v hl)⟩
  have hpr := put_row (t := .int .u8 c) v hl
  unfold Var
  rw [hpr, hc, hc]
  congr 2
  have hb : ∀ y : Bs n, (TV.bytes n y).cells = y.l.map fun c => Value.int .u8 (c.toNat : Int) := fun y => by simp only [TV.cells]
  have h1' := cells_field ts i o (.bytes n (x.set k (UInt8.ofNat c.toNat))) (.bytes n x) hi (by rw [hsz, hsz]) ho
  have h0' := cells_field ts i o (.bytes n x) (.bytes n x) hi rfl ho
  have hself : ts.set i (.bytes n x) = ts := by
    obtain ⟨g1, g2⟩ := List.getElem?_eq_some_iff.1 hi
    rw [← g2, List.set_getElem_self]
  rw [hself, hsz, hb] at h0'
  rw [← h1', hsz, hb]
  obtain ⟨P, hP⟩ : ∃ P, P = (TVs.cells ts).take o := ⟨_, rfl⟩
  obtain ⟨Q, hQ⟩ : ∃ Q, Q = (TVs.cells ts).drop (o + n) := ⟨_, rfl⟩
  rw [← hP, ← hQ] at h0' ⊢
  have hPl : P.length = o := by
    rw [hP, List.length_take, ← hc, TV.cells_length]
    simp only [TV.size]
    omega
  have hcut := list_cut P (x.l.map fun c => Value.int .u8 (c.toNat : Int)) Q [] [.int .u8 c] k 1 (by rw [List.length_map, x.h]; omega)
  rw [hPl, List.append_nil, List.append_nil, ← List.append_assoc P, h0'] at hcut
  have hcell : (TV.int IntKind.u8 c).cells = [.int .u8 c] := rfl
  rw [hcell]
  show List.take (o + k) _ ++ _ ++ List.drop (o + k + 1) _ = _
  rw [hcut]
  congr 2
  simp only [Bs.set, List.map_set]
  have e : ((UInt8.ofNat c.toNat).toNat : Int) = c := by
    rw [UInt8.toNat_ofNat']
    omega
  rw [e, List.set_eq_take_append_cons_drop, if_pos (by rw [List.length_map, x.h]; exact hkn)]
  simp

theorem bsOf_snoc {n i : Nat} {l : List UInt8} {c : UInt8} (hc : l[i]? = some c) (hi : i < n) : (bsOf n (l.take i)).set i c = bsOf n (l.take (i + 1)) := by
  apply Bs.ext'
  have hil := (List.getElem?_eq_some_iff.1 hc).1
  show (List.take n (l.take i ++ List.replicate n 0)).set i c = List.take n (l.take (i + 1) ++ List.replicate n 0)
  rw [List.take_add_one, hc]
  apply List.ext_getElem?
  intro j
  rw [List.getElem?_set, List.length_take, List.length_append, List.length_take, List.length_replicate, List.getElem?_take, List.getElem?_take]
  by_cases hij : i = j
  · subst hij
    rw [if_pos rfl, if_pos (by omega), if_pos hi, List.append_assoc, List.getElem?_append_right (by rw [List.length_take]; omega), List.length_take, Nat.min_eq_left (by omega), Nat.sub_self]
    rfl
  · rw [if_neg hij]
    by_cases hjn : j < n
    · rw [if_pos hjn, if_pos hjn]
      by_cases hji : j < i
      · rw [List.getElem?_append_left (by rw [List.length_take]; omega), List.append_assoc, List.getElem?_append_left (by rw [List.length_take]; omega)]
      · rw [List.getElem?_append_right (by rw [List.length_take]; omega), List.length_take, Nat.min_eq_left (by omega), List.getElem?_append_right (by rw [List.length_append, List.length_take]; simp; omega), List.length_append, List.length_take, Nat.min_eq_left (by omega)]
        simp only [Option.toList, List.length_singleton, List.getElem?_replicate]
        rw [if_pos (by omega), if_pos (by omega)]
    · rw [if_neg hjn, if_neg hjn]

theorem cut_prefix {sz : Nat} {h : Heap} {s : Sl} {ts : List TV} (e : Elems sz h s ts) {n : Nat} (hn : n ≤ ts.length) : Elems sz h (cutSl s 0 n sz) (ts.take n) := by
  have ha : (cutSl s 0 n sz).a = s.a := by
    unfold cutSl
    cases s.a with
    | none => simp
    | some l => simp
  refine ⟨by rw [List.length_take]; show _ = n - 0; omega, fun hx => ?_, fun l hl i t ht => ?_⟩
  · rw [ha] at hx
    rw [e.nil hx]
    simp
  · rw [ha] at hl
    rw [List.getElem?_take] at ht
    split at ht
    · exact e.get l hl i t ht
    · cases ht

end Go.Vc
end

section
/- Bytes as numbers, as rows of bits, as messages: plain lists, no program in sight. -/
namespace Go.Proofs.YtldocdpdjdekiaaGreat.Board
open Go Go.Vc

/-! ### Numbers -/

def num : List UInt8 → Nat
  | [] => 0
  | c :: s => c.toNat + 256 * num s

theorem num_lt : ∀ s : List UInt8, num s < 256 ^ s.length
  | [] => by decide
  | c :: s => by
    have h := num_lt s
    have hc := c.toNat_lt
    rw [num, List.length_cons, Nat.pow_succ]
    omega

theorem num_snoc : ∀ (s : List UInt8) (c : UInt8), num (s ++ [c]) = num s + 256 ^ s.length * c.toNat
  | [], c => by simp [num]
  | a :: s, c => by
    rw [List.cons_append, num, num_snoc s c, num, List.length_cons, Nat.pow_succ, Nat.mul_add, ← Nat.mul_assoc, Nat.mul_comm 256 (256 ^ s.length)]
    omega

theorem num_lt8 {s : List UInt8} (h : s.length ≤ 8) : num s < 18446744073709551616 := by
  have h1 := num_lt s
  have h2 : 256 ^ s.length ≤ 256 ^ 8 := Nat.pow_le_pow_right (by decide) h
  have h3 : 256 ^ 8 = 18446744073709551616 := by decide
  omega

/-! ### Bits -/

def bitAt (c : UInt8) (k : Nat) : Bool := decide (c.toNat / 2 ^ k % 2 = 1)
def bits8 (c : UInt8) : List Bool := (List.range 8).map (bitAt c)
def bitsOf (s : List UInt8) : List Bool := s.flatMap bits8

theorem bits8_length (c : UInt8) : (bits8 c).length = 8 := by simp [bits8]
theorem bitsOf_length : ∀ s : List UInt8, (bitsOf s).length = 8 * s.length
  | [] => rfl
  | c :: s => by
    show (bits8 c ++ bitsOf s).length = _
    rw [List.length_append, bits8_length, bitsOf_length s, List.length_cons]
    omega

theorem bitsOf_get : ∀ (s : List UInt8) (i : Nat), i < 8 * s.length → (bitsOf s)[i]? = some (bitAt (s.getD (i / 8) 0) (i % 8))
  | [], i, h => by simp at h
  | c :: s, i, h => by
    show (bits8 c ++ bitsOf s)[i]? = _
    by_cases h8 : i < 8
    · rw [List.getElem?_append_left (by rw [bits8_length]; exact h8)]
      have e1 : i / 8 = 0 := by omega
      have e2 : i % 8 = i := by omega
      rw [e1, e2]
      simp [bits8, h8]
    · rw [List.getElem?_append_right (by rw [bits8_length]; omega), bits8_length, bitsOf_get s (i - 8) (by rw [List.length_cons] at h; omega)]
      have e1 : i / 8 = (i - 8) / 8 + 1 := by omega
      have e2 : (i - 8) % 8 = i % 8 := by omega
      rw [e1, e2]
      rfl

theorem bitsOf_snoc (s : List UInt8) (c : UInt8) : bitsOf (s ++ [c]) = bitsOf s ++ bits8 c := by
  unfold bitsOf
  rw [List.flatMap_append]
  simp

/-- The place of the highest bit. -/
def topBit (c : UInt8) : Nat := c.toNat.log2

theorem top_facts : ∀ n : Fin 256, n.val ≠ 0 → n.val.log2 < 8 ∧ n.val / 2 ^ n.val.log2 % 2 = 1 ∧ ∀ k : Fin 8, n.val.log2 < k.val → n.val / 2 ^ k.val % 2 = 0 := by decide +kernel

theorem topBit_lt {c : UInt8} (h : c ≠ 0) : topBit c < 8 := by
  have hn : c.toNat ≠ 0 := fun e => h (UInt8.toNat_inj.1 e)
  exact (top_facts ⟨c.toNat, c.toNat_lt⟩ hn).1

theorem topBit_yes {c : UInt8} (h : c ≠ 0) : bitAt c (topBit c) = true := by
  have hn : c.toNat ≠ 0 := fun e => h (UInt8.toNat_inj.1 e)
  exact decide_eq_true (top_facts ⟨c.toNat, c.toNat_lt⟩ hn).2.1

theorem topBit_no {c : UInt8} (h : c ≠ 0) {k : Nat} (hk : topBit c < k) (h8 : k < 8) : bitAt c k = false := by
  have hn : c.toNat ≠ 0 := fun e => h (UInt8.toNat_inj.1 e)
  refine decide_eq_false fun e => ?_
  have := (top_facts ⟨c.toNat, c.toNat_lt⟩ hn).2.2 ⟨k, h8⟩ hk
  rw [this] at e
  cases e

theorem bit_zero (k : Nat) : bitAt 0 k = false := by
  refine decide_eq_false fun e => ?_
  have : (0 : UInt8).toNat = 0 := rfl
  rw [this, Nat.zero_div] at e
  cases e

/-- How many places a row of bytes has; without the last bit, that says where it ends. -/
def rowLen (s : List UInt8) : Nat := 8 * (s.length - 1) + topBit (s.getLastD 0)

/-- The row of bytes; none: there is none up to most. -/
def getF (s : List UInt8) (most : Nat) : Option (List Bool) :=
  if s = [] ∨ s.getLastD 0 = 0 then none else if most < rowLen s then none else some ((bitsOf s).take (rowLen s))

/-! ### Messages -/

structure Dm where
  kind : Int
  slot : Int
  target : Bs 32
  member : Int
  body : Int
  row : List Bool
  tag : Bs 16

def Dm.ms (d : Dm) (b : Sl) : Ms := ⟨d.kind, d.slot, d.target, d.member, d.body, b, d.tag⟩
def Dm.zero : Dm := ⟨0, 0, Bs.zero 32, 0, 0, [], Bs.zero 16⟩


def chk (d : Dm) : Option Dm := if goodF (d.ms Sl.nil) d.row = true then some d else none

/-- The message of bytes. -/
def decF (s : List UInt8) : Option Dm :=
  if s.length < 53 then none
  else if s.getD 0 0 = 1 then
    if s.length = 63 then chk ⟨1, (num ((s.drop 1).take 4) : Nat), bsOf 32 ((s.drop 5).take 32), (num ((s.drop 37).take 2) : Nat), (num ((s.drop 39).take 8) : Nat), [], bsOf 16 (s.drop 47)⟩ else none
  else if s.getD 0 0 = 2 then
    if s.length = 55 then chk ⟨2, (num ((s.drop 1).take 4) : Nat), bsOf 32 ((s.drop 5).take 32), (num ((s.drop 37).take 2) : Nat), 0, [], bsOf 16 (s.drop 39)⟩ else none
  else if s.getD 0 0 = 3 then
    match getF ((s.drop 37).take (s.length - 53)) 16 with
    | none => none
    | some row => chk ⟨3, (num ((s.drop 1).take 4) : Nat), bsOf 32 ((s.drop 5).take 32), 0, 0, row, bsOf 16 (s.drop (s.length - 16))⟩
  else none

theorem chk_some {d e : Dm} (h : chk d = some e) : e = d ∧ goodF (d.ms Sl.nil) d.row = true := by
  unfold chk at h
  split at h
  · rename_i hg; exact ⟨(Option.some.inj h).symm, hg⟩
  · cases h

theorem good_ms {d : Dm} (b : Sl) : goodF (d.ms b) d.row = goodF (d.ms Sl.nil) d.row := rfl

theorem dec_good {s : List UInt8} {d : Dm} (h : decF s = some d) : goodF (d.ms Sl.nil) d.row = true := by
  unfold decF at h
  split at h
  · cases h
  split at h
  · split at h
    · obtain ⟨rfl, hg⟩ := chk_some h; exact hg
    · cases h
  split at h
  · split at h
    · obtain ⟨rfl, hg⟩ := chk_some h; exact hg
    · cases h
  split at h
  · split at h
    · cases h
    · obtain ⟨rfl, hg⟩ := chk_some h; exact hg
  · cases h

end Go.Proofs.YtldocdpdjdekiaaGreat.Board
end

section
/- The conditions of functions, as the generator reckons them out, each with the proof that it is that. -/
namespace Go.Proofs.YtldocdpdjdekiaaGreat
open Go Go.Vc
set_option maxRecDepth 100000
set_option linter.unusedVariables false

def le_From_vc (s_ : List UInt8) (h : Heap) (R : Value → Heap → Prop) : Prop :=
 Vc.Bind (newTV h (TV.agg [TV.str s_, TV.bool false]) (139 : Nat)) fun (h_1 : Array Obj) ↦ R (TV.val (TV.ptr (some (Loc.mk (Array.size h) (0 : Nat))))) h_1

theorem le_From_calls (s_ : List UInt8) (h : Heap) (R : Value → Heap → Prop) (H : le_From_vc s_ h R) : CallsH Tryz.prog 60 (TVs.vals [TV.str s_]) h R :=
 vcFn_sound (C := ctx) ctx_ok (fn := Tryz.f60) Tryz.func60 ((by kernel_rfl : le_From_vc s_ h R = vcFn ctx Tryz.f60 [TV.str s_] h R) ▸ H)


def le_Reader_Uint_vc (r : Option Go.Vc.Loc) (width : Int) (h : Heap) (R : Value → Heap → Prop) : Prop :=
 Join
 (fun (s : Int) (h : Array Obj) ↦
 CallsH Tryz.prog (62 : Nat) (TVs.vals [TV.ptr r, TV.int IntKind.i64 s]) h fun (v : Value) (h : Array Obj) ↦
 ∃ (s_1 : List UInt8),
 v = TV.val (TV.str s_1) ∧
 Go.Vc.Loop ((0 : Int), IntKind.wrap IntKind.i64 ((↑(List.length s_1) : Int) - (1 : Int))) h
 fun (s_2 : Int × Int) (h : Array Obj) (K : Int × Int → Array Obj → Prop) ↦
 If (decide ((0 : Int) ≤ s_2.snd))
 ((0 : Int) ≤ (8 : Int) ∧
 (0 : Int) ≤ s_2.snd ∧
 s_2.snd < (↑(List.length s_1) : Int) ∧
 K
 (IntKind.wrap IntKind.u64
 (↑(BitVec.toNat
 (BitVec.ofInt (IntKind.bits IntKind.u64)
 (IntKind.wrap IntKind.u64 (s_2.fst * (2 : Int) ^ min (Int.toNat (8 : Int)) (IntKind.bits IntKind.u64))) |||
 BitVec.ofInt (IntKind.bits IntKind.u64)
 (IntKind.wrap IntKind.u64 (↑(UInt8.toNat (List.getD s_1 (Int.toNat s_2.snd) (0 : UInt8))) : Int)))) :
 Int),
 IntKind.wrap IntKind.i64 (s_2.snd - (1 : Int)))
 h)
 (R (TV.val (TV.int IntKind.u64 s_2.fst)) h))
 fun (J : Int → Array Obj → Prop) ↦ If (decide ((8 : Int) < width)) (J (-1 : Int) h) (J width h)

theorem le_Reader_Uint_calls (r : Option Go.Vc.Loc) (width : Int) (h : Heap) (R : Value → Heap → Prop) (H : le_Reader_Uint_vc r width h R) : CallsH Tryz.prog 61 (TVs.vals [TV.ptr r, TV.int IntKind.i64 width]) h R :=
 vcFn_sound (C := ctx) ctx_ok (fn := Tryz.f61) Tryz.func61 ((by kernel_rfl : le_Reader_Uint_vc r width h R = vcFn ctx Tryz.f61 [TV.ptr r, TV.int IntKind.i64 width] h R) ▸ H)


def le_Reader_Bytes_vc (r : Option Go.Vc.Loc) (n : Int) (h : Heap) (R : Value → Heap → Prop) : Prop :=
 Join
 (fun (s : List UInt8) (h : Array Obj) ↦
 Nn r fun (l : Go.Vc.Loc) ↦
 ∃ (s : List UInt8),
 at1 h l.b l.o (Value.string (ByteArray.mk (List.toArray s))) ∧
 (0 : Int) ≤ n ∧
 n ≤ (↑(List.length s) : Int) ∧
 Nn r fun (l : Go.Vc.Loc) ↦
 ∃ (s_1 : List UInt8),
 at1 h l.b l.o (Value.string (ByteArray.mk (List.toArray s_1))) ∧
 (0 : Int) ≤ n ∧
 n ≤ (↑(List.length s_1) : Int) ∧
 Nn r fun (l : Go.Vc.Loc) ↦
 wok h l.b l.o (1 : Nat) ∧
 Vc.Bind (TV.put h l.b l.o (TV.str (List.take (List.length s_1 - Int.toNat n) (List.drop (Int.toNat n) s_1)))) fun (h : Array Obj) ↦
 R (TV.val (TV.str (List.take (Int.toNat n - (0 : Nat)) (List.drop (0 : Nat) s)))) h)
 fun (J : List UInt8 → Array Obj → Prop) ↦
 Join
 (fun (s : Bool) (h : Array Obj) ↦
 If s
 (If (!Option.isNone r)
 (Nn r fun (l : Go.Vc.Loc) ↦
 wok h l.b (l.o + (1 : Nat)) (1 : Nat) ∧
 Vc.Bind (TV.put h l.b (l.o + (1 : Nat)) (TV.bool true)) fun (h : Array Obj) ↦
 Nn r fun (l : Go.Vc.Loc) ↦
 wok h l.b l.o (1 : Nat) ∧
 Vc.Bind (TV.put h l.b l.o (TV.str (ByteArray.mk #[]).data.toList)) fun (h : Array Obj) ↦
 R (TV.val (TV.str (ByteArray.mk #[]).data.toList)) h)
 (R (TV.val (TV.str (ByteArray.mk #[]).data.toList)) h))
 (J (ByteArray.mk #[]).data.toList h))
 fun (J : Bool → Array Obj → Prop) ↦
 If (Option.isNone r) (J true h)
 (Nn r fun (l : Go.Vc.Loc) ↦
 ∃ (b : Bool),
 at1 h l.b (l.o + (1 : Nat)) (Value.bool b) ∧
 If b (J true h)
 (If (decide (n < (0 : Int))) (J true h)
 (Nn r fun (l : Go.Vc.Loc) ↦
 ∃ (s : List UInt8), at1 h l.b l.o (Value.string (ByteArray.mk (List.toArray s))) ∧ J (decide ((↑(List.length s) : Int) < n)) h)))

theorem le_Reader_Bytes_calls (r : Option Go.Vc.Loc) (n : Int) (h : Heap) (R : Value → Heap → Prop) (H : le_Reader_Bytes_vc r n h R) : CallsH Tryz.prog 62 (TVs.vals [TV.ptr r, TV.int IntKind.i64 n]) h R :=
 vcFn_sound (C := ctx) ctx_ok (fn := Tryz.f62) Tryz.func62 ((by kernel_rfl : le_Reader_Bytes_vc r n h R = vcFn ctx Tryz.f62 [TV.ptr r, TV.int IntKind.i64 n] h R) ▸ H)


def bitlist_Get_vc (s_ : List UInt8) (most : Int) (h : Heap) (R : Value → Heap → Prop) : Prop :=
 Join
 (fun (s : Sl × Bool) (h : Array Obj) ↦
 (0 : Int) ≤ IntKind.wrap IntKind.i64 ((↑(List.length s_) : Int) - (1 : Int)) ∧
 IntKind.wrap IntKind.i64 ((↑(List.length s_) : Int) - (1 : Int)) < (↑(List.length s_) : Int) ∧
 CallsH Tryz.prog (92 : Nat)
 (TVs.vals
 [TV.int IntKind.u8
 (↑(UInt8.toNat (List.getD s_ (Int.toNat (IntKind.wrap IntKind.i64 ((↑(List.length s_) : Int) - (1 : Int)))) (0 : UInt8))) : Int)])
 h fun (v : Value) (h : Array Obj) ↦
 ∃ (n : Int),
 v = TV.val (TV.int IntKind.i64 n) ∧
 If
 (decide
 (most <
 IntKind.wrap IntKind.i64
 (IntKind.wrap IntKind.i64 (IntKind.wrap IntKind.i64 ((8 : Int) * IntKind.wrap IntKind.i64 ((↑(List.length s_) : Int) - (1 : Int))) + n) -
 (1 : Int))))
 (R (TV.val (TV.tup [TV.slice Sl.nil, TV.bool false])) h)
 ((0 : Int) ≤
 IntKind.wrap IntKind.i64
 (IntKind.wrap IntKind.i64 (IntKind.wrap IntKind.i64 ((8 : Int) * IntKind.wrap IntKind.i64 ((↑(List.length s_) : Int) - (1 : Int))) + n) -
 (1 : Int)) ∧
 IntKind.wrap IntKind.i64
 (IntKind.wrap IntKind.i64
 (IntKind.wrap IntKind.i64 ((8 : Int) * IntKind.wrap IntKind.i64 ((↑(List.length s_) : Int) - (1 : Int))) + n) -
 (1 : Int)) ≤
 IntKind.wrap IntKind.i64
 (IntKind.wrap IntKind.i64
 (IntKind.wrap IntKind.i64 ((8 : Int) * IntKind.wrap IntKind.i64 ((↑(List.length s_) : Int) - (1 : Int))) + n) -
 (1 : Int)) ∧
 (↑(1 : Nat) : Int) *
 IntKind.wrap IntKind.i64
 (IntKind.wrap IntKind.i64
 (IntKind.wrap IntKind.i64 ((8 : Int) * IntKind.wrap IntKind.i64 ((↑(List.length s_) : Int) - (1 : Int))) + n) -
 (1 : Int)) ≤
 (281474976710656 : Int) ∧
 IntKind.wrap IntKind.i64
 (IntKind.wrap IntKind.i64
 (IntKind.wrap IntKind.i64 ((8 : Int) * IntKind.wrap IntKind.i64 ((↑(List.length s_) : Int) - (1 : Int))) + n) -
 (1 : Int)) <
 (9223372036854775808 : Int) ∧
 Go.Vc.Loop (0 : Int)
 (Array.push h
 (row
 (zeros (TV.bool false)
 (Int.toNat
 (IntKind.wrap IntKind.i64
 (IntKind.wrap IntKind.i64
 (IntKind.wrap IntKind.i64 ((8 : Int) * IntKind.wrap IntKind.i64 ((↑(List.length s_) : Int) - (1 : Int))) + n) -
 (1 : Int)))))
 (4 : Nat)))
 fun (s : Int) (h_1 : Array Obj) (K : Int → Array Obj → Prop) ↦
 If
 (decide
 (s <
 (↑(Int.toNat
 (IntKind.wrap IntKind.i64
 (IntKind.wrap IntKind.i64
 (IntKind.wrap IntKind.i64 ((8 : Int) * IntKind.wrap IntKind.i64 ((↑(List.length s_) : Int) - (1 : Int))) + n) -
 (1 : Int)))) :
 Int)))
 ((8 : Int) ≠ (0 : Int) ∧
 (0 : Int) ≤ IntKind.wrap IntKind.i64 (Int.tdiv s (8 : Int)) ∧
 IntKind.wrap IntKind.i64 (Int.tdiv s (8 : Int)) < (↑(List.length s_) : Int) ∧
 (8 : Int) ≠ (0 : Int) ∧
 (0 : Int) ≤ Int.tmod s (8 : Int) ∧
 (0 : Int) ≤ s ∧
 s <
 (↑(Int.toNat
 (IntKind.wrap IntKind.i64
 (IntKind.wrap IntKind.i64
 (IntKind.wrap IntKind.i64
 ((8 : Int) * IntKind.wrap IntKind.i64 ((↑(List.length s_) : Int) - (1 : Int))) +
 n) -
 (1 : Int)))) :
 Int) ∧
 wok h_1 (Array.size h) ((0 : Nat) + Int.toNat s * (1 : Nat)) (1 : Nat) ∧
 Vc.Bind
 (TV.put h_1 (Array.size h) ((0 : Nat) + Int.toNat s * (1 : Nat))
 (TV.bool
 (decide
 (IntKind.wrap IntKind.u8
 (↑(BitVec.toNat
 (BitVec.ofInt (IntKind.bits IntKind.u8)
 (Int.fdiv
 (↑(UInt8.toNat
 (List.getD s_ (Int.toNat (IntKind.wrap IntKind.i64 (Int.tdiv s (8 : Int))))
 (0 : UInt8))) :
 Int)
 ((2 : Int) ^ min (Int.toNat (Int.tmod s (8 : Int))) (IntKind.bits IntKind.u8))) &&&
 BitVec.ofInt (IntKind.bits IntKind.u8) (1 : Int))) :
 Int) =
 (1 : Int)))))
 fun (h : Array Obj) ↦ K (IntKind.wrap IntKind.i64 (s + (1 : Int))) h)
 (R
 (TV.val
 (TV.tup
 [TV.slice
 (Sl.mk (some (Loc.mk (Array.size h) (0 : Nat)))
 (Int.toNat
 (IntKind.wrap IntKind.i64
 (IntKind.wrap IntKind.i64
 (IntKind.wrap IntKind.i64 ((8 : Int) * IntKind.wrap IntKind.i64 ((↑(List.length s_) : Int) - (1 : Int))) + n) -
 (1 : Int))))
 (Int.toNat
 (IntKind.wrap IntKind.i64
 (IntKind.wrap IntKind.i64
 (IntKind.wrap IntKind.i64 ((8 : Int) * IntKind.wrap IntKind.i64 ((↑(List.length s_) : Int) - (1 : Int))) + n) -
 (1 : Int))))),
 TV.bool true]))
 h_1)))
 fun (J : Sl × Bool → Array Obj → Prop) ↦
 If (decide (s_ = (ByteArray.mk #[]).data.toList)) (R (TV.val (TV.tup [TV.slice Sl.nil, TV.bool false])) h)
 ((0 : Int) ≤ IntKind.wrap IntKind.i64 ((↑(List.length s_) : Int) - (1 : Int)) ∧
 IntKind.wrap IntKind.i64 ((↑(List.length s_) : Int) - (1 : Int)) < (↑(List.length s_) : Int) ∧
 If
 (decide
 ((↑(UInt8.toNat (List.getD s_ (Int.toNat (IntKind.wrap IntKind.i64 ((↑(List.length s_) : Int) - (1 : Int)))) (0 : UInt8))) : Int) = (0 : Int)))
 (R (TV.val (TV.tup [TV.slice Sl.nil, TV.bool false])) h) (J (Sl.mk none (0 : Nat) (0 : Nat), false) h))

theorem bitlist_Get_calls (s_ : List UInt8) (most : Int) (h : Heap) (R : Value → Heap → Prop) (H : bitlist_Get_vc s_ most h R) : CallsH Tryz.prog 63 (TVs.vals [TV.str s_, TV.int IntKind.i64 most]) h R :=
 vcFn_sound (C := ctx) ctx_ok (fn := Tryz.f63) Tryz.func63 ((by kernel_rfl : bitlist_Get_vc s_ most h R = vcFn ctx Tryz.f63 [TV.str s_, TV.int IntKind.i64 most] h R) ▸ H)


def le_Reader_Left_vc (r : Option Go.Vc.Loc) (h : Heap) (R : Value → Heap → Prop) : Prop :=
 If (Option.isNone r) (R (TV.val (TV.int IntKind.i64 (0 : Int))) h)
 (Nn r fun (l : Go.Vc.Loc) ↦
 ∃ (s : List UInt8), at1 h l.b l.o (Value.string (ByteArray.mk (List.toArray s))) ∧ R (TV.val (TV.int IntKind.i64 (↑(List.length s) : Int))) h)

theorem le_Reader_Left_calls (r : Option Go.Vc.Loc) (h : Heap) (R : Value → Heap → Prop) (H : le_Reader_Left_vc r h R) : CallsH Tryz.prog 64 (TVs.vals [TV.ptr r]) h R :=
 vcFn_sound (C := ctx) ctx_ok (fn := Tryz.f64) Tryz.func64 ((by kernel_rfl : le_Reader_Left_vc r h R = vcFn ctx Tryz.f64 [TV.ptr r] h R) ▸ H)


def le_Reader_End_vc (r : Option Go.Vc.Loc) (h : Heap) (R : Value → Heap → Prop) : Prop :=
 If (!Option.isNone r)
 (Nn r fun (l : Go.Vc.Loc) ↦
 ∃ (b : Bool),
 at1 h l.b (l.o + (1 : Nat)) (Value.bool b) ∧
 If (!b)
 (Nn r fun (l : Go.Vc.Loc) ↦
 ∃ (s : List UInt8),
 at1 h l.b l.o (Value.string (ByteArray.mk (List.toArray s))) ∧ R (TV.val (TV.bool (decide (s = (ByteArray.mk #[]).data.toList)))) h)
 (R (TV.val (TV.bool false)) h))
 (R (TV.val (TV.bool false)) h)

theorem le_Reader_End_calls (r : Option Go.Vc.Loc) (h : Heap) (R : Value → Heap → Prop) (H : le_Reader_End_vc r h R) : CallsH Tryz.prog 65 (TVs.vals [TV.ptr r]) h R :=
 vcFn_sound (C := ctx) ctx_ok (fn := Tryz.f65) Tryz.func65 ((by kernel_rfl : le_Reader_End_vc r h R = vcFn ctx Tryz.f65 [TV.ptr r] h R) ▸ H)


def math_bits_Len8_vc (x : Int) (h : Heap) (R : Value → Heap → Prop) : Prop :=
 (0 : Int) ≤ x ∧
 x <
 (↑(List.length
 (ByteArray.mk
 (List.toArray
 (List.append
 (List.append
 [(0 : UInt8), (1 : UInt8), (2 : UInt8), (2 : UInt8), (3 : UInt8), (3 : UInt8), (3 : UInt8), (3 : UInt8), (4 : UInt8), (4 : UInt8),
 (4 : UInt8), (4 : UInt8), (4 : UInt8), (4 : UInt8), (4 : UInt8), (4 : UInt8), (5 : UInt8), (5 : UInt8), (5 : UInt8), (5 : UInt8),
 (5 : UInt8), (5 : UInt8), (5 : UInt8), (5 : UInt8), (5 : UInt8), (5 : UInt8), (5 : UInt8), (5 : UInt8), (5 : UInt8), (5 : UInt8),
 (5 : UInt8), (5 : UInt8), (6 : UInt8), (6 : UInt8), (6 : UInt8), (6 : UInt8), (6 : UInt8), (6 : UInt8), (6 : UInt8), (6 : UInt8),
 (6 : UInt8), (6 : UInt8), (6 : UInt8), (6 : UInt8), (6 : UInt8), (6 : UInt8), (6 : UInt8), (6 : UInt8), (6 : UInt8), (6 : UInt8),
 (6 : UInt8), (6 : UInt8), (6 : UInt8), (6 : UInt8), (6 : UInt8), (6 : UInt8), (6 : UInt8), (6 : UInt8), (6 : UInt8), (6 : UInt8),
 (6 : UInt8), (6 : UInt8), (6 : UInt8), (6 : UInt8)]
 [(7 : UInt8), (7 : UInt8), (7 : UInt8), (7 : UInt8), (7 : UInt8), (7 : UInt8), (7 : UInt8), (7 : UInt8), (7 : UInt8), (7 : UInt8),
 (7 : UInt8), (7 : UInt8), (7 : UInt8), (7 : UInt8), (7 : UInt8), (7 : UInt8), (7 : UInt8), (7 : UInt8), (7 : UInt8), (7 : UInt8),
 (7 : UInt8), (7 : UInt8), (7 : UInt8), (7 : UInt8), (7 : UInt8), (7 : UInt8), (7 : UInt8), (7 : UInt8), (7 : UInt8), (7 : UInt8),
 (7 : UInt8), (7 : UInt8), (7 : UInt8), (7 : UInt8), (7 : UInt8), (7 : UInt8), (7 : UInt8), (7 : UInt8), (7 : UInt8), (7 : UInt8),
 (7 : UInt8), (7 : UInt8), (7 : UInt8), (7 : UInt8), (7 : UInt8), (7 : UInt8), (7 : UInt8), (7 : UInt8), (7 : UInt8), (7 : UInt8),
 (7 : UInt8), (7 : UInt8), (7 : UInt8), (7 : UInt8), (7 : UInt8), (7 : UInt8), (7 : UInt8), (7 : UInt8), (7 : UInt8), (7 : UInt8),
 (7 : UInt8), (7 : UInt8), (7 : UInt8), (7 : UInt8)])
 (List.append
 [(8 : UInt8), (8 : UInt8), (8 : UInt8), (8 : UInt8), (8 : UInt8), (8 : UInt8), (8 : UInt8), (8 : UInt8), (8 : UInt8), (8 : UInt8),
 (8 : UInt8), (8 : UInt8), (8 : UInt8), (8 : UInt8), (8 : UInt8), (8 : UInt8), (8 : UInt8), (8 : UInt8), (8 : UInt8), (8 : UInt8),
 (8 : UInt8), (8 : UInt8), (8 : UInt8), (8 : UInt8), (8 : UInt8), (8 : UInt8), (8 : UInt8), (8 : UInt8), (8 : UInt8), (8 : UInt8),
 (8 : UInt8), (8 : UInt8), (8 : UInt8), (8 : UInt8), (8 : UInt8), (8 : UInt8), (8 : UInt8), (8 : UInt8), (8 : UInt8), (8 : UInt8),
 (8 : UInt8), (8 : UInt8), (8 : UInt8), (8 : UInt8), (8 : UInt8), (8 : UInt8), (8 : UInt8), (8 : UInt8), (8 : UInt8), (8 : UInt8),
 (8 : UInt8), (8 : UInt8), (8 : UInt8), (8 : UInt8), (8 : UInt8), (8 : UInt8), (8 : UInt8), (8 : UInt8), (8 : UInt8), (8 : UInt8),
 (8 : UInt8), (8 : UInt8), (8 : UInt8), (8 : UInt8)]
 [(8 : UInt8), (8 : UInt8), (8 : UInt8), (8 : UInt8), (8 : UInt8), (8 : UInt8), (8 : UInt8), (8 : UInt8), (8 : UInt8), (8 : UInt8),
 (8 : UInt8), (8 : UInt8), (8 : UInt8), (8 : UInt8), (8 : UInt8), (8 : UInt8), (8 : UInt8), (8 : UInt8), (8 : UInt8), (8 : UInt8),
 (8 : UInt8), (8 : UInt8), (8 : UInt8), (8 : UInt8), (8 : UInt8), (8 : UInt8), (8 : UInt8), (8 : UInt8), (8 : UInt8), (8 : UInt8),
 (8 : UInt8), (8 : UInt8), (8 : UInt8), (8 : UInt8), (8 : UInt8), (8 : UInt8), (8 : UInt8), (8 : UInt8), (8 : UInt8), (8 : UInt8),
 (8 : UInt8), (8 : UInt8), (8 : UInt8), (8 : UInt8), (8 : UInt8), (8 : UInt8), (8 : UInt8), (8 : UInt8), (8 : UInt8), (8 : UInt8),
 (8 : UInt8), (8 : UInt8), (8 : UInt8), (8 : UInt8), (8 : UInt8), (8 : UInt8), (8 : UInt8), (8 : UInt8), (8 : UInt8), (8 : UInt8),
 (8 : UInt8), (8 : UInt8), (8 : UInt8), (8 : UInt8)])))).data.toList) :
 Int) ∧
 R
 (TV.val
 (TV.int IntKind.i64
 (IntKind.wrap IntKind.i64
 (↑(UInt8.toNat
 (List.getD
 (ByteArray.mk
 (List.toArray
 (List.append
 (List.append
 [(0 : UInt8), (1 : UInt8), (2 : UInt8), (2 : UInt8), (3 : UInt8), (3 : UInt8), (3 : UInt8), (3 : UInt8), (4 : UInt8),
 (4 : UInt8), (4 : UInt8), (4 : UInt8), (4 : UInt8), (4 : UInt8), (4 : UInt8), (4 : UInt8), (5 : UInt8), (5 : UInt8),
 (5 : UInt8), (5 : UInt8), (5 : UInt8), (5 : UInt8), (5 : UInt8), (5 : UInt8), (5 : UInt8), (5 : UInt8), (5 : UInt8),
 (5 : UInt8), (5 : UInt8), (5 : UInt8), (5 : UInt8), (5 : UInt8), (6 : UInt8), (6 : UInt8), (6 : UInt8), (6 : UInt8),
 (6 : UInt8), (6 : UInt8), (6 : UInt8), (6 : UInt8), (6 : UInt8), (6 : UInt8), (6 : UInt8), (6 : UInt8), (6 : UInt8),
 (6 : UInt8), (6 : UInt8), (6 : UInt8), (6 : UInt8), (6 : UInt8), (6 : UInt8), (6 : UInt8), (6 : UInt8), (6 : UInt8),
 (6 : UInt8), (6 : UInt8), (6 : UInt8), (6 : UInt8), (6 : UInt8), (6 : UInt8), (6 : UInt8), (6 : UInt8), (6 : UInt8),
 (6 : UInt8)]
 [(7 : UInt8), (7 : UInt8), (7 : UInt8), (7 : UInt8), (7 : UInt8), (7 : UInt8), (7 : UInt8), (7 : UInt8), (7 : UInt8),
 (7 : UInt8), (7 : UInt8), (7 : UInt8), (7 : UInt8), (7 : UInt8), (7 : UInt8), (7 : UInt8), (7 : UInt8), (7 : UInt8),
 (7 : UInt8), (7 : UInt8), (7 : UInt8), (7 : UInt8), (7 : UInt8), (7 : UInt8), (7 : UInt8), (7 : UInt8), (7 : UInt8),
 (7 : UInt8), (7 : UInt8), (7 : UInt8), (7 : UInt8), (7 : UInt8), (7 : UInt8), (7 : UInt8), (7 : UInt8), (7 : UInt8),
 (7 : UInt8), (7 : UInt8), (7 : UInt8), (7 : UInt8), (7 : UInt8), (7 : UInt8), (7 : UInt8), (7 : UInt8), (7 : UInt8),
 (7 : UInt8), (7 : UInt8), (7 : UInt8), (7 : UInt8), (7 : UInt8), (7 : UInt8), (7 : UInt8), (7 : UInt8), (7 : UInt8),
 (7 : UInt8), (7 : UInt8), (7 : UInt8), (7 : UInt8), (7 : UInt8), (7 : UInt8), (7 : UInt8), (7 : UInt8), (7 : UInt8),
 (7 : UInt8)])
 (List.append
 [(8 : UInt8), (8 : UInt8), (8 : UInt8), (8 : UInt8), (8 : UInt8), (8 : UInt8), (8 : UInt8), (8 : UInt8), (8 : UInt8),
 (8 : UInt8), (8 : UInt8), (8 : UInt8), (8 : UInt8), (8 : UInt8), (8 : UInt8), (8 : UInt8), (8 : UInt8), (8 : UInt8),
 (8 : UInt8), (8 : UInt8), (8 : UInt8), (8 : UInt8), (8 : UInt8), (8 : UInt8), (8 : UInt8), (8 : UInt8), (8 : UInt8),
 (8 : UInt8), (8 : UInt8), (8 : UInt8), (8 : UInt8), (8 : UInt8), (8 : UInt8), (8 : UInt8), (8 : UInt8), (8 : UInt8),
 (8 : UInt8), (8 : UInt8), (8 : UInt8), (8 : UInt8), (8 : UInt8), (8 : UInt8), (8 : UInt8), (8 : UInt8), (8 : UInt8),
 (8 : UInt8), (8 : UInt8), (8 : UInt8), (8 : UInt8), (8 : UInt8), (8 : UInt8), (8 : UInt8), (8 : UInt8), (8 : UInt8),
 (8 : UInt8), (8 : UInt8), (8 : UInt8), (8 : UInt8), (8 : UInt8), (8 : UInt8), (8 : UInt8), (8 : UInt8), (8 : UInt8),
 (8 : UInt8)]
 [(8 : UInt8), (8 : UInt8), (8 : UInt8), (8 : UInt8), (8 : UInt8), (8 : UInt8), (8 : UInt8), (8 : UInt8), (8 : UInt8),
 (8 : UInt8), (8 : UInt8), (8 : UInt8), (8 : UInt8), (8 : UInt8), (8 : UInt8), (8 : UInt8), (8 : UInt8), (8 : UInt8),
 (8 : UInt8), (8 : UInt8), (8 : UInt8), (8 : UInt8), (8 : UInt8), (8 : UInt8), (8 : UInt8), (8 : UInt8), (8 : UInt8),
 (8 : UInt8), (8 : UInt8), (8 : UInt8), (8 : UInt8), (8 : UInt8), (8 : UInt8), (8 : UInt8), (8 : UInt8), (8 : UInt8),
 (8 : UInt8), (8 : UInt8), (8 : UInt8), (8 : UInt8), (8 : UInt8), (8 : UInt8), (8 : UInt8), (8 : UInt8), (8 : UInt8),
 (8 : UInt8), (8 : UInt8), (8 : UInt8), (8 : UInt8), (8 : UInt8), (8 : UInt8), (8 : UInt8), (8 : UInt8), (8 : UInt8),
 (8 : UInt8), (8 : UInt8), (8 : UInt8), (8 : UInt8), (8 : UInt8), (8 : UInt8), (8 : UInt8), (8 : UInt8), (8 : UInt8),
 (8 : UInt8)])))).data.toList
 (Int.toNat x) (0 : UInt8))) :
 Int))))
 h

theorem math_bits_Len8_calls (x : Int) (h : Heap) (R : Value → Heap → Prop) (H : math_bits_Len8_vc x h R) : CallsH Tryz.prog 92 (TVs.vals [TV.int IntKind.u8 x]) h R :=
 vcFn_sound (C := ctx) ctx_ok (fn := Tryz.f92) Tryz.func92 ((by kernel_rfl : math_bits_Len8_vc x h R = vcFn ctx Tryz.f92 [TV.int IntKind.u8 x] h R) ▸ H)


end Go.Proofs.YtldocdpdjdekiaaGreat
end

section
/- The program's reader of bytes, and its rows of bits. -/
namespace Go.Proofs.YtldocdpdjdekiaaGreat.Board
open Go Go.Vc
section
variable {R : Value → Heap → Prop} {h : Heap} {b : Nat} {r : List UInt8} {sh : Bool}

/-- The next so many bytes of what is left, and what is left then, and whether it was too short. -/
def rdB (r : List UInt8) (sh : Bool) (n : Int) : List UInt8 × List UInt8 × Bool :=
  if sh = true ∨ n < 0 ∨ (r.length : Int) < n then ([], [], true) else (r.take n.toNat, r.drop n.toNat, sh)

theorem rdB_len {n : Int} : (rdB r sh n).1.length ≤ n.toNat := by
  unfold rdB
  split
  · exact Nat.zero_le _
  · rw [List.length_take]; omega

theorem rdB_ok {n : Nat} (h : n ≤ r.length) : rdB r false (n : Int) = (r.take n, r.drop n, false) := by
  unfold rdB
  rw [if_neg]
  · rfl
  · rintro (h1 | h1 | h1)
    · cases h1
    · omega
    · omega

theorem rdB_bad {n : Int} (h : sh = true ∨ n < 0 ∨ (r.length : Int) < n) : rdB r sh n = ([], [], true) := if_pos h

/-- A reader in memory: what is left, and whether it is short. -/
def Rd (h : Heap) (b : Nat) (r : List UInt8) (sh : Bool) : Prop := Var 139 h b (.agg [.str r, .bool sh])

theorem rbytes_spec {n : Int} (v : Rd h b r sh) (hr : ∀ h', Rd h' b (rdB r sh n).2.1 (rdB r sh n).2.2 → Only (· = b) h h' → R (TV.str (rdB r sh n).1).val h') :
    CallsH Tryz.prog 62 (TVs.vals [.ptr (some ⟨b, 0⟩), .int .i64 n]) h R := by
  apply le_Reader_Bytes_calls
  unfold le_Reader_Bytes_vc
  have v : Var 139 h b (.agg [.str r, .bool sh]) := v
  intro J HJ J2 HJ2
  have bad : (sh = true ∨ n < 0 ∨ (r.length : Int) < n) → J2 true h := by
    intro hb
    rw [rdB_bad hb] at hr
    refine HJ2 true h (If.yes (If.yes ?_))
    refine field_in (i := 1) (t := .bool true) (t0 := .bool sh) v rfl rfl rfl rfl fun h1 v1 f1 s1 => ?_
    refine field_in (i := 0) (t := .str []) (t0 := .str r) v1 rfl rfl rfl rfl fun h2 v2 f2 s2 => ?_
    exact hr h2 v2 (f1.trans f2)
  refine If.no ⟨sh, v.at1 rfl, ?_⟩
  refine If.split (fun hb => bad (.inl (by simpa using hb))) fun hs => If.dec.2 ⟨fun hn => bad (.inr (.inl hn)), fun hn => ⟨r, v.at1 rfl, ?_⟩⟩
  have hs : sh = false := by simpa using hs
  by_cases hl : (r.length : Int) < n
  · rw [decide_eq_true hl]
    exact bad (.inr (.inr hl))
  rw [decide_eq_false hl]
  have hg : rdB r sh n = (r.take n.toNat, r.drop n.toNat, sh) := if_neg (by rw [hs]; rintro (h1 | h1 | h1) <;> first | cases h1 | exact hn h1 | exact hl h1)
  rw [hg] at hr
  refine HJ2 false h (If.no (HJ _ h ⟨r, v.at1 rfl, by omega, by omega, r, v.at1 rfl, by omega, by omega, ?_⟩))
  have e1 : List.take (r.length - n.toNat) (r.drop n.toNat) = r.drop n.toNat := List.take_of_length_le (by rw [List.length_drop]; omega)
  refine ?_
  show wok h b 0 1 ∧ Bind _ _
  rw [e1]
  refine field_in (i := 0) (t := .str (r.drop n.toNat)) (t0 := .str r) v rfl rfl rfl rfl fun h2 v2 f2 s2 => ?_
  exact hr h2 v2 f2

set_option maxRecDepth 100000 in
theorem or_parts64 (A B : Nat) (hB : B < 2 ^ 8) (hA : A * 2 ^ 8 + B < 18446744073709551616) : ((BitVec.toNat (BitVec.ofInt 64 ((A * 2 ^ 8 : Nat) : Int) ||| BitVec.ofInt 64 (B : Int)) : Nat) : Int) = ((A * 2 ^ 8 + B : Nat) : Int) := by
  rw [BitVec.ofInt_natCast, BitVec.ofInt_natCast, BitVec.toNat_or, BitVec.toNat_ofNat, BitVec.toNat_ofNat, Nat.mod_eq_of_lt (by omega), Nat.mod_eq_of_lt (by omega)]
  have := Nat.shiftLeft_add_eq_or_of_lt hB A
  rw [Nat.shiftLeft_eq] at this
  rw [this]

theorem shl8 (A : Nat) (c : UInt8) (hA : A < 72057594037927936) :
    IntKind.wrap .u64 (↑(BitVec.toNat (BitVec.ofInt (IntKind.bits .u64) (IntKind.wrap .u64 ((A : Int) * 2 ^ min (Int.toNat 8) (IntKind.bits .u64))) ||| BitVec.ofInt (IntKind.bits .u64) (IntKind.wrap .u64 (c.toNat : Int)))) : Int) = ((c.toNat + 256 * A : Nat) : Int) := by
  have hc := c.toNat_lt
  have e1 : IntKind.wrap .u64 ((A : Int) * 2 ^ min (Int.toNat 8) (IntKind.bits .u64)) = ((A * 2 ^ 8 : Nat) : Int) := by
    show IntKind.wrap .u64 ((A : Int) * 256) = _
    rw [wrap_u64_small (by omega) (by omega)]
    omega
  have e2 : IntKind.wrap .u64 (c.toNat : Int) = (c.toNat : Int) := wrap_u64_small (by omega) (by omega)
  rw [e1, e2]
  show IntKind.wrap .u64 (↑(BitVec.toNat (BitVec.ofInt 64 ((A * 2 ^ 8 : Nat) : Int) ||| BitVec.ofInt 64 (c.toNat : Int))) : Int) = _
  rw [or_parts64 A c.toNat (by omega) (by omega), wrap_u64_small (by omega) (by omega)]
  omega

theorem ruint_spec {w : Int} (v : Rd h b r sh) (hw : w ≤ 8) (hr : ∀ h', Rd h' b (rdB r sh w).2.1 (rdB r sh w).2.2 → Only (· = b) h h' → R (TV.int .u64 (num (rdB r sh w).1 : Nat)).val h') :
    CallsH Tryz.prog 61 (TVs.vals [.ptr (some ⟨b, 0⟩), .int .i64 w]) h R := by
  apply le_Reader_Uint_calls
  unfold le_Reader_Uint_vc
  intro J HJ
  refine If.dec.2 ⟨fun h1 => by omega, fun _ => HJ w h ?_⟩
  refine rbytes_spec v fun h1 v1 f1 => ⟨_, rfl, ?_⟩
  have hl : (rdB r sh w).1.length ≤ 8 := Nat.le_trans rdB_len (by omega)
  have hr1 := hr h1 v1 f1
  generalize (rdB r sh w).1 = s at hl hr1
  refine ⟨fun σ hh => -1 ≤ σ.2 ∧ σ.2 < s.length ∧ hh = h1 ∧ σ.1 = ((num (s.drop (σ.2 + 1).toNat) : Nat) : Int), fun σ _ => (σ.2 + 1).toNat, ⟨?_, ?_, rfl, ?_⟩, ?_⟩
  · show -1 ≤ IntKind.wrap .i64 _
    rw [wrap_i64 (by omega) (by omega)]; omega
  · show IntKind.wrap .i64 _ < _
    rw [wrap_i64 (by omega) (by omega)]; omega
  · show (0 : Int) = ((num (s.drop (IntKind.wrap .i64 _ + 1).toNat) : Nat) : Int)
    rw [wrap_i64 (by omega) (by omega), List.drop_of_length_le (by omega)]
    rfl
  rintro ⟨a, i⟩ hh ⟨i0, i1, rfl, ha⟩
  dsimp only at i0 i1 ha ⊢
  refine If.dec.2 ⟨fun hi => ⟨by decide, hi, i1, ?_⟩, fun hi => ?_⟩
  · have hlt := num_lt (s.drop (i + 1).toNat)
    have hdl : (s.drop (i + 1).toNat).length ≤ 7 := by rw [List.length_drop]; omega
    have hp : 256 ^ (s.drop (i + 1).toNat).length ≤ 256 ^ 7 := Nat.pow_le_pow_right (by decide) hdl
    have hp7 : 256 ^ 7 = 72057594037927936 := by decide
    have hdrop : s.drop i.toNat = s.getD i.toNat 0 :: s.drop (i + 1).toNat := by
      rw [List.drop_eq_getElem_cons (by omega), List.getD_eq_getElem?_getD, List.getElem?_eq_getElem (by omega), show (i + 1).toNat = i.toNat + 1 by omega]
      rfl
    rw [ha, shl8 _ _ (by omega), wrap_i64 (n := i - 1) (by omega) (by omega)]
    refine ⟨⟨by first | omega | (dsimp only; omega), by first | omega | (dsimp only; omega), rfl, ?_⟩, by first | omega | (dsimp only; omega)⟩
    try dsimp only
    rw [show (i - 1 + 1).toNat = i.toNat by omega, hdrop, num]
  · have : (i + 1).toNat = 0 := by omega
    rw [ha, this]
    exact hr1

theorem from_spec {s : List UInt8} (hr : ∀ h', Rd h' h.size s false → Ext h h' → h'.size = h.size + 1 → R (TV.ptr (some ⟨h.size, 0⟩)).val h') : CallsH Tryz.prog 60 (TVs.vals [.str s]) h R := by
  apply le_From_calls
  unfold le_From_vc
  exact newTV_in fun h1 v1 x1 s1 => hr h1 v1 x1 s1

theorem left_spec (v : Rd h b r sh) (hr : R (TV.int .i64 (r.length : Int)).val h) : CallsH Tryz.prog 64 (TVs.vals [.ptr (some ⟨b, 0⟩)]) h R := by
  have v : Var 139 h b (.agg [.str r, .bool sh]) := v
  apply le_Reader_Left_calls
  unfold le_Reader_Left_vc
  exact If.no ⟨r, v.at1 rfl, hr⟩

theorem rend_spec (v : Rd h b r sh) (hr : R (TV.bool (!sh && decide (r = []))).val h) : CallsH Tryz.prog 65 (TVs.vals [.ptr (some ⟨b, 0⟩)]) h R := by
  have v : Var 139 h b (.agg [.str r, .bool sh]) := v
  apply le_Reader_End_calls
  unfold le_Reader_End_vc
  refine If.yes ⟨sh, v.at1 rfl, ?_⟩
  cases sh with
  | true => exact If.no hr
  | false => exact If.yes ⟨r, v.at1 rfl, hr⟩

/-! ### Rows of bits -/

def tab8 : List UInt8 := (List.range 256).map fun i => if i = 0 then 0 else UInt8.ofNat (Nat.log2 i + 1)

theorem len8_eq (x : Int) (h : Heap) (R : Value → Heap → Prop) : math_bits_Len8_vc x h R = (0 ≤ x ∧ x < 256 ∧ R (TV.int .i64 (IntKind.wrap .i64 ((tab8.getD x.toNat 0).toNat : Int))).val h) := by kernel_rfl

theorem tab8_get : ∀ n : Fin 256, n.val ≠ 0 → IntKind.wrap .i64 ((tab8.getD n.val 0).toNat : Int) = ((n.val.log2 + 1 : Nat) : Int) := by decide +kernel

theorem len8_spec {c : UInt8} (hc : c ≠ 0) (hr : R (TV.int .i64 ((topBit c + 1 : Nat) : Int)).val h) : CallsH Tryz.prog 92 (TVs.vals [.int .u8 (c.toNat : Int)]) h R := by
  apply math_bits_Len8_calls
  have hlt := c.toNat_lt
  have hn : c.toNat ≠ 0 := fun e => hc (UInt8.toNat_inj.1 e)
  rw [len8_eq]
  refine ⟨Int.natCast_nonneg _, by omega, ?_⟩
  rw [Int.toNat_natCast, tab8_get ⟨c.toNat, hlt⟩ hn]
  exact hr

theorem bit_test : ∀ c : Fin 256, ∀ k : Fin 8, decide (IntKind.wrap .u8 (↑(BitVec.toNat (BitVec.ofInt (IntKind.bits .u8) (Int.fdiv ((c.val : Nat) : Int) ((2 : Int) ^ min (Int.toNat ((k.val : Nat) : Int)) (IntKind.bits .u8))) &&& BitVec.ofInt (IntKind.bits .u8) 1)) : Int) = 1) = decide (c.val / 2 ^ k.val % 2 = 1) := by decide +kernel

theorem last_get {s : List UInt8} (_h : s ≠ []) : s.getD (s.length - 1) 0 = s.getLastD 0 := by
  rw [List.getLastD_eq_getLast?, List.getLast?_eq_getElem?, List.getD_eq_getElem?_getD]

/-- The row so far. -/
def rowTo (l : List Bool) (n i : Nat) : List Bool := l.take i ++ List.replicate (n - i) false

theorem rowTo_set {l : List Bool} {n i : Nat} {x : Bool} (hx : l[i]? = some x) (hn : i < n) : (rowTo l n i).set i x = rowTo l n (i + 1) := by
  have hi := (List.getElem?_eq_some_iff.1 hx).1
  unfold rowTo
  have hr : List.replicate (n - i) false = false :: List.replicate (n - (i + 1)) false := by
    rw [show n - i = (n - (i + 1)) + 1 by omega, List.replicate_succ]
  rw [List.set_append_right _ _ (by rw [List.length_take]; omega), List.length_take, Nat.min_eq_left (by omega), Nat.sub_self, hr, List.set_cons_zero, List.take_add_one, hx, List.append_assoc]
  rfl

set_option maxRecDepth 100000 in
theorem bget_spec {s : List UInt8} (hl : s.length < 100000) (hn : getF s 16 = none → R (TV.tup [.slice Sl.nil, .bool false]).val h)
    (hy : ∀ row h' t, getF s 16 = some row → Own 4 1 h' t (bools row) → Ext h h' → (∀ l, t.a = some l → h.size ≤ l.b) → R (TV.tup [.slice t, .bool true]).val h') :
    CallsH Tryz.prog 63 (TVs.vals [.str s, .int .i64 16]) h R := by
  apply bitlist_Get_calls
  unfold bitlist_Get_vc
  intro J HJ
  refine If.dec.2 ⟨fun h0 => ?_, fun h0 => ?_⟩
  · refine hn ?_
    have : s = [] := h0
    unfold getF
    rw [if_pos (.inl this)]
  have h0 : s ≠ [] := h0
  have hl0 : 0 < s.length := List.length_pos_iff.2 h0
  have w1 : IntKind.wrap .i64 ((s.length : Int) - 1) = ((s.length - 1 : Nat) : Int) := by rw [wrap_i64 (by omega) (by omega)]; omega
  rw [w1]
  rw [w1] at HJ
  refine ⟨by omega, by omega, ?_⟩
  rw [Int.toNat_natCast, last_get h0]
  rw [Int.toNat_natCast, last_get h0] at HJ
  refine If.dec.2 ⟨fun hz => ?_, fun hz => HJ _ _ ?_⟩
  · refine hn ?_
    have : s.getLastD 0 = 0 := UInt8.toNat_inj.1 (by show _ = 0; omega)
    unfold getF
    rw [if_pos (.inr this)]
  clear HJ J
  have hz : s.getLastD 0 ≠ 0 := fun e => hz (by rw [e]; rfl)
  have ht := topBit_lt hz
  refine ⟨by omega, by omega, len8_spec hz ⟨_, rfl, ?_⟩⟩
  have hg : getF s 16 = if 16 < rowLen s then none else some ((bitsOf s).take (rowLen s)) := by
    unfold getF
    rw [if_neg (by rintro (h1 | h1); exact h0 h1; exact hz h1)]
  have w2 : IntKind.wrap .i64 (IntKind.wrap .i64 (IntKind.wrap .i64 (8 * ((s.length - 1 : Nat) : Int)) + ((topBit (s.getLastD 0) + 1 : Nat) : Int)) - 1) = (rowLen s : Int) := by
    unfold rowLen
    rw [wrap_i64 (n := 8 * ((s.length - 1 : Nat) : Int)) (by omega) (by omega), wrap_i64 (n := 8 * ((s.length - 1 : Nat) : Int) + ((topBit (s.getLastD 0) + 1 : Nat) : Int)) (by omega) (by omega), wrap_i64 (by omega) (by omega)]
    omega
  rw [w2]
  have hrl : rowLen s < 8 * s.length := by unfold rowLen; omega
  refine If.dec.2 ⟨fun hm => hn (by rw [hg, if_pos (by omega)]), fun hm => ?_⟩
  rw [if_neg (by omega)] at hg
  generalize rowLen s = n at hg hm hrl
  have hbl : (bitsOf s).length = 8 * s.length := bitsOf_length s
  obtain ⟨row, hrow⟩ : ∃ row, row = (bitsOf s).take n := ⟨_, rfl⟩
  have hrn : row.length = n := by rw [hrow, List.length_take]; omega
  rw [← hrow] at hg
  refine ⟨by omega, by omega, by show (1 : Int) * (n : Int) ≤ _; omega, by omega, ?_⟩
  simp only [Int.toNat_natCast]
  have ob := Own.new (T := 4) (sz := 1) h (List.replicate n (TV.bool false)) (fun t ht => by rw [List.eq_of_mem_replicate ht]; rfl)
  rw [List.length_replicate, ← zeros_rep] at ob
  have e0 : List.replicate n (TV.bool false) = bools (rowTo row n 0) := by unfold rowTo; simp [bools]
  rw [e0] at ob
  have xp := Ext.push h (Vc.row (zeros (TV.bool false) n) 4)
  refine ⟨fun i hh => 0 ≤ i ∧ i ≤ n ∧ Ext h hh ∧ Own 4 1 hh ⟨some ⟨h.size, 0⟩, n, n⟩ (bools (rowTo row n i.toNat)), fun i _ => ((n : Int) - i).toNat, ⟨Int.le_refl 0, by omega, xp, ob⟩, ?_⟩
  rintro i hh ⟨i0, i1, x1, o1⟩
  have hbits := bitsOf_get s i.toNat
  refine If.dec.2 ⟨fun hi => ?_, fun hi => ?_⟩
  · have d8 : Int.tdiv i 8 = ((i.toNat / 8 : Nat) : Int) := by rw [Int.tdiv_eq_ediv_of_nonneg i0]; omega
    have m8 : Int.tmod i 8 = ((i.toNat % 8 : Nat) : Int) := by rw [Int.tmod_eq_emod_of_nonneg i0]; omega
    have w3 : IntKind.wrap .i64 (Int.tdiv i 8) = ((i.toNat / 8 : Nat) : Int) := by rw [d8, wrap_i64 (by omega) (by omega)]
    rw [w3, m8]
    refine ⟨by decide, by omega, by omega, by decide, by omega, i0, hi, ?_⟩
    have hx : row[i.toNat]? = some (bitAt (s.getD (i.toNat / 8) 0) (i.toNat % 8)) := by rw [hrow, List.getElem?_take, if_pos (by omega), hbits (by omega)]
    have hbt := bit_test ⟨(s.getD (i.toNat / 8) 0).toNat, UInt8.toNat_lt _⟩ ⟨i.toNat % 8, Nat.mod_lt _ (by decide)⟩
    rw [Int.toNat_natCast]
    dsimp only at hbt
    rw [hbt]
    refine (Own.put_in (n := 1) (t := TV.bool (bitAt (s.getD (i.toNat / 8) 0) (i.toNat % 8))) o1 i0 (by unfold rowTo; rw [List.length_map, List.length_append, List.length_take, List.length_replicate]; omega) rfl rfl fun h2 o2 f2 s2 => ?_).2.2
    rw [wrap_i64 (n := i + 1) (by omega) (by omega)]
    refine ⟨⟨by omega, by omega, Only.cut x1 f2 fun j ⟨l, hl, hj⟩ => by obtain rfl := Option.some.inj hl; rw [← hj]; exact Nat.le_refl _, ?_⟩, by first | omega | (dsimp only; omega)⟩
    rw [show (i + 1).toNat = i.toNat + 1 by omega, ← rowTo_set hx (by omega)]
    have : bools ((rowTo row n i.toNat).set i.toNat (bitAt (s.getD (i.toNat / 8) 0) (i.toNat % 8))) = (bools (rowTo row n i.toNat)).set i.toNat (TV.bool (bitAt (s.getD (i.toNat / 8) 0) (i.toNat % 8))) := List.map_set
    rw [this]
    exact o2
  · have hin : i.toNat = n := by omega
    have hall : rowTo row n i.toNat = row := by unfold rowTo; rw [hin, Nat.sub_self, List.take_of_length_le (by omega)]; simp
    rw [hall] at o1
    exact hy row hh _ hg o1 x1 fun l hl => by obtain rfl := Option.some.inj hl; exact Nat.le_refl _

end
end Go.Proofs.YtldocdpdjdekiaaGreat.Board
end

section
/- The conditions of functions, as the generator reckons them out, each with the proof that it is that. -/
namespace Go.Proofs.YtldocdpdjdekiaaGreat
open Go Go.Vc
set_option maxRecDepth 100000
set_option linter.unusedVariables false

def wire_Decode_vc (s_ : List UInt8) (h : Heap) (R : Value → Heap → Prop) : Prop :=
 Vc.Bind
 (newTV h
 (TV.agg
 [TV.int IntKind.i64 (0 : Int), TV.int IntKind.i64 (0 : Int), TV.bytes (32 : Nat) (Bs.zero (32 : Nat)), TV.int IntKind.i64 (0 : Int),
 TV.int IntKind.u64 (0 : Int), TV.slice Sl.nil, TV.bytes (16 : Nat) (Bs.zero (16 : Nat))])
 (58 : Nat))
 fun (h_1 : Array Obj) ↦
 CallsH Tryz.prog (60 : Nat) (TVs.vals [TV.str s_]) h_1 fun (v : Value) (h_2 : Array Obj) ↦
 ∃ (p : Option Go.Vc.Loc),
 v = TV.val (TV.ptr p) ∧
 CallsH Tryz.prog (61 : Nat) (TVs.vals [TV.ptr p, TV.int IntKind.i64 (1 : Int)]) h_2 fun (v : Value) (h_3 : Array Obj) ↦
 ∃ (n : Int),
 v = TV.val (TV.int IntKind.u64 n) ∧
 CallsH Tryz.prog (61 : Nat) (TVs.vals [TV.ptr p, TV.int IntKind.i64 (4 : Int)]) h_3 fun (v : Value) (h_4 : Array Obj) ↦
 ∃ (n_1 : Int),
 v = TV.val (TV.int IntKind.u64 n_1) ∧
 Vc.Bind
 (newTV h_4
 (TV.agg
 [TV.int IntKind.i64 (0 : Int), TV.int IntKind.i64 (0 : Int), TV.bytes (32 : Nat) (Bs.zero (32 : Nat)), TV.int IntKind.i64 (0 : Int),
 TV.int IntKind.u64 (0 : Int), TV.slice Sl.nil, TV.bytes (16 : Nat) (Bs.zero (16 : Nat))])
 (58 : Nat))
 fun (h_5 : Array Obj) ↦
 wok h_5 (Array.size h_4) (0 : Nat) (53 : Nat) ∧
 Vc.Bind
 (TV.put h_5 (Array.size h_4) (0 : Nat)
 (TV.agg
 [TV.int IntKind.i64 (IntKind.wrap IntKind.i64 n), TV.int IntKind.i64 (IntKind.wrap IntKind.i64 n_1),
 TV.bytes (32 : Nat) (Bs.zero (32 : Nat)), TV.int IntKind.i64 (0 : Int), TV.int IntKind.u64 (0 : Int), TV.slice Sl.nil,
 TV.bytes (16 : Nat) (Bs.zero (16 : Nat))]))
 fun (h_6 : Array Obj) ↦
 CallsH Tryz.prog (62 : Nat) (TVs.vals [TV.ptr p, TV.int IntKind.i64 (32 : Int)]) h_6 fun (v : Value) (h_7 : Array Obj) ↦
 ∃ (s : List UInt8),
 v = TV.val (TV.str s) ∧
 ((cutSl (Sl.mk (some (Loc.mk (Array.size h_4) (2 : Nat))) (32 : Nat) (32 : Nat)) (0 : Nat) (32 : Nat) (1 : Nat)).a = none →
 Join
 (fun (s : Bool) (h_8 : Array Obj) ↦
 CallsH Tryz.prog (62 : Nat) (TVs.vals [TV.ptr p, TV.int IntKind.i64 (16 : Int)]) h_8 fun (v : Value) (h_9 : Array Obj) ↦
 ∃ (s : List UInt8),
 v = TV.val (TV.str s) ∧
 ((cutSl (Sl.mk (some (Loc.mk (Array.size h_4) (37 : Nat))) (16 : Nat) (16 : Nat)) (0 : Nat) (16 : Nat)
 (1 : Nat)).a =
 none →
 CallsH Tryz.prog (65 : Nat) (TVs.vals [TV.ptr p]) h_9 fun (v : Value) (h_10 : Array Obj) ↦
 ∃ (b : Bool),
 v = TV.val (TV.bool b) ∧
 If (!b)
 (wok h_10 (Array.size h) (0 : Nat) (53 : Nat) ∧
 Vc.Bind
 (TV.put h_10 (Array.size h) (0 : Nat)
 (TV.agg
 [TV.int IntKind.i64 (0 : Int), TV.int IntKind.i64 (0 : Int),
 TV.bytes (32 : Nat) (Bs.zero (32 : Nat)), TV.int IntKind.i64 (0 : Int),
 TV.int IntKind.u64 (0 : Int), TV.slice Sl.nil, TV.bytes (16 : Nat) (Bs.zero (16 : Nat))]))
 fun (h_11 : Array Obj) ↦
 ∃ (n : Int),
 ∃ (n_2 : Int),
 ∃ (b : Bs (32 : Nat)),
 ∃ (n_3 : Int),
 ∃ (n_4 : Int),
 ∃ (s : Sl),
 ∃ (b_1 : Bs (16 : Nat)),
 (at1 h_11 (Array.size h) (0 : Nat) (Value.int IntKind.i64 n) ∧
 at1 h_11 (Array.size h) (1 : Nat) (Value.int IntKind.i64 n_2) ∧
 atBytes h_11 (Array.size h) (2 : Nat) (32 : Nat) b ∧
 at1 h_11 (Array.size h) (34 : Nat) (Value.int IntKind.i64 n_3) ∧
 at1 h_11 (Array.size h) (35 : Nat) (Value.int IntKind.u64 n_4) ∧
 at1 h_11 (Array.size h) (36 : Nat) (slVal s) ∧
 atBytes h_11 (Array.size h) (37 : Nat) (16 : Nat) b_1) ∧
 R
 (TV.val
 (TV.tup
 [TV.agg
 [TV.int IntKind.i64 n, TV.int IntKind.i64 n_2, TV.bytes (32 : Nat) b,
 TV.int IntKind.i64 n_3, TV.int IntKind.u64 n_4, TV.slice s,
 TV.bytes (16 : Nat) b_1],
 TV.bool false]))
 h_11)
 (∃ (n : Int),
 ∃ (n_2 : Int),
 ∃ (b : Bs (32 : Nat)),
 ∃ (n_3 : Int),
 ∃ (n_4 : Int),
 ∃ (s : Sl),
 ∃ (b_1 : Bs (16 : Nat)),
 (at1 h_10 (Array.size h_4) (0 : Nat) (Value.int IntKind.i64 n) ∧
 at1 h_10 (Array.size h_4) (1 : Nat) (Value.int IntKind.i64 n_2) ∧
 atBytes h_10 (Array.size h_4) (2 : Nat) (32 : Nat) b ∧
 at1 h_10 (Array.size h_4) (34 : Nat) (Value.int IntKind.i64 n_3) ∧
 at1 h_10 (Array.size h_4) (35 : Nat) (Value.int IntKind.u64 n_4) ∧
 at1 h_10 (Array.size h_4) (36 : Nat) (slVal s) ∧
 atBytes h_10 (Array.size h_4) (37 : Nat) (16 : Nat) b_1) ∧
 CallsH Tryz.prog (66 : Nat)
 (TVs.vals
 [TV.agg
 [TV.int IntKind.i64 n, TV.int IntKind.i64 n_2, TV.bytes (32 : Nat) b,
 TV.int IntKind.i64 n_3, TV.int IntKind.u64 n_4, TV.slice s,
 TV.bytes (16 : Nat) b_1]])
 h_10 fun (v : Value) (h_11 : Array Obj) ↦
 ∃ (b : Bool),
 v = TV.val (TV.bool b) ∧
 If (!b)
 (wok h_11 (Array.size h) (0 : Nat) (53 : Nat) ∧
 Vc.Bind
 (TV.put h_11 (Array.size h) (0 : Nat)
 (TV.agg
 [TV.int IntKind.i64 (0 : Int), TV.int IntKind.i64 (0 : Int),
 TV.bytes (32 : Nat) (Bs.zero (32 : Nat)),
 TV.int IntKind.i64 (0 : Int), TV.int IntKind.u64 (0 : Int),
 TV.slice Sl.nil, TV.bytes (16 : Nat) (Bs.zero (16 : Nat))]))
 fun (h_12 : Array Obj) ↦
 ∃ (n : Int),
 ∃ (n_5 : Int),
 ∃ (b : Bs (32 : Nat)),
 ∃ (n_6 : Int),
 ∃ (n_7 : Int),
 ∃ (s : Sl),
 ∃ (b_2 : Bs (16 : Nat)),
 (at1 h_12 (Array.size h) (0 : Nat)
 (Value.int IntKind.i64 n) ∧
 at1 h_12 (Array.size h) (1 : Nat)
 (Value.int IntKind.i64 n_5) ∧
 atBytes h_12 (Array.size h) (2 : Nat) (32 : Nat) b ∧
 at1 h_12 (Array.size h) (34 : Nat)
 (Value.int IntKind.i64 n_6) ∧
 at1 h_12 (Array.size h) (35 : Nat)
 (Value.int IntKind.u64 n_7) ∧
 at1 h_12 (Array.size h) (36 : Nat) (slVal s) ∧
 atBytes h_12 (Array.size h) (37 : Nat)
 (16 : Nat) b_2) ∧
 R
 (TV.val
 (TV.tup
 [TV.agg
 [TV.int IntKind.i64 n, TV.int IntKind.i64 n_5,
 TV.bytes (32 : Nat) b, TV.int IntKind.i64 n_6,
 TV.int IntKind.u64 n_7, TV.slice s,
 TV.bytes (16 : Nat) b_2],
 TV.bool false]))
 h_12)
 (∃ (n : Int),
 ∃ (n_5 : Int),
 ∃ (b : Bs (32 : Nat)),
 ∃ (n_6 : Int),
 ∃ (n_7 : Int),
 ∃ (s : Sl),
 ∃ (b_2 : Bs (16 : Nat)),
 (at1 h_11 (Array.size h_4) (0 : Nat) (Value.int IntKind.i64 n) ∧
 at1 h_11 (Array.size h_4) (1 : Nat)
 (Value.int IntKind.i64 n_5) ∧
 atBytes h_11 (Array.size h_4) (2 : Nat) (32 : Nat) b ∧
 at1 h_11 (Array.size h_4) (34 : Nat)
 (Value.int IntKind.i64 n_6) ∧
 at1 h_11 (Array.size h_4) (35 : Nat)
 (Value.int IntKind.u64 n_7) ∧
 at1 h_11 (Array.size h_4) (36 : Nat) (slVal s) ∧
 atBytes h_11 (Array.size h_4) (37 : Nat)
 (16 : Nat) b_2) ∧
 wok h_11 (Array.size h) (0 : Nat) (53 : Nat) ∧
 Vc.Bind
 (TV.put h_11 (Array.size h) (0 : Nat)
 (TV.agg
 [TV.int IntKind.i64 n, TV.int IntKind.i64 n_5,
 TV.bytes (32 : Nat) b, TV.int IntKind.i64 n_6,
 TV.int IntKind.u64 n_7, TV.slice s,
 TV.bytes (16 : Nat) b_2]))
 fun (h_12 : Array Obj) ↦
 ∃ (n : Int),
 ∃ (n_8 : Int),
 ∃ (b : Bs (32 : Nat)),
 ∃ (n_9 : Int),
 ∃ (n_10 : Int),
 ∃ (s : Sl),
 ∃ (b_3 : Bs (16 : Nat)),
 (at1 h_12 (Array.size h) (0 : Nat)
 (Value.int IntKind.i64 n) ∧
 at1 h_12 (Array.size h) (1 : Nat)
 (Value.int IntKind.i64 n_8) ∧
 atBytes h_12 (Array.size h) (2 : Nat)
 (32 : Nat) b ∧
 at1 h_12 (Array.size h) (34 : Nat)
 (Value.int IntKind.i64 n_9) ∧
 at1 h_12 (Array.size h) (35 : Nat)
 (Value.int IntKind.u64 n_10) ∧
 at1 h_12 (Array.size h)
 (36 : Nat) (slVal s) ∧
 atBytes h_12 (Array.size h)
 (37 : Nat) (16 : Nat) b_3) ∧
 R
 (TV.val
 (TV.tup
 [TV.agg
 [TV.int IntKind.i64 n,
 TV.int IntKind.i64 n_8,
 TV.bytes (32 : Nat) b,
 TV.int IntKind.i64 n_9,
 TV.int IntKind.u64 n_10,
 TV.slice s,
 TV.bytes (16 : Nat) b_3],
 TV.bool true]))
 h_12))) ∧
 ∀ (l : Go.Vc.Loc),
 (cutSl (Sl.mk (some (Loc.mk (Array.size h_4) (37 : Nat))) (16 : Nat) (16 : Nat)) (0 : Nat) (16 : Nat)
 (1 : Nat)).a =
 some l →
 wok h_9 l.b l.o
 (Nat.min (List.length s)
 (cutSl (Sl.mk (some (Loc.mk (Array.size h_4) (37 : Nat))) (16 : Nat) (16 : Nat)) (0 : Nat) (16 : Nat)
 (1 : Nat)).len) ∧
 Vc.Bind
 (putl h_9 l.b l.o
 (List.map (fun (c : UInt8) ↦ Value.int IntKind.u8 (↑(UInt8.toNat c) : Int))
 (List.take
 (Nat.min (List.length s)
 (cutSl (Sl.mk (some (Loc.mk (Array.size h_4) (37 : Nat))) (16 : Nat) (16 : Nat)) (0 : Nat)
 (16 : Nat) (1 : Nat)).len)
 s)))
 fun (h_10 : Array Obj) ↦
 CallsH Tryz.prog (65 : Nat) (TVs.vals [TV.ptr p]) h_10 fun (v : Value) (h_11 : Array Obj) ↦
 ∃ (b : Bool),
 v = TV.val (TV.bool b) ∧
 If (!b)
 (wok h_11 (Array.size h) (0 : Nat) (53 : Nat) ∧
 Vc.Bind
 (TV.put h_11 (Array.size h) (0 : Nat)
 (TV.agg
 [TV.int IntKind.i64 (0 : Int), TV.int IntKind.i64 (0 : Int),
 TV.bytes (32 : Nat) (Bs.zero (32 : Nat)), TV.int IntKind.i64 (0 : Int),
 TV.int IntKind.u64 (0 : Int), TV.slice Sl.nil,
 TV.bytes (16 : Nat) (Bs.zero (16 : Nat))]))
 fun (h_12 : Array Obj) ↦
 ∃ (n : Int),
 ∃ (n_2 : Int),
 ∃ (b : Bs (32 : Nat)),
 ∃ (n_3 : Int),
 ∃ (n_4 : Int),
 ∃ (s : Sl),
 ∃ (b_1 : Bs (16 : Nat)),
 (at1 h_12 (Array.size h) (0 : Nat) (Value.int IntKind.i64 n) ∧
 at1 h_12 (Array.size h) (1 : Nat) (Value.int IntKind.i64 n_2) ∧
 atBytes h_12 (Array.size h) (2 : Nat) (32 : Nat) b ∧
 at1 h_12 (Array.size h) (34 : Nat) (Value.int IntKind.i64 n_3) ∧
 at1 h_12 (Array.size h) (35 : Nat) (Value.int IntKind.u64 n_4) ∧
 at1 h_12 (Array.size h) (36 : Nat) (slVal s) ∧
 atBytes h_12 (Array.size h) (37 : Nat) (16 : Nat) b_1) ∧
 R
 (TV.val
 (TV.tup
 [TV.agg
 [TV.int IntKind.i64 n, TV.int IntKind.i64 n_2,
 TV.bytes (32 : Nat) b, TV.int IntKind.i64 n_3,
 TV.int IntKind.u64 n_4, TV.slice s, TV.bytes (16 : Nat) b_1],
 TV.bool false]))
 h_12)
 (∃ (n : Int),
 ∃ (n_2 : Int),
 ∃ (b : Bs (32 : Nat)),
 ∃ (n_3 : Int),
 ∃ (n_4 : Int),
 ∃ (s : Sl),
 ∃ (b_1 : Bs (16 : Nat)),
 (at1 h_11 (Array.size h_4) (0 : Nat) (Value.int IntKind.i64 n) ∧
 at1 h_11 (Array.size h_4) (1 : Nat) (Value.int IntKind.i64 n_2) ∧
 atBytes h_11 (Array.size h_4) (2 : Nat) (32 : Nat) b ∧
 at1 h_11 (Array.size h_4) (34 : Nat) (Value.int IntKind.i64 n_3) ∧
 at1 h_11 (Array.size h_4) (35 : Nat) (Value.int IntKind.u64 n_4) ∧
 at1 h_11 (Array.size h_4) (36 : Nat) (slVal s) ∧
 atBytes h_11 (Array.size h_4) (37 : Nat) (16 : Nat) b_1) ∧
 CallsH Tryz.prog (66 : Nat)
 (TVs.vals
 [TV.agg
 [TV.int IntKind.i64 n, TV.int IntKind.i64 n_2, TV.bytes (32 : Nat) b,
 TV.int IntKind.i64 n_3, TV.int IntKind.u64 n_4, TV.slice s,
 TV.bytes (16 : Nat) b_1]])
 h_11 fun (v : Value) (h_12 : Array Obj) ↦
 ∃ (b : Bool),
 v = TV.val (TV.bool b) ∧
 If (!b)
 (wok h_12 (Array.size h) (0 : Nat) (53 : Nat) ∧
 Vc.Bind
 (TV.put h_12 (Array.size h) (0 : Nat)
 (TV.agg
 [TV.int IntKind.i64 (0 : Int), TV.int IntKind.i64 (0 : Int),
 TV.bytes (32 : Nat) (Bs.zero (32 : Nat)),
 TV.int IntKind.i64 (0 : Int), TV.int IntKind.u64 (0 : Int),
 TV.slice Sl.nil, TV.bytes (16 : Nat) (Bs.zero (16 : Nat))]))
 fun (h_13 : Array Obj) ↦
 ∃ (n : Int),
 ∃ (n_5 : Int),
 ∃ (b : Bs (32 : Nat)),
 ∃ (n_6 : Int),
 ∃ (n_7 : Int),
 ∃ (s : Sl),
 ∃ (b_2 : Bs (16 : Nat)),
 (at1 h_13 (Array.size h) (0 : Nat)
 (Value.int IntKind.i64 n) ∧
 at1 h_13 (Array.size h) (1 : Nat)
 (Value.int IntKind.i64 n_5) ∧
 atBytes h_13 (Array.size h) (2 : Nat) (32 : Nat)
 b ∧
 at1 h_13 (Array.size h) (34 : Nat)
 (Value.int IntKind.i64 n_6) ∧
 at1 h_13 (Array.size h) (35 : Nat)
 (Value.int IntKind.u64 n_7) ∧
 at1 h_13 (Array.size h) (36 : Nat)
 (slVal s) ∧
 atBytes h_13 (Array.size h) (37 : Nat)
 (16 : Nat) b_2) ∧
 R
 (TV.val
 (TV.tup
 [TV.agg
 [TV.int IntKind.i64 n,
 TV.int IntKind.i64 n_5,
 TV.bytes (32 : Nat) b,
 TV.int IntKind.i64 n_6,
 TV.int IntKind.u64 n_7, TV.slice s,
 TV.bytes (16 : Nat) b_2],
 TV.bool false]))
 h_13)
 (∃ (n : Int),
 ∃ (n_5 : Int),
 ∃ (b : Bs (32 : Nat)),
 ∃ (n_6 : Int),
 ∃ (n_7 : Int),
 ∃ (s : Sl),
 ∃ (b_2 : Bs (16 : Nat)),
 (at1 h_12 (Array.size h_4) (0 : Nat)
 (Value.int IntKind.i64 n) ∧
 at1 h_12 (Array.size h_4) (1 : Nat)
 (Value.int IntKind.i64 n_5) ∧
 atBytes h_12 (Array.size h_4) (2 : Nat) (32 : Nat)
 b ∧
 at1 h_12 (Array.size h_4) (34 : Nat)
 (Value.int IntKind.i64 n_6) ∧
 at1 h_12 (Array.size h_4) (35 : Nat)
 (Value.int IntKind.u64 n_7) ∧
 at1 h_12 (Array.size h_4) (36 : Nat)
 (slVal s) ∧
 atBytes h_12 (Array.size h_4) (37 : Nat)
 (16 : Nat) b_2) ∧
 wok h_12 (Array.size h) (0 : Nat) (53 : Nat) ∧
 Vc.Bind
 (TV.put h_12 (Array.size h) (0 : Nat)
 (TV.agg
 [TV.int IntKind.i64 n, TV.int IntKind.i64 n_5,
 TV.bytes (32 : Nat) b, TV.int IntKind.i64 n_6,
 TV.int IntKind.u64 n_7, TV.slice s,
 TV.bytes (16 : Nat) b_2]))
 fun (h_13 : Array Obj) ↦
 ∃ (n : Int),
 ∃ (n_8 : Int),
 ∃ (b : Bs (32 : Nat)),
 ∃ (n_9 : Int),
 ∃ (n_10 : Int),
 ∃ (s : Sl),
 ∃ (b_3 : Bs (16 : Nat)),
 (at1 h_13 (Array.size h) (0 : Nat)
 (Value.int IntKind.i64 n) ∧
 at1 h_13 (Array.size h) (1 : Nat)
 (Value.int IntKind.i64 n_8) ∧
 atBytes h_13 (Array.size h)
 (2 : Nat) (32 : Nat) b ∧
 at1 h_13 (Array.size h)
 (34 : Nat)
 (Value.int IntKind.i64
 n_9) ∧
 at1 h_13 (Array.size h)
 (35 : Nat)
 (Value.int IntKind.u64
 n_10) ∧
 at1 h_13 (Array.size h)
 (36 : Nat) (slVal s) ∧
 atBytes h_13
 (Array.size h)
 (37 : Nat) (16 : Nat)
 b_3) ∧
 R
 (TV.val
 (TV.tup
 [TV.agg
 [TV.int IntKind.i64 n,
 TV.int IntKind.i64 n_8,
 TV.bytes (32 : Nat) b,
 TV.int IntKind.i64 n_9,
 TV.int IntKind.u64 n_10,
 TV.slice s,
 TV.bytes (16 : Nat)
 b_3],
 TV.bool true]))
 h_13)))
 fun (J : Bool → Array Obj → Prop) ↦
 ∃ (n : Int),
 at1 h_7 (Array.size h_4) (0 : Nat) (Value.int IntKind.i64 n) ∧
 If (decide (n = (1 : Int)))
 (CallsH Tryz.prog (61 : Nat) (TVs.vals [TV.ptr p, TV.int IntKind.i64 (2 : Int)]) h_7
 fun (v : Value) (h : Array Obj) ↦
 ∃ (n : Int),
 v = TV.val (TV.int IntKind.u64 n) ∧
 CallsH Tryz.prog (61 : Nat) (TVs.vals [TV.ptr p, TV.int IntKind.i64 (8 : Int)]) h
 fun (v : Value) (h : Array Obj) ↦
 ∃ (n_2 : Int),
 v = TV.val (TV.int IntKind.u64 n_2) ∧
 wok h (Array.size h_4) (34 : Nat) (1 : Nat) ∧
 Vc.Bind (TV.put h (Array.size h_4) (34 : Nat) (TV.int IntKind.i64 (IntKind.wrap IntKind.i64 n)))
 fun (h : Array Obj) ↦
 wok h (Array.size h_4) (35 : Nat) (1 : Nat) ∧
 Vc.Bind (TV.put h (Array.size h_4) (35 : Nat) (TV.int IntKind.u64 n_2)) fun (h : Array Obj) ↦
 J false h)
 (If (decide (n = (2 : Int)))
 (CallsH Tryz.prog (61 : Nat) (TVs.vals [TV.ptr p, TV.int IntKind.i64 (2 : Int)]) h_7
 fun (v : Value) (h : Array Obj) ↦
 ∃ (n : Int),
 v = TV.val (TV.int IntKind.u64 n) ∧
 wok h (Array.size h_4) (34 : Nat) (1 : Nat) ∧
 Vc.Bind (TV.put h (Array.size h_4) (34 : Nat) (TV.int IntKind.i64 (IntKind.wrap IntKind.i64 n)))
 fun (h : Array Obj) ↦ J false h)
 (If (decide (n = (3 : Int)))
 (CallsH Tryz.prog (64 : Nat) (TVs.vals [TV.ptr p]) h_7 fun (v : Value) (h_8 : Array Obj) ↦
 ∃ (n : Int),
 v = TV.val (TV.int IntKind.i64 n) ∧
 CallsH Tryz.prog (62 : Nat)
 (TVs.vals [TV.ptr p, TV.int IntKind.i64 (IntKind.wrap IntKind.i64 (n - (16 : Int)))]) h_8
 fun (v : Value) (h_9 : Array Obj) ↦
 ∃ (s : List UInt8),
 v = TV.val (TV.str s) ∧
 CallsH Tryz.prog (63 : Nat) (TVs.vals [TV.str s, TV.int IntKind.i64 (16 : Int)]) h_9
 fun (v : Value) (h_10 : Array Obj) ↦
 ∃ (s : Sl),
 ∃ (b : Bool),
 v = TV.val (TV.tup [TV.slice s, TV.bool b]) ∧
 If (!b)
 (wok h_10 (Array.size h) (0 : Nat) (53 : Nat) ∧
 Vc.Bind
 (TV.put h_10 (Array.size h) (0 : Nat)
 (TV.agg
 [TV.int IntKind.i64 (0 : Int), TV.int IntKind.i64 (0 : Int),
 TV.bytes (32 : Nat) (Bs.zero (32 : Nat)), TV.int IntKind.i64 (0 : Int),
 TV.int IntKind.u64 (0 : Int), TV.slice Sl.nil,
 TV.bytes (16 : Nat) (Bs.zero (16 : Nat))]))
 fun (h_11 : Array Obj) ↦
 ∃ (n : Int),
 ∃ (n_2 : Int),
 ∃ (b : Bs (32 : Nat)),
 ∃ (n_3 : Int),
 ∃ (n_4 : Int),
 ∃ (s : Sl),
 ∃ (b_1 : Bs (16 : Nat)),
 (at1 h_11 (Array.size h) (0 : Nat) (Value.int IntKind.i64 n) ∧
 at1 h_11 (Array.size h) (1 : Nat) (Value.int IntKind.i64 n_2) ∧
 atBytes h_11 (Array.size h) (2 : Nat) (32 : Nat) b ∧
 at1 h_11 (Array.size h) (34 : Nat) (Value.int IntKind.i64 n_3) ∧
 at1 h_11 (Array.size h) (35 : Nat)
 (Value.int IntKind.u64 n_4) ∧
 at1 h_11 (Array.size h) (36 : Nat) (slVal s) ∧
 atBytes h_11 (Array.size h) (37 : Nat) (16 : Nat) b_1) ∧
 R
 (TV.val
 (TV.tup
 [TV.agg
 [TV.int IntKind.i64 n, TV.int IntKind.i64 n_2,
 TV.bytes (32 : Nat) b, TV.int IntKind.i64 n_3,
 TV.int IntKind.u64 n_4, TV.slice s,
 TV.bytes (16 : Nat) b_1],
 TV.bool false]))
 h_11)
 (wok h_10 (Array.size h_4) (36 : Nat) (1 : Nat) ∧
 Vc.Bind (TV.put h_10 (Array.size h_4) (36 : Nat) (TV.slice s)) fun (h : Array Obj) ↦
 J false h))
 (J false h_7)))) ∧
 ∀ (l : Go.Vc.Loc),
 (cutSl (Sl.mk (some (Loc.mk (Array.size h_4) (2 : Nat))) (32 : Nat) (32 : Nat)) (0 : Nat) (32 : Nat) (1 : Nat)).a = some l →
 wok h_7 l.b l.o
 (Nat.min (List.length s)
 (cutSl (Sl.mk (some (Loc.mk (Array.size h_4) (2 : Nat))) (32 : Nat) (32 : Nat)) (0 : Nat) (32 : Nat)
 (1 : Nat)).len) ∧
 Vc.Bind
 (putl h_7 l.b l.o
 (List.map (fun (c : UInt8) ↦ Value.int IntKind.u8 (↑(UInt8.toNat c) : Int))
 (List.take
 (Nat.min (List.length s)
 (cutSl (Sl.mk (some (Loc.mk (Array.size h_4) (2 : Nat))) (32 : Nat) (32 : Nat)) (0 : Nat) (32 : Nat)
 (1 : Nat)).len)
 s)))
 fun (h_8 : Array Obj) ↦
 Join
 (fun (s : Bool) (h_9 : Array Obj) ↦
 CallsH Tryz.prog (62 : Nat) (TVs.vals [TV.ptr p, TV.int IntKind.i64 (16 : Int)]) h_9
 fun (v : Value) (h_10 : Array Obj) ↦
 ∃ (s : List UInt8),
 v = TV.val (TV.str s) ∧
 ((cutSl (Sl.mk (some (Loc.mk (Array.size h_4) (37 : Nat))) (16 : Nat) (16 : Nat)) (0 : Nat) (16 : Nat)
 (1 : Nat)).a =
 none →
 CallsH Tryz.prog (65 : Nat) (TVs.vals [TV.ptr p]) h_10 fun (v : Value) (h_11 : Array Obj) ↦
 ∃ (b : Bool),
 v = TV.val (TV.bool b) ∧
 If (!b)
 (wok h_11 (Array.size h) (0 : Nat) (53 : Nat) ∧
 Vc.Bind
 (TV.put h_11 (Array.size h) (0 : Nat)
 (TV.agg
 [TV.int IntKind.i64 (0 : Int), TV.int IntKind.i64 (0 : Int),
 TV.bytes (32 : Nat) (Bs.zero (32 : Nat)), TV.int IntKind.i64 (0 : Int),
 TV.int IntKind.u64 (0 : Int), TV.slice Sl.nil,
 TV.bytes (16 : Nat) (Bs.zero (16 : Nat))]))
 fun (h_12 : Array Obj) ↦
 ∃ (n : Int),
 ∃ (n_2 : Int),
 ∃ (b : Bs (32 : Nat)),
 ∃ (n_3 : Int),
 ∃ (n_4 : Int),
 ∃ (s : Sl),
 ∃ (b_1 : Bs (16 : Nat)),
 (at1 h_12 (Array.size h) (0 : Nat) (Value.int IntKind.i64 n) ∧
 at1 h_12 (Array.size h) (1 : Nat) (Value.int IntKind.i64 n_2) ∧
 atBytes h_12 (Array.size h) (2 : Nat) (32 : Nat) b ∧
 at1 h_12 (Array.size h) (34 : Nat) (Value.int IntKind.i64 n_3) ∧
 at1 h_12 (Array.size h) (35 : Nat) (Value.int IntKind.u64 n_4) ∧
 at1 h_12 (Array.size h) (36 : Nat) (slVal s) ∧
 atBytes h_12 (Array.size h) (37 : Nat) (16 : Nat) b_1) ∧
 R
 (TV.val
 (TV.tup
 [TV.agg
 [TV.int IntKind.i64 n, TV.int IntKind.i64 n_2,
 TV.bytes (32 : Nat) b, TV.int IntKind.i64 n_3,
 TV.int IntKind.u64 n_4, TV.slice s, TV.bytes (16 : Nat) b_1],
 TV.bool false]))
 h_12)
 (∃ (n : Int),
 ∃ (n_2 : Int),
 ∃ (b : Bs (32 : Nat)),
 ∃ (n_3 : Int),
 ∃ (n_4 : Int),
 ∃ (s : Sl),
 ∃ (b_1 : Bs (16 : Nat)),
 (at1 h_11 (Array.size h_4) (0 : Nat) (Value.int IntKind.i64 n) ∧
 at1 h_11 (Array.size h_4) (1 : Nat) (Value.int IntKind.i64 n_2) ∧
 atBytes h_11 (Array.size h_4) (2 : Nat) (32 : Nat) b ∧
 at1 h_11 (Array.size h_4) (34 : Nat) (Value.int IntKind.i64 n_3) ∧
 at1 h_11 (Array.size h_4) (35 : Nat) (Value.int IntKind.u64 n_4) ∧
 at1 h_11 (Array.size h_4) (36 : Nat) (slVal s) ∧
 atBytes h_11 (Array.size h_4) (37 : Nat) (16 : Nat) b_1) ∧
 CallsH Tryz.prog (66 : Nat)
 (TVs.vals
 [TV.agg
 [TV.int IntKind.i64 n, TV.int IntKind.i64 n_2, TV.bytes (32 : Nat) b,
 TV.int IntKind.i64 n_3, TV.int IntKind.u64 n_4, TV.slice s,
 TV.bytes (16 : Nat) b_1]])
 h_11 fun (v : Value) (h_12 : Array Obj) ↦
 ∃ (b : Bool),
 v = TV.val (TV.bool b) ∧
 If (!b)
 (wok h_12 (Array.size h) (0 : Nat) (53 : Nat) ∧
 Vc.Bind
 (TV.put h_12 (Array.size h) (0 : Nat)
 (TV.agg
 [TV.int IntKind.i64 (0 : Int), TV.int IntKind.i64 (0 : Int),
 TV.bytes (32 : Nat) (Bs.zero (32 : Nat)),
 TV.int IntKind.i64 (0 : Int), TV.int IntKind.u64 (0 : Int),
 TV.slice Sl.nil, TV.bytes (16 : Nat) (Bs.zero (16 : Nat))]))
 fun (h_13 : Array Obj) ↦
 ∃ (n : Int),
 ∃ (n_5 : Int),
 ∃ (b : Bs (32 : Nat)),
 ∃ (n_6 : Int),
 ∃ (n_7 : Int),
 ∃ (s : Sl),
 ∃ (b_2 : Bs (16 : Nat)),
 (at1 h_13 (Array.size h) (0 : Nat)
 (Value.int IntKind.i64 n) ∧
 at1 h_13 (Array.size h) (1 : Nat)
 (Value.int IntKind.i64 n_5) ∧
 atBytes h_13 (Array.size h) (2 : Nat) (32 : Nat)
 b ∧
 at1 h_13 (Array.size h) (34 : Nat)
 (Value.int IntKind.i64 n_6) ∧
 at1 h_13 (Array.size h) (35 : Nat)
 (Value.int IntKind.u64 n_7) ∧
 at1 h_13 (Array.size h) (36 : Nat)
 (slVal s) ∧
 atBytes h_13 (Array.size h) (37 : Nat)
 (16 : Nat) b_2) ∧
 R
 (TV.val
 (TV.tup
 [TV.agg
 [TV.int IntKind.i64 n,
 TV.int IntKind.i64 n_5,
 TV.bytes (32 : Nat) b,
 TV.int IntKind.i64 n_6,
 TV.int IntKind.u64 n_7, TV.slice s,
 TV.bytes (16 : Nat) b_2],
 TV.bool false]))
 h_13)
 (∃ (n : Int),
 ∃ (n_5 : Int),
 ∃ (b : Bs (32 : Nat)),
 ∃ (n_6 : Int),
 ∃ (n_7 : Int),
 ∃ (s : Sl),
 ∃ (b_2 : Bs (16 : Nat)),
 (at1 h_12 (Array.size h_4) (0 : Nat)
 (Value.int IntKind.i64 n) ∧
 at1 h_12 (Array.size h_4) (1 : Nat)
 (Value.int IntKind.i64 n_5) ∧
 atBytes h_12 (Array.size h_4) (2 : Nat) (32 : Nat)
 b ∧
 at1 h_12 (Array.size h_4) (34 : Nat)
 (Value.int IntKind.i64 n_6) ∧
 at1 h_12 (Array.size h_4) (35 : Nat)
 (Value.int IntKind.u64 n_7) ∧
 at1 h_12 (Array.size h_4) (36 : Nat)
 (slVal s) ∧
 atBytes h_12 (Array.size h_4) (37 : Nat)
 (16 : Nat) b_2) ∧
 wok h_12 (Array.size h) (0 : Nat) (53 : Nat) ∧
 Vc.Bind
 (TV.put h_12 (Array.size h) (0 : Nat)
 (TV.agg
 [TV.int IntKind.i64 n, TV.int IntKind.i64 n_5,
 TV.bytes (32 : Nat) b, TV.int IntKind.i64 n_6,
 TV.int IntKind.u64 n_7, TV.slice s,
 TV.bytes (16 : Nat) b_2]))
 fun (h_13 : Array Obj) ↦
 ∃ (n : Int),
 ∃ (n_8 : Int),
 ∃ (b : Bs (32 : Nat)),
 ∃ (n_9 : Int),
 ∃ (n_10 : Int),
 ∃ (s : Sl),
 ∃ (b_3 : Bs (16 : Nat)),
 (at1 h_13 (Array.size h) (0 : Nat)
 (Value.int IntKind.i64 n) ∧
 at1 h_13 (Array.size h) (1 : Nat)
 (Value.int IntKind.i64 n_8) ∧
 atBytes h_13 (Array.size h)
 (2 : Nat) (32 : Nat) b ∧
 at1 h_13 (Array.size h)
 (34 : Nat)
 (Value.int IntKind.i64
 n_9) ∧
 at1 h_13 (Array.size h)
 (35 : Nat)
 (Value.int IntKind.u64
 n_10) ∧
 at1 h_13 (Array.size h)
 (36 : Nat) (slVal s) ∧
 atBytes h_13
 (Array.size h)
 (37 : Nat) (16 : Nat)
 b_3) ∧
 R
 (TV.val
 (TV.tup
 [TV.agg
 [TV.int IntKind.i64 n,
 TV.int IntKind.i64 n_8,
 TV.bytes (32 : Nat) b,
 TV.int IntKind.i64 n_9,
 TV.int IntKind.u64 n_10,
 TV.slice s,
 TV.bytes (16 : Nat)
 b_3],
 TV.bool true]))
 h_13))) ∧
 ∀ (l : Go.Vc.Loc),
 (cutSl (Sl.mk (some (Loc.mk (Array.size h_4) (37 : Nat))) (16 : Nat) (16 : Nat)) (0 : Nat) (16 : Nat)
 (1 : Nat)).a =
 some l →
 wok h_10 l.b l.o
 (Nat.min (List.length s)
 (cutSl (Sl.mk (some (Loc.mk (Array.size h_4) (37 : Nat))) (16 : Nat) (16 : Nat)) (0 : Nat)
 (16 : Nat) (1 : Nat)).len) ∧
 Vc.Bind
 (putl h_10 l.b l.o
 (List.map (fun (c : UInt8) ↦ Value.int IntKind.u8 (↑(UInt8.toNat c) : Int))
 (List.take
 (Nat.min (List.length s)
 (cutSl (Sl.mk (some (Loc.mk (Array.size h_4) (37 : Nat))) (16 : Nat) (16 : Nat)) (0 : Nat)
 (16 : Nat) (1 : Nat)).len)
 s)))
 fun (h_11 : Array Obj) ↦
 CallsH Tryz.prog (65 : Nat) (TVs.vals [TV.ptr p]) h_11 fun (v : Value) (h_12 : Array Obj) ↦
 ∃ (b : Bool),
 v = TV.val (TV.bool b) ∧
 If (!b)
 (wok h_12 (Array.size h) (0 : Nat) (53 : Nat) ∧
 Vc.Bind
 (TV.put h_12 (Array.size h) (0 : Nat)
 (TV.agg
 [TV.int IntKind.i64 (0 : Int), TV.int IntKind.i64 (0 : Int),
 TV.bytes (32 : Nat) (Bs.zero (32 : Nat)), TV.int IntKind.i64 (0 : Int),
 TV.int IntKind.u64 (0 : Int), TV.slice Sl.nil,
 TV.bytes (16 : Nat) (Bs.zero (16 : Nat))]))
 fun (h_13 : Array Obj) ↦
 ∃ (n : Int),
 ∃ (n_2 : Int),
 ∃ (b : Bs (32 : Nat)),
 ∃ (n_3 : Int),
 ∃ (n_4 : Int),
 ∃ (s : Sl),
 ∃ (b_1 : Bs (16 : Nat)),
 (at1 h_13 (Array.size h) (0 : Nat) (Value.int IntKind.i64 n) ∧
 at1 h_13 (Array.size h) (1 : Nat) (Value.int IntKind.i64 n_2) ∧
 atBytes h_13 (Array.size h) (2 : Nat) (32 : Nat) b ∧
 at1 h_13 (Array.size h) (34 : Nat) (Value.int IntKind.i64 n_3) ∧
 at1 h_13 (Array.size h) (35 : Nat)
 (Value.int IntKind.u64 n_4) ∧
 at1 h_13 (Array.size h) (36 : Nat) (slVal s) ∧
 atBytes h_13 (Array.size h) (37 : Nat) (16 : Nat) b_1) ∧
 R
 (TV.val
 (TV.tup
 [TV.agg
 [TV.int IntKind.i64 n, TV.int IntKind.i64 n_2,
 TV.bytes (32 : Nat) b, TV.int IntKind.i64 n_3,
 TV.int IntKind.u64 n_4, TV.slice s,
 TV.bytes (16 : Nat) b_1],
 TV.bool false]))
 h_13)
 (∃ (n : Int),
 ∃ (n_2 : Int),
 ∃ (b : Bs (32 : Nat)),
 ∃ (n_3 : Int),
 ∃ (n_4 : Int),
 ∃ (s : Sl),
 ∃ (b_1 : Bs (16 : Nat)),
 (at1 h_12 (Array.size h_4) (0 : Nat) (Value.int IntKind.i64 n) ∧
 at1 h_12 (Array.size h_4) (1 : Nat) (Value.int IntKind.i64 n_2) ∧
 atBytes h_12 (Array.size h_4) (2 : Nat) (32 : Nat) b ∧
 at1 h_12 (Array.size h_4) (34 : Nat) (Value.int IntKind.i64 n_3) ∧
 at1 h_12 (Array.size h_4) (35 : Nat) (Value.int IntKind.u64 n_4) ∧
 at1 h_12 (Array.size h_4) (36 : Nat) (slVal s) ∧
 atBytes h_12 (Array.size h_4) (37 : Nat) (16 : Nat) b_1) ∧
 CallsH Tryz.prog (66 : Nat)
 (TVs.vals
 [TV.agg
 [TV.int IntKind.i64 n, TV.int IntKind.i64 n_2,
 TV.bytes (32 : Nat) b, TV.int IntKind.i64 n_3,
 TV.int IntKind.u64 n_4, TV.slice s, TV.bytes (16 : Nat) b_1]])
 h_12 fun (v : Value) (h_13 : Array Obj) ↦
 ∃ (b : Bool),
 v = TV.val (TV.bool b) ∧
 If (!b)
 (wok h_13 (Array.size h) (0 : Nat) (53 : Nat) ∧
 Vc.Bind
 (TV.put h_13 (Array.size h) (0 : Nat)
 (TV.agg
 [TV.int IntKind.i64 (0 : Int),
 TV.int IntKind.i64 (0 : Int),
 TV.bytes (32 : Nat) (Bs.zero (32 : Nat)),
 TV.int IntKind.i64 (0 : Int),
 TV.int IntKind.u64 (0 : Int), TV.slice Sl.nil,
 TV.bytes (16 : Nat) (Bs.zero (16 : Nat))]))
 fun (h_14 : Array Obj) ↦
 ∃ (n : Int),
 ∃ (n_5 : Int),
 ∃ (b : Bs (32 : Nat)),
 ∃ (n_6 : Int),
 ∃ (n_7 : Int),
 ∃ (s : Sl),
 ∃ (b_2 : Bs (16 : Nat)),
 (at1 h_14 (Array.size h) (0 : Nat)
 (Value.int IntKind.i64 n) ∧
 at1 h_14 (Array.size h) (1 : Nat)
 (Value.int IntKind.i64 n_5) ∧
 atBytes h_14 (Array.size h) (2 : Nat)
 (32 : Nat) b ∧
 at1 h_14 (Array.size h) (34 : Nat)
 (Value.int IntKind.i64 n_6) ∧
 at1 h_14 (Array.size h) (35 : Nat)
 (Value.int IntKind.u64 n_7) ∧
 at1 h_14 (Array.size h) (36 : Nat)
 (slVal s) ∧
 atBytes h_14 (Array.size h)
 (37 : Nat) (16 : Nat) b_2) ∧
 R
 (TV.val
 (TV.tup
 [TV.agg
 [TV.int IntKind.i64 n,
 TV.int IntKind.i64 n_5,
 TV.bytes (32 : Nat) b,
 TV.int IntKind.i64 n_6,
 TV.int IntKind.u64 n_7,
 TV.slice s,
 TV.bytes (16 : Nat) b_2],
 TV.bool false]))
 h_14)
 (∃ (n : Int),
 ∃ (n_5 : Int),
 ∃ (b : Bs (32 : Nat)),
 ∃ (n_6 : Int),
 ∃ (n_7 : Int),
 ∃ (s : Sl),
 ∃ (b_2 : Bs (16 : Nat)),
 (at1 h_13 (Array.size h_4) (0 : Nat)
 (Value.int IntKind.i64 n) ∧
 at1 h_13 (Array.size h_4) (1 : Nat)
 (Value.int IntKind.i64 n_5) ∧
 atBytes h_13 (Array.size h_4) (2 : Nat)
 (32 : Nat) b ∧
 at1 h_13 (Array.size h_4) (34 : Nat)
 (Value.int IntKind.i64 n_6) ∧
 at1 h_13 (Array.size h_4) (35 : Nat)
 (Value.int IntKind.u64 n_7) ∧
 at1 h_13 (Array.size h_4) (36 : Nat)
 (slVal s) ∧
 atBytes h_13 (Array.size h_4)
 (37 : Nat) (16 : Nat) b_2) ∧
 wok h_13 (Array.size h) (0 : Nat) (53 : Nat) ∧
 Vc.Bind
 (TV.put h_13 (Array.size h) (0 : Nat)
 (TV.agg
 [TV.int IntKind.i64 n,
 TV.int IntKind.i64 n_5,
 TV.bytes (32 : Nat) b,
 TV.int IntKind.i64 n_6,
 TV.int IntKind.u64 n_7, TV.slice s,
 TV.bytes (16 : Nat) b_2]))
 fun (h_14 : Array Obj) ↦
 ∃ (n : Int),
 ∃ (n_8 : Int),
 ∃ (b : Bs (32 : Nat)),
 ∃ (n_9 : Int),
 ∃ (n_10 : Int),
 ∃ (s : Sl),
 ∃ (b_3 : Bs (16 : Nat)),
 (at1 h_14 (Array.size h)
 (0 : Nat)
 (Value.int IntKind.i64
 n) ∧
 at1 h_14 (Array.size h)
 (1 : Nat)
 (Value.int IntKind.i64
 n_8) ∧
 atBytes h_14
 (Array.size h)
 (2 : Nat) (32 : Nat)
 b ∧
 at1 h_14 (Array.size h)
 (34 : Nat)
 (Value.int
 IntKind.i64 n_9) ∧
 at1 h_14
 (Array.size h)
 (35 : Nat)
 (Value.int
 IntKind.u64
 n_10) ∧
 at1 h_14
 (Array.size h)
 (36 : Nat)
 (slVal s) ∧
 atBytes h_14
 (Array.size h)
 (37 : Nat)
 (16 : Nat)
 b_3) ∧
 R
 (TV.val
 (TV.tup
 [TV.agg
 [TV.int IntKind.i64
 n,
 TV.int IntKind.i64
 n_8,
 TV.bytes
 (32 : Nat) b,
 TV.int IntKind.i64
 n_9,
 TV.int IntKind.u64
 n_10,
 TV.slice s,
 TV.bytes
 (16 : Nat) b_3],
 TV.bool true]))
 h_14)))
 fun (J : Bool → Array Obj → Prop) ↦
 ∃ (n : Int),
 at1 h_8 (Array.size h_4) (0 : Nat) (Value.int IntKind.i64 n) ∧
 If (decide (n = (1 : Int)))
 (CallsH Tryz.prog (61 : Nat) (TVs.vals [TV.ptr p, TV.int IntKind.i64 (2 : Int)]) h_8
 fun (v : Value) (h : Array Obj) ↦
 ∃ (n : Int),
 v = TV.val (TV.int IntKind.u64 n) ∧
 CallsH Tryz.prog (61 : Nat) (TVs.vals [TV.ptr p, TV.int IntKind.i64 (8 : Int)]) h
 fun (v : Value) (h : Array Obj) ↦
 ∃ (n_2 : Int),
 v = TV.val (TV.int IntKind.u64 n_2) ∧
 wok h (Array.size h_4) (34 : Nat) (1 : Nat) ∧
 Vc.Bind (TV.put h (Array.size h_4) (34 : Nat) (TV.int IntKind.i64 (IntKind.wrap IntKind.i64 n)))
 fun (h : Array Obj) ↦
 wok h (Array.size h_4) (35 : Nat) (1 : Nat) ∧
 Vc.Bind (TV.put h (Array.size h_4) (35 : Nat) (TV.int IntKind.u64 n_2))
 fun (h : Array Obj) ↦ J false h)
 (If (decide (n = (2 : Int)))
 (CallsH Tryz.prog (61 : Nat) (TVs.vals [TV.ptr p, TV.int IntKind.i64 (2 : Int)]) h_8
 fun (v : Value) (h : Array Obj) ↦
 ∃ (n : Int),
 v = TV.val (TV.int IntKind.u64 n) ∧
 wok h (Array.size h_4) (34 : Nat) (1 : Nat) ∧
 Vc.Bind (TV.put h (Array.size h_4) (34 : Nat) (TV.int IntKind.i64 (IntKind.wrap IntKind.i64 n)))
 fun (h : Array Obj) ↦ J false h)
 (If (decide (n = (3 : Int)))
 (CallsH Tryz.prog (64 : Nat) (TVs.vals [TV.ptr p]) h_8 fun (v : Value) (h_9 : Array Obj) ↦
 ∃ (n : Int),
 v = TV.val (TV.int IntKind.i64 n) ∧
 CallsH Tryz.prog (62 : Nat)
 (TVs.vals [TV.ptr p, TV.int IntKind.i64 (IntKind.wrap IntKind.i64 (n - (16 : Int)))]) h_9
 fun (v : Value) (h_10 : Array Obj) ↦
 ∃ (s : List UInt8),
 v = TV.val (TV.str s) ∧
 CallsH Tryz.prog (63 : Nat) (TVs.vals [TV.str s, TV.int IntKind.i64 (16 : Int)]) h_10
 fun (v : Value) (h_11 : Array Obj) ↦
 ∃ (s : Sl),
 ∃ (b : Bool),
 v = TV.val (TV.tup [TV.slice s, TV.bool b]) ∧
 If (!b)
 (wok h_11 (Array.size h) (0 : Nat) (53 : Nat) ∧
 Vc.Bind
 (TV.put h_11 (Array.size h) (0 : Nat)
 (TV.agg
 [TV.int IntKind.i64 (0 : Int), TV.int IntKind.i64 (0 : Int),
 TV.bytes (32 : Nat) (Bs.zero (32 : Nat)), TV.int IntKind.i64 (0 : Int),
 TV.int IntKind.u64 (0 : Int), TV.slice Sl.nil,
 TV.bytes (16 : Nat) (Bs.zero (16 : Nat))]))
 fun (h_12 : Array Obj) ↦
 ∃ (n : Int),
 ∃ (n_2 : Int),
 ∃ (b : Bs (32 : Nat)),
 ∃ (n_3 : Int),
 ∃ (n_4 : Int),
 ∃ (s : Sl),
 ∃ (b_1 : Bs (16 : Nat)),
 (at1 h_12 (Array.size h) (0 : Nat) (Value.int IntKind.i64 n) ∧
 at1 h_12 (Array.size h) (1 : Nat)
 (Value.int IntKind.i64 n_2) ∧
 atBytes h_12 (Array.size h) (2 : Nat) (32 : Nat) b ∧
 at1 h_12 (Array.size h) (34 : Nat)
 (Value.int IntKind.i64 n_3) ∧
 at1 h_12 (Array.size h) (35 : Nat)
 (Value.int IntKind.u64 n_4) ∧
 at1 h_12 (Array.size h) (36 : Nat) (slVal s) ∧
 atBytes h_12 (Array.size h) (37 : Nat) (16 : Nat)
 b_1) ∧
 R
 (TV.val
 (TV.tup
 [TV.agg
 [TV.int IntKind.i64 n, TV.int IntKind.i64 n_2,
 TV.bytes (32 : Nat) b, TV.int IntKind.i64 n_3,
 TV.int IntKind.u64 n_4, TV.slice s,
 TV.bytes (16 : Nat) b_1],
 TV.bool false]))
 h_12)
 (wok h_11 (Array.size h_4) (36 : Nat) (1 : Nat) ∧
 Vc.Bind (TV.put h_11 (Array.size h_4) (36 : Nat) (TV.slice s))
 fun (h : Array Obj) ↦ J false h))
 (J false h_8)))

theorem wire_Decode_calls (s_ : List UInt8) (h : Heap) (R : Value → Heap → Prop) (H : wire_Decode_vc s_ h R) : CallsH Tryz.prog 39 (TVs.vals [TV.str s_]) h R :=
 vcFn_sound (C := ctx) ctx_ok (fn := Tryz.f39) Tryz.func39 ((by kernel_rfl : wire_Decode_vc s_ h R = vcFn ctx Tryz.f39 [TV.str s_] h R) ▸ H)


def wire_Root_vc (m_Kind : Int) (m_Slot : Int) (m_Target : Bs (32 : Nat)) (m_Member : Int) (m_Body : Int) (m_Bits : Sl) (m_Tag : Bs (16 : Nat)) (h : Heap) (R : Value → Heap → Prop) : Prop :=
 Vc.Bind
 (newTV h
 (TV.agg
 [TV.int IntKind.i64 m_Kind, TV.int IntKind.i64 m_Slot, TV.bytes (32 : Nat) m_Target, TV.int IntKind.i64 m_Member, TV.int IntKind.u64 m_Body,
 TV.slice m_Bits, TV.bytes (16 : Nat) m_Tag])
 (58 : Nat))
 fun (h_1 : Array Obj) ↦
 Vc.Bind (newTV h_1 (TV.bytes (32 : Nat) (Bs.zero (32 : Nat))) (24 : Nat)) fun (h_2 : Array Obj) ↦
 ∃ (n : Int),
 ∃ (n_1 : Int),
 ∃ (b : Bs (32 : Nat)),
 ∃ (n_2 : Int),
 ∃ (n_3 : Int),
 ∃ (s : Sl),
 ∃ (b_1 : Bs (16 : Nat)),
 (at1 h_2 (Array.size h) (0 : Nat) (Value.int IntKind.i64 n) ∧
 at1 h_2 (Array.size h) (1 : Nat) (Value.int IntKind.i64 n_1) ∧
 atBytes h_2 (Array.size h) (2 : Nat) (32 : Nat) b ∧
 at1 h_2 (Array.size h) (34 : Nat) (Value.int IntKind.i64 n_2) ∧
 at1 h_2 (Array.size h) (35 : Nat) (Value.int IntKind.u64 n_3) ∧
 at1 h_2 (Array.size h) (36 : Nat) (slVal s) ∧ atBytes h_2 (Array.size h) (37 : Nat) (16 : Nat) b_1) ∧
 ∃ (bs : List UInt8),
 strAt h_2 (cutSl (Sl.mk (some (Loc.mk (Array.size h) (37 : Nat))) (16 : Nat) (16 : Nat)) (0 : Nat) (16 : Nat) (1 : Nat)) bs ∧
 CallsH Tryz.prog (72 : Nat)
 (TVs.vals
 [TV.agg
 [TV.int IntKind.i64 n, TV.int IntKind.i64 n_1, TV.bytes (32 : Nat) b, TV.int IntKind.i64 n_2, TV.int IntKind.u64 n_3,
 TV.slice s, TV.bytes (16 : Nat) b_1]])
 h_2 fun (v : Value) (h : Array Obj) ↦
 ∃ (s : List UInt8),
 v = TV.val (TV.str s) ∧
 Ext h_2 h ∧
 CallsH Tryz.prog (71 : Nat) (TVs.vals [TV.slice (Sl.mk (some (Loc.mk (Array.size h) (0 : Nat))) (2 : Nat) (2 : Nat))])
 (Array.push h (row (TVs.cells [TV.str s, TV.str bs]) (9 : Nat))) fun (v : Value) (h : Array Obj) ↦
 ∃ (b : Bs (32 : Nat)),
 v = TV.val (TV.bytes (32 : Nat) b) ∧
 wok h (Array.size h_1) (0 : Nat) (32 : Nat) ∧
 Vc.Bind (TV.put h (Array.size h_1) (0 : Nat) (TV.bytes (32 : Nat) b)) fun (h : Array Obj) ↦
 ∃ (b : Bs (32 : Nat)), atBytes h (Array.size h_1) (0 : Nat) (32 : Nat) b ∧ R (TV.val (TV.bytes (32 : Nat) b)) h

theorem wire_Root_calls (m_Kind : Int) (m_Slot : Int) (m_Target : Bs (32 : Nat)) (m_Member : Int) (m_Body : Int) (m_Bits : Sl) (m_Tag : Bs (16 : Nat)) (h : Heap) (R : Value → Heap → Prop) (H : wire_Root_vc m_Kind m_Slot m_Target m_Member m_Body m_Bits m_Tag h R) : CallsH Tryz.prog 41 (TVs.vals [TV.agg [TV.int IntKind.i64 m_Kind, TV.int IntKind.i64 m_Slot, TV.bytes (32 : Nat) m_Target, TV.int IntKind.i64 m_Member, TV.int IntKind.u64 m_Body, TV.slice m_Bits, TV.bytes (16 : Nat) m_Tag]]) h R :=
 vcFn_sound (C := ctx) ctx_ok (fn := Tryz.f41) Tryz.func41 ((by kernel_rfl : wire_Root_vc m_Kind m_Slot m_Target m_Member m_Body m_Bits m_Tag h R = vcFn ctx Tryz.f41 [TV.agg [TV.int IntKind.i64 m_Kind, TV.int IntKind.i64 m_Slot, TV.bytes (32 : Nat) m_Target, TV.int IntKind.i64 m_Member, TV.int IntKind.u64 m_Body, TV.slice m_Bits, TV.bytes (16 : Nat) m_Tag]] h R) ▸ H)


end Go.Proofs.YtldocdpdjdekiaaGreat
end

section
/- The program's way from bytes to a message; its name. -/
namespace Go.Proofs.YtldocdpdjdekiaaGreat.Board
open Go Go.Vc

theorem rdB_sum {r : List UInt8} {sh : Bool} {n : Int} (h : (rdB r sh n).2.2 = false) : sh = false ∧ 0 ≤ n ∧ ((rdB r sh n).2.1.length : Int) + n = r.length := by
  unfold rdB at h ⊢
  split at h
  · cases h
  · rename_i hc
    rw [if_neg hc]
    refine ⟨h, by omega, ?_⟩
    rw [List.length_drop]
    omega

theorem rdB_true {r : List UInt8} {sh : Bool} {n : Int} (h : (rdB r sh n).2.2 = true) : rdB r sh n = ([], [], true) := by
  unfold rdB at h ⊢
  split at h
  · rename_i hc; rw [if_pos hc]
  · rename_i hc; exact absurd (.inl h) hc

theorem rdB_at {s : List UInt8} {a n : Nat} (h : a + n ≤ s.length) : rdB (s.drop a) false (n : Int) = ((s.drop a).take n, s.drop (a + n), false) := by
  rw [rdB_ok (by rw [List.length_drop]; omega), List.drop_drop]

theorem rdB_short (n : Int) : rdB [] true n = ([], [], true) := if_pos (.inl rfl)

theorem num_one {s : List UInt8} (h : 0 < s.length) : num (s.take 1) = (s.getD 0 0).toNat := by
  cases s with
  | nil => cases h
  | cons c s => simp [num]

theorem chk_kind {d : Dm} (h : ¬ (d.kind = 1 ∨ d.kind = 2 ∨ d.kind = 3)) : chk d = none := by
  unfold chk
  split
  · rename_i hg; exact absurd (good_kind hg) h
  · rfl

theorem dec_short {s : List UInt8} (h : s.length < 53) : decF s = none := by
  unfold decF; rw [if_pos h]

section
variable {s : List UInt8}

theorem dec_one (hl : 37 ≤ s.length) (h1 : s.getD 0 0 = 1) : decF s = if s.length = 63 then chk ⟨1, (num ((s.drop 1).take 4) : Nat), bsOf 32 ((s.drop 5).take 32), (num ((s.drop 37).take 2) : Nat), (num ((s.drop 39).take 8) : Nat), [], bsOf 16 (s.drop 47)⟩ else none := by
  unfold decF
  by_cases h53 : s.length < 53
  · rw [if_pos h53, if_neg (by omega)]
  · rw [if_neg h53, if_pos h1]

theorem dec_two (hl : 37 ≤ s.length) (h1 : s.getD 0 0 = 2) : decF s = if s.length = 55 then chk ⟨2, (num ((s.drop 1).take 4) : Nat), bsOf 32 ((s.drop 5).take 32), (num ((s.drop 37).take 2) : Nat), 0, [], bsOf 16 (s.drop 39)⟩ else none := by
  unfold decF
  by_cases h53 : s.length < 53
  · rw [if_pos h53, if_neg (by omega)]
  · rw [if_neg h53, if_neg (by rw [h1]; decide), if_pos h1]

theorem dec_three (hl : 53 ≤ s.length) (h1 : s.getD 0 0 = 3) : decF s = match getF ((s.drop 37).take (s.length - 53)) 16 with
    | none => none
    | some row => chk ⟨3, (num ((s.drop 1).take 4) : Nat), bsOf 32 ((s.drop 5).take 32), 0, 0, row, bsOf 16 (s.drop (s.length - 16))⟩ := by
  unfold decF
  rw [if_neg (by omega), if_neg (by rw [h1]; decide), if_neg (by rw [h1]; decide), if_pos h1]
  all_goals rfl

theorem dec_other (h1 : s.getD 0 0 ≠ 1) (h2 : s.getD 0 0 ≠ 2) (h3 : s.getD 0 0 ≠ 3) : decF s = none := by
  unfold decF
  by_cases h53 : s.length < 53
  · rw [if_pos h53]
  · rw [if_neg h53, if_neg h1, if_neg h2, if_neg h3]
end

section
variable {R : Value → Heap → Prop} {h : Heap}

/-- While bytes are read: the reader, the message so far, and the answer's place. -/
structure DS (h hh : Heap) (q mb : Nat) (r : List UInt8) (sh : Bool) (m : Ms) : Prop where
  rd : Rd hh q r sh
  msg : Var 58 hh mb m.tv
  ans : Var 58 hh h.size zeroM.tv
  only : Only (fun i => h.size ≤ i) h hh
  q0 : h.size < q
  m0 : q < mb

section
variable {hh : Heap} {q mb : Nat} {r : List UInt8} {sh : Bool} {m : Ms}

theorem DS.ext (d : DS h hh q mb r sh m) : Ext h hh := Only.cut (Ext.refl h) d.only fun _ hi => hi
theorem DS.more {h' : Heap} (d : DS h hh q mb r sh m) (x : Ext hh h') : DS h h' q mb r sh m := ⟨Var.ext d.rd x, d.msg.ext x, d.ans.ext x, d.only.trans (Only.of_ext x), d.q0, d.m0⟩
theorem DS.read {h' : Heap} {r' : List UInt8} {sh' : Bool} (d : DS h hh q mb r sh m) (v : Rd h' q r' sh') (f : Only (· = q) hh h') : DS h h' q mb r' sh' m :=
  ⟨v, d.msg.only f (by have := d.m0; omega), d.ans.only f (by have := d.q0; omega), d.only.trans (f.mono fun i hi => by have := d.q0; omega), d.q0, d.m0⟩
theorem DS.write {h' : Heap} {m' : Ms} (d : DS h hh q mb r sh m) (v : Var 58 h' mb m'.tv) (f : Only (· = mb) hh h') : DS h h' q mb r sh m' :=
  ⟨Var.only d.rd f (by have := d.m0; omega), v, d.ans.only f (by have := d.m0; have := d.q0; omega), d.only.trans (f.mono fun i hi => by have := d.q0; have := d.m0; omega), d.q0, d.m0⟩
end

set_option maxHeartbeats 1000000 in
set_option maxRecDepth 100000 in
theorem decode_spec {s : List UInt8} (hs : s.length < 100000) (hn : decF s = none → ∀ h', Ext h h' → R (TV.tup [zeroM.tv, .bool false]).val h')
    (hy : ∀ d h' b, decF s = some d → Elems 1 h' b (bools d.row) → Ext h h' → (∀ l, b.a = some l → h.size ≤ l.b ∧ l.b < h'.size) → R (TV.tup [(d.ms b).tv, .bool true]).val h') : CallsH Tryz.prog 39 (TVs.vals [.str s]) h R := by
  apply wire_Decode_calls
  unfold wire_Decode_vc
  refine newTV_in fun h1 v1 x1 s1 => from_spec fun h2 r2 x2 s2 => ⟨_, rfl, ?_⟩
  have v1 : Var 58 h1 h.size zeroM.tv := v1
  refine ruint_spec r2 (by decide) fun h3 r3 f3 => ⟨_, rfl, ruint_spec r3 (by decide) fun h4 r4 f4 => ⟨_, rfl, ?_⟩⟩
  obtain ⟨K, hK⟩ : ∃ K, K = IntKind.wrap .i64 ((num (rdB s false 1).1 : Nat) : Int) := ⟨_, rfl⟩
  obtain ⟨S, hS⟩ : ∃ S, S = IntKind.wrap .i64 ((num (rdB (rdB s false 1).2.1 (rdB s false 1).2.2 4).1 : Nat) : Int) := ⟨_, rfl⟩
  rw [← hK, ← hS]
  have z34 := (f3.trans f4).size
  refine newTV_in fun h5 v5 x5 s5 => put_n (t0 := zeroM.tv) v5 (t := (Ms.mk K S (Bs.zero 32) 0 0 Sl.nil (Bs.zero 16)).tv) mssz1 mssz fun h6 v6 f6 s6 => ?_
  have x46 : Ext h4 h6 := Only.cut x5 f6 fun i hi => by omega
  have d6 : DS h h6 h1.size h4.size _ _ (Ms.mk K S (Bs.zero 32) 0 0 Sl.nil (Bs.zero 16)) := ⟨Var.ext r4 x46, v6, (((v1.ext x2).only f3 (by omega)).only f4 (by omega)).ext x46,
    (((Only.of_ext (x1.trans x2)).trans ((f3.trans f4).mono fun i hi => by omega)).trans (Only.of_ext x46)), by omega, by omega⟩
  refine rbytes_spec d6.rd fun h7 r7 f7 => ⟨_, rfl, (fun hx => by cases hx), fun l hl => ?_⟩
  obtain rfl : Vc.Loc.mk h4.size 2 = l := Option.some.inj hl
  have d7 := d6.read r7 f7
  obtain ⟨A, hA⟩ : ∃ A, A = rdB (rdB (rdB s false 1).2.1 (rdB s false 1).2.2 4).2.1 (rdB (rdB s false 1).2.1 (rdB s false 1).2.2 4).2.2 32 := ⟨_, rfl⟩
  rw [← hA] at d7 ⊢
  refine bytes_copy (i := 2) d7.msg rfl rfl (by rw [hA]; exact rdB_len) fun h8 v8 f8 s8 => ?_
  have d8 : DS h h8 h1.size h4.size A.2.1 A.2.2 (Ms.mk K S (bsOf 32 A.1) 0 0 Sl.nil (Bs.zero 16)) := d7.write v8 f8
  generalize h1.size = q at *
  generalize h4.size = mb at *
  -- the answer when there is none
  have no : ∀ hh r sh m, DS h hh q mb r sh m → decF s = none → wok hh h.size 0 53 ∧ Bind (TV.put hh h.size 0 zeroM.tv) fun (h_2 : Heap) =>
      ∃ (n : Int), ∃ (n_1 : Int), ∃ (b_ : Bs 32), ∃ (n_2 : Int), ∃ (n_3 : Int), ∃ (s : Sl), ∃ (b_1 : Bs 16), (at1 h_2 h.size 0 (.int .i64 n) ∧ at1 h_2 h.size 1 (.int .i64 n_1) ∧ atBytes h_2 h.size 2 32 b_ ∧ at1 h_2 h.size 34 (.int .i64 n_2) ∧ at1 h_2 h.size 35 (.int .u64 n_3) ∧ at1 h_2 h.size 36 (slVal s) ∧ atBytes h_2 h.size 37 16 b_1) ∧
        R (TV.tup [.agg [.int .i64 n, .int .i64 n_1, .bytes 32 b_, .int .i64 n_2, .int .u64 n_3, .slice s, .bytes 16 b_1], .bool false]).val h_2 := by
    intro hh r sh m d hd
    refine put_n (t := zeroM.tv) d.ans mssz1 mssz fun h9 v9 f9 s9 => ms_at v9 ?_
    exact hn hd h9 (Only.cut d.ext f9 fun i hi => by omega)
  intro J HJ
  have fin : ∀ hh r sh m row, DS h hh q mb r sh m → m.tag = Bs.zero 16 → Elems 1 hh m.bits (bools row) → row.length < 100000 → (∀ l, m.bits.a = some l → l.b ≠ q ∧ l.b ≠ mb ∧ l.b ≠ h.size ∧ h.size ≤ l.b ∧ l.b < hh.size) → (sh = true ∨ r.length ≠ 16 → decF s = none) →
      (sh = false → r.length = 16 → decF s = chk ⟨m.kind, m.slot, m.target, m.member, m.body, row, bsOf 16 r⟩) → J false hh := by
    intro hh r sh m row d hz e hrl hloc hb hg
    refine HJ false hh ?_
    refine rbytes_spec d.rd fun h9 r9 f9 => ⟨_, rfl, (fun hx => by cases hx), fun l hl => ?_⟩
    obtain rfl : Vc.Loc.mk mb 37 = l := Option.some.inj hl
    have d9 := d.read r9 f9
    refine bytes_copy (i := 6) d9.msg (by rw [hz]; rfl) rfl rdB_len fun h10 v10 f10 s10 => ?_
    have d10 : DS h h10 q mb _ _ { m with tag := bsOf 16 (rdB r sh 16).1 } := d9.write v10 f10
    refine rend_spec d10.rd ⟨_, rfl, ?_⟩
    have e10 : Elems 1 h10 m.bits (bools row) := (e.only f9 fun l hl => (hloc l hl).1).only f10 fun l hl => (hloc l hl).2.1
    by_cases hc : sh = true ∨ r.length ≠ 16
    · have hend : (!(rdB r sh 16).2.2 && decide ((rdB r sh 16).2.1 = [])) = false := by
        cases hsh : (rdB r sh 16).2.2 with
        | true => rfl
        | false =>
          obtain ⟨h1', _, h3'⟩ := rdB_sum hsh
          have : (rdB r sh 16).2.1 ≠ [] := fun he => by
            rw [he] at h3'
            rcases hc with hc | hc
            · rw [h1'] at hc; cases hc
            · apply hc
              simp at h3'
              omega
          rw [decide_eq_false this]; rfl
      rw [hend]
      exact If.yes (no h10 _ _ _ d10 (hb hc))
    · have hsh : sh = false := by cases sh with
        | true => exact absurd (.inl rfl) hc
        | false => rfl
      have hl16 : r.length = 16 := Classical.byContradiction fun h => hc (.inr h)
      have hrd : rdB r sh 16 = (r.take 16, r.drop 16, false) := by rw [hsh]; exact rdB_ok (n := 16) (by omega)
      have hdec := hg hsh hl16
      rw [hrd] at d10 ⊢
      rw [List.take_of_length_le (by omega : r.length ≤ 16)] at d10
      have hend : (!false && decide (r.drop 16 = [])) = true := by rw [List.drop_of_length_le (by omega)]; rfl
      dsimp only
      rw [hend]
      refine If.no (ms_at d10.msg ?_)
      refine mgood_spec (m := { m with tag := bsOf 16 r }) (row := row) e10 hrl fun h11 x11 => ⟨_, rfl, ?_⟩
      have d11 := d10.more x11
      unfold chk at hdec
      have hgm : goodF { m with tag := bsOf 16 r } row = goodF ((Dm.mk m.kind m.slot m.target m.member m.body row (bsOf 16 r)).ms Sl.nil) row := rfl
      rw [hgm]
      cases hgood : goodF ((Dm.mk m.kind m.slot m.target m.member m.body row (bsOf 16 r)).ms Sl.nil) row with
      | false =>
        refine If.yes (no h11 _ _ _ d11 ?_)
        rw [hdec, if_neg]
        show ¬ goodF _ row = true
        rw [hgood]
        decide
      | true =>
        refine If.no (ms_at d11.msg ?_)
        refine put_n d11.ans (t := ({ m with tag := bsOf 16 r } : Ms).tv) mssz1 mssz fun h12 v12 f12 s12 => ms_at v12 ?_
        have hd : decF s = some (Dm.mk m.kind m.slot m.target m.member m.body row (bsOf 16 r)) := by rw [hdec]; exact if_pos hgood
        have x12 : Ext h h12 := Only.cut d11.ext f12 fun i hi => by omega
        have e12 : Elems 1 h12 m.bits (bools row) := (e10.ext x11).only f12 fun l hl => (hloc l hl).2.2.1
        exact hy _ h12 m.bits hd e12 x12 fun l hl => by
          have g := hloc l hl
          have g1 := f9.size
          have g2 := f10.size
          have g3 := x11.size
          have g4 := f12.size
          exact ⟨g.2.2.2.1, by omega⟩
  have no2 := no
  clear HJ no
  have hlong : 37 ≤ s.length → A = ((s.drop 5).take 32, s.drop 37, false) ∧ K = ((s.getD 0 0).toNat : Int) ∧ S = ((num ((s.drop 1).take 4) : Nat) : Int) := by
    intro hl
    have e1 : rdB s false 1 = (s.take 1, s.drop 1, false) := rdB_ok (n := 1) (by omega)
    have e2 : rdB (s.drop 1) false 4 = ((s.drop 1).take 4, s.drop 5, false) := rdB_at (a := 1) (n := 4) (by omega)
    have e3 : rdB (s.drop 5) false 32 = ((s.drop 5).take 32, s.drop 37, false) := rdB_at (a := 5) (n := 32) (by omega)
    refine ⟨by rw [hA, e1, e2, e3], ?_, ?_⟩
    · rw [hK, e1]
      dsimp only
      have := (s.getD 0 0).toNat_lt
      rw [num_one (by omega), wrap_i64 (by omega) (by omega)]
    · rw [hS, e1]
      dsimp only
      rw [e2]
      dsimp only
      have h1' := num_lt ((s.drop 1).take 4)
      have h2' : ((s.drop 1).take 4).length ≤ 4 := by rw [List.length_take]; omega
      have h3' : 256 ^ ((s.drop 1).take 4).length ≤ 256 ^ 4 := Nat.pow_le_pow_right (by decide) h2'
      have h4' : 256 ^ 4 = 4294967296 := by decide
      rw [wrap_i64 (by omega) (by omega)]
  have hshort : ¬ 37 ≤ s.length → A = ([], [], true) := by
    intro hl
    cases hsh : A.2.2 with
    | true => rw [hA] at hsh ⊢; exact rdB_true hsh
    | false =>
      exfalso
      rw [hA] at hsh
      obtain ⟨g1, _, g2⟩ := rdB_sum hsh
      obtain ⟨g3, _, g4⟩ := rdB_sum g1
      obtain ⟨g5, _, g6⟩ := rdB_sum g3
      omega
  have hlen : A.2.2 = false → 37 ≤ s.length ∧ A.2.1 = s.drop 37 := by
    intro hsh
    by_cases hl : 37 ≤ s.length
    · exact ⟨hl, by rw [(hlong hl).1]⟩
    · rw [hshort hl] at hsh; cases hsh
  have w2 : ∀ (l : List UInt8), l.length ≤ 2 → IntKind.wrap .i64 ((num l : Nat) : Int) = ((num l : Nat) : Int) := by
    intro l hl
    have h1' := num_lt l
    have h3' : 256 ^ l.length ≤ 256 ^ 2 := Nat.pow_le_pow_right (by decide) hl
    rw [wrap_i64 (by omega) (by omega)]
  have hc0 : ∀ c : UInt8, 37 ≤ s.length → K = (c.toNat : Int) → s.getD 0 0 = c := by
    intro c hl hk
    have := (hlong hl).2.1
    exact UInt8.toNat_inj.1 (by omega)
  refine ⟨K, d8.msg.at1 rfl, If.dec.2 ⟨fun k1 => ?_, fun k1 => If.dec.2 ⟨fun k2 => ?_, fun k2 => If.dec.2 ⟨fun k3 => ?_, fun k3 => ?_⟩⟩⟩⟩
  · refine ruint_spec d8.rd (by decide) fun h9 r9 f9 => ⟨_, rfl, ?_⟩
    have d9 := d8.read r9 f9
    refine ruint_spec d9.rd (by decide) fun h10 r10 f10 => ⟨_, rfl, ?_⟩
    have d10 := d9.read r10 f10
    refine field_in (i := 3) (t := .int .i64 (IntKind.wrap .i64 ((num (rdB A.2.1 A.2.2 2).1 : Nat) : Int))) (t0 := .int .i64 0) d10.msg rfl rfl rfl rfl fun h11 v11 f11 s11 => ?_
    refine field_in (i := 4) (t := .int .u64 ((num (rdB (rdB A.2.1 A.2.2 2).2.1 (rdB A.2.1 A.2.2 2).2.2 8).1 : Nat) : Int)) (t0 := .int .u64 0) v11 rfl rfl rfl rfl fun h12 v12 f12 s12 => ?_
    have d12 : DS h h12 q mb _ _ (Ms.mk K S (bsOf 32 A.1) (IntKind.wrap .i64 ((num (rdB A.2.1 A.2.2 2).1 : Nat) : Int)) ((num (rdB (rdB A.2.1 A.2.2 2).2.1 (rdB A.2.1 A.2.2 2).2.2 8).1 : Nat) : Int) Sl.nil (Bs.zero 16)) := d10.write v12 (f11.trans f12)
    have good : s.length = 63 → rdB A.2.1 A.2.2 2 = ((s.drop 37).take 2, s.drop 39, false) ∧ rdB (rdB A.2.1 A.2.2 2).2.1 (rdB A.2.1 A.2.2 2).2.2 8 = ((s.drop 39).take 8, s.drop 47, false) := by
      intro hl
      have e0 := (hlong (by omega)).1
      have e1 : rdB (s.drop 37) false 2 = ((s.drop 37).take 2, s.drop 39, false) := rdB_at (a := 37) (n := 2) (by omega)
      have e2 : rdB (s.drop 39) false 8 = ((s.drop 39).take 8, s.drop 47, false) := rdB_at (a := 39) (n := 8) (by omega)
      rw [e0]
      dsimp only
      rw [e1]
      exact ⟨rfl, e2⟩
    refine fin h12 _ _ _ [] d12 rfl (Elems.nil_ 1 h12) (by decide) (fun l hl => by cases hl) (fun hb => ?_) fun hsh hl16 => ?_
    · by_cases hl : 37 ≤ s.length
      · rw [dec_one hl (hc0 1 hl k1)]
        by_cases h63 : s.length = 63
        · exfalso
          rw [(good h63).2] at hb
          rcases hb with hb | hb
          · cases hb
          · apply hb
            dsimp only
            rw [List.length_drop]; omega
        · rw [if_neg h63]
      · exact dec_short (by omega)
    · obtain ⟨g1, _, g2⟩ := rdB_sum hsh
      obtain ⟨g3, _, g4⟩ := rdB_sum g1
      obtain ⟨g5, g6⟩ := hlen g3
      have g7 : A.2.1.length = s.length - 37 := by rw [g6, List.length_drop]
      have h63 : s.length = 63 := by omega
      obtain ⟨e0, _, eS⟩ := hlong g5
      rw [dec_one g5 (hc0 1 g5 k1), if_pos h63, (good h63).2, (good h63).1, e0, eS, k1]
      dsimp only
      rw [w2 _ (by rw [List.length_take]; omega)]
  · refine ruint_spec d8.rd (by decide) fun h9 r9 f9 => ⟨_, rfl, ?_⟩
    have d9 := d8.read r9 f9
    refine field_in (i := 3) (t := .int .i64 (IntKind.wrap .i64 ((num (rdB A.2.1 A.2.2 2).1 : Nat) : Int))) (t0 := .int .i64 0) d9.msg rfl rfl rfl rfl fun h11 v11 f11 s11 => ?_
    have d12 : DS h h11 q mb _ _ (Ms.mk K S (bsOf 32 A.1) (IntKind.wrap .i64 ((num (rdB A.2.1 A.2.2 2).1 : Nat) : Int)) 0 Sl.nil (Bs.zero 16)) := d9.write v11 f11
    have good : s.length = 55 → rdB A.2.1 A.2.2 2 = ((s.drop 37).take 2, s.drop 39, false) := by
      intro hl
      have e0 := (hlong (by omega)).1
      have e1 : rdB (s.drop 37) false 2 = ((s.drop 37).take 2, s.drop 39, false) := rdB_at (a := 37) (n := 2) (by omega)
      rw [e0]
      exact e1
    refine fin h11 _ _ _ [] d12 rfl (Elems.nil_ 1 h11) (by decide) (fun l hl => by cases hl) (fun hb => ?_) fun hsh hl16 => ?_
    · by_cases hl : 37 ≤ s.length
      · rw [dec_two hl (hc0 2 hl k2)]
        by_cases h63 : s.length = 55
        · exfalso
          rw [good h63] at hb
          rcases hb with hb | hb
          · cases hb
          · apply hb
            dsimp only
            rw [List.length_drop]; omega
        · rw [if_neg h63]
      · exact dec_short (by omega)
    · obtain ⟨g1, _, g2⟩ := rdB_sum hsh
      obtain ⟨g5, g6⟩ := hlen g1
      have g7 : A.2.1.length = s.length - 37 := by rw [g6, List.length_drop]
      have h63 : s.length = 55 := by omega
      obtain ⟨e0, _, eS⟩ := hlong g5
      rw [dec_two g5 (hc0 2 g5 k2), if_pos h63, good h63, e0, eS, k2]
      dsimp only
      rw [w2 _ (by rw [List.length_take]; omega)]
  · refine left_spec d8.rd ⟨_, rfl, rbytes_spec d8.rd fun h9 r9 f9 => ⟨_, rfl, ?_⟩⟩
    have d9 := d8.read r9 f9
    have hAl : A.2.1.length ≤ s.length := by
      by_cases hl : 37 ≤ s.length
      · rw [(hlong hl).1]; dsimp only; rw [List.length_drop]; omega
      · rw [hshort hl]; exact Nat.zero_le _
    rw [wrap_i64 (by omega) (by omega)] at d9 ⊢
    obtain ⟨B, hB⟩ : ∃ B, B = rdB A.2.1 A.2.2 ((A.2.1.length : Int) - 16) := ⟨_, rfl⟩
    rw [← hB] at d9 ⊢
    have good : 53 ≤ s.length → B = ((s.drop 37).take (s.length - 53), s.drop (s.length - 16), false) := by
      intro hl
      have e0 := (hlong (by omega)).1
      rw [hB, e0]
      dsimp only
      have e1 : (((s.drop 37).length : Nat) : Int) - 16 = ((s.length - 53 : Nat) : Int) := by rw [List.length_drop]; omega
      rw [e1, rdB_at (a := 37) (n := s.length - 53) (by omega), show 37 + (s.length - 53) = s.length - 16 by omega]
    have short : ¬ 53 ≤ s.length → B.1 = [] := by
      intro hl
      by_cases h37 : 37 ≤ s.length
      · have e0 := (hlong h37).1
        rw [hB, e0]
        dsimp only
        rw [rdB_bad (.inr (.inl (by rw [List.length_drop]; omega)))]
      · rw [hB, hshort h37]
        dsimp only
        rw [rdB_short]
    have hBl : B.1.length < 100000 := by
      by_cases hl : 53 ≤ s.length
      · rw [good hl]; dsimp only; rw [List.length_take, List.length_drop]; omega
      · rw [short hl]; decide
    have hz8 := d9.msg.lt
    refine bget_spec hBl (fun hno => ⟨_, _, rfl, If.yes (no2 h9 _ _ _ d9 ?_)⟩) fun row h10 t hrow o10 x10 loc10 => ⟨_, _, rfl, If.no ?_⟩
    · by_cases hl : 53 ≤ s.length
      · rw [dec_three hl (hc0 3 (by omega) k3)]
        rw [good hl] at hno
        dsimp only at hno
        rw [hno]
      · exact dec_short (by omega)
    · have d10 := d9.more x10
      refine field_in (i := 5) (t := .slice t) (t0 := .slice Sl.nil) d10.msg rfl rfl rfl rfl fun h11 v11 f11 s11 => ?_
      have d11 : DS h h11 q mb _ _ (Ms.mk K S (bsOf 32 A.1) 0 0 t (Bs.zero 16)) := d10.write v11 f11
      have h53 : 53 ≤ s.length := by
        apply Classical.byContradiction
        intro hl
        rw [short hl] at hrow
        cases hrow
      have hB2 := good h53
      obtain ⟨e0, _, eS⟩ := hlong (by omega)
      have hq := d9.m0
      have hq0 := d9.q0
      have hrl : row.length ≤ 16 := by
        unfold getF at hrow
        split at hrow
        · cases hrow
        · split at hrow
          · cases hrow
          · rw [← Option.some.inj hrow, List.length_take]; omega
      rw [hB2] at hrow d11
      dsimp only at hrow
      have hdec : decF s = chk ⟨3, ((num ((s.drop 1).take 4) : Nat) : Int), bsOf 32 ((s.drop 5).take 32), 0, 0, row, bsOf 16 (s.drop (s.length - 16))⟩ := by
        rw [dec_three h53 (hc0 3 (by omega) k3), hrow]
      refine fin h11 _ _ _ row d11 rfl (o10.elems.only f11 fun l hl => by have := loc10 l hl; omega) (by omega) (fun l hl => by have := loc10 l hl; have := o10.lt l hl; have := f11.size; omega) (fun hb => ?_) fun hsh hl16 => ?_
      · exfalso
        rcases hb with hb | hb
        · cases hb
        · apply hb
          dsimp only
          rw [List.length_drop]; omega
      · rw [hdec, e0, eS, k3]
  · refine fin h8 _ _ _ [] d8 rfl (Elems.nil_ 1 h8) (by decide) (fun l hl => by cases hl) (fun hb => ?_) fun hsh hl16 => ?_
    all_goals
      have hno : decF s = none := by
        by_cases hl : 37 ≤ s.length
        · have hk := (hlong hl).2.1
          refine dec_other (fun h1 => k1 ?_) (fun h1 => k2 ?_) (fun h1 => k3 ?_) <;> rw [hk, h1] <;> rfl
        · exact dec_short (by omega)
    · exact hno
    · rw [hno, chk_kind]
      rintro (h1 | h1 | h1)
      · exact k1 h1
      · exact k2 h1
      · exact k3 h1

end
end Go.Proofs.YtldocdpdjdekiaaGreat.Board
end

section
/- The conditions of functions, as the generator reckons them out, each with the proof that it is that. -/
namespace Go.Proofs.YtldocdpdjdekiaaGreat
open Go Go.Vc
set_option maxRecDepth 100000
set_option linter.unusedVariables false

def tollerref07_Bytes_vc (m_Kind : Int) (m_Slot : Int) (m_Target : Bs (32 : Nat)) (m_Member : Int) (m_Body : Int) (m_Bits : Sl) (m_Tag : Bs (16 : Nat)) (h : Heap) (R : Value → Heap → Prop) : Prop :=
 Vc.Bind
 (newTV h
 (TV.agg
 [TV.int IntKind.i64 m_Kind, TV.int IntKind.i64 m_Slot, TV.bytes (32 : Nat) m_Target, TV.int IntKind.i64 m_Member, TV.int IntKind.u64 m_Body,
 TV.slice m_Bits, TV.bytes (16 : Nat) m_Tag])
 (58 : Nat))
 fun (h_1 : Array Obj) ↦
 ∃ (n : Int),
 ∃ (n_1 : Int),
 ∃ (b : Bs (32 : Nat)),
 ∃ (n_2 : Int),
 ∃ (n_3 : Int),
 ∃ (s : Sl),
 ∃ (b_1 : Bs (16 : Nat)),
 (at1 h_1 (Array.size h) (0 : Nat) (Value.int IntKind.i64 n) ∧
 at1 h_1 (Array.size h) (1 : Nat) (Value.int IntKind.i64 n_1) ∧
 atBytes h_1 (Array.size h) (2 : Nat) (32 : Nat) b ∧
 at1 h_1 (Array.size h) (34 : Nat) (Value.int IntKind.i64 n_2) ∧
 at1 h_1 (Array.size h) (35 : Nat) (Value.int IntKind.u64 n_3) ∧
 at1 h_1 (Array.size h) (36 : Nat) (slVal s) ∧ atBytes h_1 (Array.size h) (37 : Nat) (16 : Nat) b_1) ∧
 (CallsH Tryz.prog (82 : Nat)
 (TVs.vals
 [TV.agg
 [TV.int IntKind.i64 n, TV.int IntKind.i64 n_1, TV.bytes (32 : Nat) b, TV.int IntKind.i64 n_2, TV.int IntKind.u64 n_3, TV.slice s,
 TV.bytes (16 : Nat) b_1]])
 h_1 fun (v : Value) (h_2 : Array Obj) ↦
 ∃ (s : List UInt8),
 v = TV.val (TV.str s) ∧
 Ext h_2 (Array.push h_2 (row (TVs.cells []) (5 : Nat))) ∧
 ∃ (new : List Value),
 slAt (Array.push h_2 (row (TVs.cells []) (5 : Nat)))
 (cutSl (Sl.mk (some (Loc.mk (Array.size h) (37 : Nat))) (16 : Nat) (16 : Nat)) (0 : Nat) (16 : Nat) (1 : Nat)) (1 : Nat) new ∧
 (∀ (v : Value), v ∈ new → isOne v = true) ∧
 vcAppend YtldocdpdjdekiaaGreat.ctx (5 : Nat) (Sl.mk (some (Loc.mk (Array.size h_2) (0 : Nat))) (0 : Nat) (0 : Nat))
 (cutSl (Sl.mk (some (Loc.mk (Array.size h) (37 : Nat))) (16 : Nat) (16 : Nat)) (0 : Nat) (16 : Nat) (1 : Nat)).len new
 (Array.push h_2 (row (TVs.cells []) (5 : Nat))) fun (s_1 : Sl) (h : Array Obj) ↦
 CallsH Tryz.prog (83 : Nat) (TVs.vals [TV.slice s_1]) h fun (v : Value) (h : Array Obj) ↦
 ∃ (s_2 : List UInt8),
 v = TV.val (TV.str s_2) ∧
 (↑(List.length s + List.length s_2) : Int) ≤ (9223372036854775807 : Int) ∧ R (TV.val (TV.str (s ++ s_2))) h) ∧
 Ext h_1 (Array.push h_1 (row (TVs.cells []) (5 : Nat))) ∧
 CallsH Tryz.prog (82 : Nat)
 (TVs.vals
 [TV.agg
 [TV.int IntKind.i64 n, TV.int IntKind.i64 n_1, TV.bytes (32 : Nat) b, TV.int IntKind.i64 n_2, TV.int IntKind.u64 n_3, TV.slice s,
 TV.bytes (16 : Nat) b_1]])
 (Array.push h_1 (row (TVs.cells []) (5 : Nat))) fun (v : Value) (h_2 : Array Obj) ↦
 ∃ (s : List UInt8),
 v = TV.val (TV.str s) ∧
 ∃ (new : List Value),
 slAt h_2 (cutSl (Sl.mk (some (Loc.mk (Array.size h) (37 : Nat))) (16 : Nat) (16 : Nat)) (0 : Nat) (16 : Nat) (1 : Nat)) (1 : Nat)
 new ∧
 (∀ (v : Value), v ∈ new → isOne v = true) ∧
 vcAppend YtldocdpdjdekiaaGreat.ctx (5 : Nat) (Sl.mk (some (Loc.mk (Array.size h_1) (0 : Nat))) (0 : Nat) (0 : Nat))
 (cutSl (Sl.mk (some (Loc.mk (Array.size h) (37 : Nat))) (16 : Nat) (16 : Nat)) (0 : Nat) (16 : Nat) (1 : Nat)).len new h_2
 fun (s_1 : Sl) (h : Array Obj) ↦
 CallsH Tryz.prog (83 : Nat) (TVs.vals [TV.slice s_1]) h fun (v : Value) (h : Array Obj) ↦
 ∃ (s_2 : List UInt8),
 v = TV.val (TV.str s_2) ∧
 (↑(List.length s + List.length s_2) : Int) ≤ (9223372036854775807 : Int) ∧ R (TV.val (TV.str (s ++ s_2))) h

theorem tollerref07_Bytes_calls (m_Kind : Int) (m_Slot : Int) (m_Target : Bs (32 : Nat)) (m_Member : Int) (m_Body : Int) (m_Bits : Sl) (m_Tag : Bs (16 : Nat)) (h : Heap) (R : Value → Heap → Prop) (H : tollerref07_Bytes_vc m_Kind m_Slot m_Target m_Member m_Body m_Bits m_Tag h R) : CallsH Tryz.prog 50 (TVs.vals [TV.agg [TV.int IntKind.i64 m_Kind, TV.int IntKind.i64 m_Slot, TV.bytes (32 : Nat) m_Target, TV.int IntKind.i64 m_Member, TV.int IntKind.u64 m_Body, TV.slice m_Bits, TV.bytes (16 : Nat) m_Tag]]) h R :=
 vcFn_sound (C := ctx) ctx_ok (fn := Tryz.f50) Tryz.func50 ((by kernel_rfl : tollerref07_Bytes_vc m_Kind m_Slot m_Target m_Member m_Body m_Bits m_Tag h R = vcFn ctx Tryz.f50 [TV.agg [TV.int IntKind.i64 m_Kind, TV.int IntKind.i64 m_Slot, TV.bytes (32 : Nat) m_Target, TV.int IntKind.i64 m_Member, TV.int IntKind.u64 m_Body, TV.slice m_Bits, TV.bytes (16 : Nat) m_Tag]] h R) ▸ H)


def tollerref07_Root_vc (m_Kind : Int) (m_Slot : Int) (m_Target : Bs (32 : Nat)) (m_Member : Int) (m_Body : Int) (m_Bits : Sl) (m_Tag : Bs (16 : Nat)) (h : Heap) (R : Value → Heap → Prop) : Prop :=
 Vc.Bind
 (newTV h
 (TV.agg
 [TV.int IntKind.i64 m_Kind, TV.int IntKind.i64 m_Slot, TV.bytes (32 : Nat) m_Target, TV.int IntKind.i64 m_Member, TV.int IntKind.u64 m_Body,
 TV.slice m_Bits, TV.bytes (16 : Nat) m_Tag])
 (58 : Nat))
 fun (h_1 : Array Obj) ↦
 Vc.Bind (newTV h_1 (TV.bytes (32 : Nat) (Bs.zero (32 : Nat))) (24 : Nat)) fun (h_2 : Array Obj) ↦
 ∃ (n : Int),
 ∃ (n_1 : Int),
 ∃ (b : Bs (32 : Nat)),
 ∃ (n_2 : Int),
 ∃ (n_3 : Int),
 ∃ (s : Sl),
 ∃ (b_1 : Bs (16 : Nat)),
 (at1 h_2 (Array.size h) (0 : Nat) (Value.int IntKind.i64 n) ∧
 at1 h_2 (Array.size h) (1 : Nat) (Value.int IntKind.i64 n_1) ∧
 atBytes h_2 (Array.size h) (2 : Nat) (32 : Nat) b ∧
 at1 h_2 (Array.size h) (34 : Nat) (Value.int IntKind.i64 n_2) ∧
 at1 h_2 (Array.size h) (35 : Nat) (Value.int IntKind.u64 n_3) ∧
 at1 h_2 (Array.size h) (36 : Nat) (slVal s) ∧ atBytes h_2 (Array.size h) (37 : Nat) (16 : Nat) b_1) ∧
 CallsH Tryz.prog (50 : Nat)
 (TVs.vals
 [TV.agg
 [TV.int IntKind.i64 n, TV.int IntKind.i64 n_1, TV.bytes (32 : Nat) b, TV.int IntKind.i64 n_2, TV.int IntKind.u64 n_3, TV.slice s,
 TV.bytes (16 : Nat) b_1]])
 h_2 fun (v : Value) (h : Array Obj) ↦
 ∃ (s : List UInt8),
 v = TV.val (TV.str s) ∧
 CallsH Tryz.prog (52 : Nat) (TVs.vals [TV.str s]) h fun (v : Value) (h : Array Obj) ↦
 ∃ (b : Bs (32 : Nat)),
 v = TV.val (TV.bytes (32 : Nat) b) ∧
 wok h (Array.size h_1) (0 : Nat) (32 : Nat) ∧
 Vc.Bind (TV.put h (Array.size h_1) (0 : Nat) (TV.bytes (32 : Nat) b)) fun (h : Array Obj) ↦
 ∃ (b : Bs (32 : Nat)), atBytes h (Array.size h_1) (0 : Nat) (32 : Nat) b ∧ R (TV.val (TV.bytes (32 : Nat) b)) h

theorem tollerref07_Root_calls (m_Kind : Int) (m_Slot : Int) (m_Target : Bs (32 : Nat)) (m_Member : Int) (m_Body : Int) (m_Bits : Sl) (m_Tag : Bs (16 : Nat)) (h : Heap) (R : Value → Heap → Prop) (H : tollerref07_Root_vc m_Kind m_Slot m_Target m_Member m_Body m_Bits m_Tag h R) : CallsH Tryz.prog 22 (TVs.vals [TV.agg [TV.int IntKind.i64 m_Kind, TV.int IntKind.i64 m_Slot, TV.bytes (32 : Nat) m_Target, TV.int IntKind.i64 m_Member, TV.int IntKind.u64 m_Body, TV.slice m_Bits, TV.bytes (16 : Nat) m_Tag]]) h R :=
 vcFn_sound (C := ctx) ctx_ok (fn := Tryz.f22) Tryz.func22 ((by kernel_rfl : tollerref07_Root_vc m_Kind m_Slot m_Target m_Member m_Body m_Bits m_Tag h R = vcFn ctx Tryz.f22 [TV.agg [TV.int IntKind.i64 m_Kind, TV.int IntKind.i64 m_Slot, TV.bytes (32 : Nat) m_Target, TV.int IntKind.i64 m_Member, TV.int IntKind.u64 m_Body, TV.slice m_Bits, TV.bytes (16 : Nat) m_Tag]] h R) ▸ H)


def tollerref01_Reader_Bytes_vc (r : Option Go.Vc.Loc) (n : Int) (h : Heap) (R : Value → Heap → Prop) : Prop :=
 Join
 (fun (s : List UInt8) (h : Array Obj) ↦
 Nn r fun (l : Go.Vc.Loc) ↦
 ∃ (n_1 : Int),
 at1 h l.b (l.o + (1 : Nat)) (Value.int IntKind.i64 n_1) ∧
 Nn r fun (l : Go.Vc.Loc) ↦
 wok h l.b (l.o + (1 : Nat)) (1 : Nat) ∧
 Vc.Bind (TV.put h l.b (l.o + (1 : Nat)) (TV.int IntKind.i64 (IntKind.wrap IntKind.i64 (n_1 + n)))) fun (h : Array Obj) ↦
 Nn r fun (l : Go.Vc.Loc) ↦
 ∃ (s : List UInt8),
 at1 h l.b l.o (Value.string (ByteArray.mk (List.toArray s))) ∧
 Nn r fun (l : Go.Vc.Loc) ↦
 ∃ (n_2 : Int),
 at1 h l.b (l.o + (1 : Nat)) (Value.int IntKind.i64 n_2) ∧
 Nn r fun (l : Go.Vc.Loc) ↦
 ∃ (n_3 : Int),
 at1 h l.b (l.o + (1 : Nat)) (Value.int IntKind.i64 n_3) ∧
 (0 : Int) ≤ n_3 ∧
 n_3 ≤ (↑(List.length s) : Int) ∧
 (0 : Int) ≤ IntKind.wrap IntKind.i64 (n_2 - n) ∧
 IntKind.wrap IntKind.i64 (n_2 - n) ≤ n_3 ∧
 R
 (TV.val
 (TV.str
 (List.take (Int.toNat n_3 - Int.toNat (IntKind.wrap IntKind.i64 (n_2 - n)))
 (List.drop (Int.toNat (IntKind.wrap IntKind.i64 (n_2 - n))) s))))
 h)
 fun (J : List UInt8 → Array Obj → Prop) ↦
 Join
 (fun (s : Bool) (h : Array Obj) ↦
 If s
 (Nn r fun (l : Go.Vc.Loc) ↦
 wok h l.b (l.o + (2 : Nat)) (1 : Nat) ∧
 Vc.Bind (TV.put h l.b (l.o + (2 : Nat)) (TV.bool true)) fun (h : Array Obj) ↦
 Nn r fun (l : Go.Vc.Loc) ↦
 ∃ (s : List UInt8),
 at1 h l.b l.o (Value.string (ByteArray.mk (List.toArray s))) ∧
 Nn r fun (l : Go.Vc.Loc) ↦
 wok h l.b (l.o + (1 : Nat)) (1 : Nat) ∧
 Vc.Bind (TV.put h l.b (l.o + (1 : Nat)) (TV.int IntKind.i64 (↑(List.length s) : Int))) fun (h : Array Obj) ↦
 R (TV.val (TV.str (ByteArray.mk #[]).data.toList)) h)
 (J (ByteArray.mk #[]).data.toList h))
 fun (J : Bool → Array Obj → Prop) ↦
 Nn r fun (l : Go.Vc.Loc) ↦
 ∃ (b : Bool),
 at1 h l.b (l.o + (2 : Nat)) (Value.bool b) ∧
 If b (J true h)
 (If (decide (n < (0 : Int))) (J true h)
 (Nn r fun (l : Go.Vc.Loc) ↦
 ∃ (s : List UInt8),
 at1 h l.b l.o (Value.string (ByteArray.mk (List.toArray s))) ∧
 Nn r fun (l : Go.Vc.Loc) ↦
 ∃ (n_1 : Int),
 at1 h l.b (l.o + (1 : Nat)) (Value.int IntKind.i64 n_1) ∧ J (decide (IntKind.wrap IntKind.i64 ((↑(List.length s) : Int) - n_1) < n)) h))

theorem tollerref01_Reader_Bytes_calls (r : Option Go.Vc.Loc) (n : Int) (h : Heap) (R : Value → Heap → Prop) (H : tollerref01_Reader_Bytes_vc r n h R) : CallsH Tryz.prog 80 (TVs.vals [TV.ptr r, TV.int IntKind.i64 n]) h R :=
 vcFn_sound (C := ctx) ctx_ok (fn := Tryz.f80) Tryz.func80 ((by kernel_rfl : tollerref01_Reader_Bytes_vc r n h R = vcFn ctx Tryz.f80 [TV.ptr r, TV.int IntKind.i64 n] h R) ▸ H)


def tollerref01_Reader_Uint_vc (r : Option Go.Vc.Loc) (width : Int) (h : Heap) (R : Value → Heap → Prop) : Prop :=
 Join
 (fun (s : Int) (h : Array Obj) ↦
 CallsH Tryz.prog (80 : Nat) (TVs.vals [TV.ptr r, TV.int IntKind.i64 s]) h fun (v : Value) (h : Array Obj) ↦
 ∃ (s_1 : List UInt8),
 v = TV.val (TV.str s_1) ∧
 ∀ (c : Nat),
 List.length s_1 ≤ c →
 Go.Vc.Loop ((0 : Int), (1 : Int), (0 : Int)) (Array.push h (strRow s_1 c (5 : Nat)))
 fun (s_2 : Int × Int × Int) (h_1 : Array Obj) (K : Int × Int × Int → Array Obj → Prop) ↦
 If (decide (s_2.snd.snd < (↑(List.length s_1) : Int)))
 ((0 : Int) ≤ s_2.snd.snd ∧
 s_2.snd.snd < (↑(List.length s_1) : Int) ∧
 ∃ (n : Int),
 at1 h_1 (Array.size h) ((0 : Nat) + Int.toNat s_2.snd.snd * (1 : Nat)) (Value.int IntKind.u8 n) ∧
 K
 (IntKind.wrap IntKind.u64 (s_2.fst + IntKind.wrap IntKind.u64 (s_2.snd.fst * IntKind.wrap IntKind.u64 n)),
 IntKind.wrap IntKind.u64 (s_2.snd.fst * (256 : Int)), IntKind.wrap IntKind.i64 (s_2.snd.snd + (1 : Int)))
 h_1)
 (R (TV.val (TV.int IntKind.u64 s_2.fst)) h_1))
 fun (J : Int → Array Obj → Prop) ↦ If (decide ((8 : Int) < width)) (J (-1 : Int) h) (J width h)

theorem tollerref01_Reader_Uint_calls (r : Option Go.Vc.Loc) (width : Int) (h : Heap) (R : Value → Heap → Prop) (H : tollerref01_Reader_Uint_vc r width h R) : CallsH Tryz.prog 78 (TVs.vals [TV.ptr r, TV.int IntKind.i64 width]) h R :=
 vcFn_sound (C := ctx) ctx_ok (fn := Tryz.f78) Tryz.func78 ((by kernel_rfl : tollerref01_Reader_Uint_vc r width h R = vcFn ctx Tryz.f78 [TV.ptr r, TV.int IntKind.i64 width] h R) ▸ H)


def tollerref01_Reader_End_vc (r : Option Go.Vc.Loc) (h : Heap) (R : Value → Heap → Prop) : Prop :=
 Nn r fun (l : Go.Vc.Loc) ↦
 ∃ (b : Bool),
 at1 h l.b (l.o + (2 : Nat)) (Value.bool b) ∧
 If (!b)
 (Nn r fun (l : Go.Vc.Loc) ↦
 ∃ (n : Int),
 at1 h l.b (l.o + (1 : Nat)) (Value.int IntKind.i64 n) ∧
 Nn r fun (l : Go.Vc.Loc) ↦
 ∃ (s : List UInt8),
 at1 h l.b l.o (Value.string (ByteArray.mk (List.toArray s))) ∧ R (TV.val (TV.bool (decide (n = (↑(List.length s) : Int))))) h)
 (R (TV.val (TV.bool false)) h)

theorem tollerref01_Reader_End_calls (r : Option Go.Vc.Loc) (h : Heap) (R : Value → Heap → Prop) (H : tollerref01_Reader_End_vc r h R) : CallsH Tryz.prog 81 (TVs.vals [TV.ptr r]) h R :=
 vcFn_sound (C := ctx) ctx_ok (fn := Tryz.f81) Tryz.func81 ((by kernel_rfl : tollerref01_Reader_End_vc r h R = vcFn ctx Tryz.f81 [TV.ptr r] h R) ▸ H)


end Go.Proofs.YtldocdpdjdekiaaGreat
end

section
/- A message's name; the document's reader, rows, bytes, names. -/
namespace Go.Proofs.YtldocdpdjdekiaaGreat.Board
open Go Go.Vc

def nameF (m : Ms) (row : List Bool) : Bs 32 := docF (plainF m row ++ m.tag.l)
/-- A message's bytes. -/
def bytesF (m : Ms) (row : List Bool) : List UInt8 := plainF m row ++ m.tag.l

theorem bytesF_len (m : Ms) (row : List Bool) : (bytesF m row).length ≤ 76 + row.length := by
  unfold bytesF
  have := plainF_len m row
  rw [List.length_append, m.tag.h]
  omega

section
variable {R : Value → Heap → Prop} {h : Heap} {b : Nat}

theorem str_field {o n c : Nat} {x : Bs n} (a : atBytes h b o n x) : strAt h ⟨some ⟨b, o⟩, n, c⟩ x.l := by
  refine ⟨x.h, .inr ⟨⟨b, o⟩, rfl, fun j hj => ?_⟩⟩
  have := a j (by rw [← x.h]; exact hj)
  rw [List.getD_eq_getElem?_getD, List.getElem?_eq_getElem hj] at this
  exact this

theorem mroot_spec {m : Ms} {row : List Bool} (e : Elems 1 h m.bits (bools row)) (hl : row.length < 500) (hr : ∀ h', Ext h h' → R (TV.bytes 32 (nameF m row)).val h') : CallsH Tryz.prog 41 (TVs.vals [m.tv]) h R := by
  apply wire_Root_calls m.kind m.slot m.target m.member m.body m.bits m.tag
  unfold wire_Root_vc
  refine newTV_in fun h1 v1 x1 s1 => newTV_in fun h2 v2 x2 s2 => ?_
  have v1 : Var 58 h2 h.size m.tv := Var.ext (t := m.tv) v1 x2
  have x02 := x1.trans x2
  refine ms_at v1 ⟨m.tag.l, str_field v1.at.2.2.2.2.2.2, ?_⟩
  refine plain_spec (e.ext x02) hl fun h3 x3 => ⟨_, rfl, x3, ?_⟩
  have hpl := plainF_len m row
  have hf : [plainF m row, m.tag.l].flatten = plainF m row ++ m.tag.l := by simp
  refine of2_spec (ts := [plainF m row, m.tag.l]) (strs_elems (T := 9) h3 [plainF m row, m.tag.l]) (by rw [hf, List.length_append, m.tag.h]; omega) (by show 2 < _; decide) fun h4 x4 => ⟨_, rfl, ?_⟩
  have x24 := x3.trans ((Ext.push _ _).trans x4)
  rw [hf]
  refine put_n (v2.ext x24) (t := .bytes 32 (nameF m row)) rfl bsz fun h5 v5 f5 s5 => ⟨_, v5.bytes, ?_⟩
  exact hr h5 (Only.cut (x02.trans x24) f5 fun i hi => by omega)

theorem docbytes_spec {m : Ms} {row : List Bool} (e : Elems 1 h m.bits (bools row)) (hl : row.length < 500) (hk : m.kind = 1 ∨ m.kind = 2 ∨ m.kind = 3) (hb : BodyOk m) (hr : ∀ h', Ext h h' → R (TV.str (bytesF m row)).val h') :
    CallsH Tryz.prog 50 (TVs.vals [m.tv]) h R := by
  apply tollerref07_Bytes_calls m.kind m.slot m.target m.member m.body m.bits m.tag
  unfold tollerref07_Bytes_vc
  refine newTV_in fun h1 v1 x1 s1 => ?_
  have v1 : Var 58 h1 h.size m.tv := v1
  have hpl := plainF_len m row
  have tagin : ∀ (hh : Heap) (s : Sl) (K : Sl → Value → Heap → Prop), Ext h1 hh → Row (fun i => h.size < i) hh s [] → (∀ s' h', Only (fun i => h.size < i) hh h' → K s' (TV.str m.tag.l).val h') →
      ∃ (new : List Value), slAt hh (cutSl (Sl.mk (some (Vc.Loc.mk h.size 37)) 16 16) 0 16 1) 1 new ∧ (∀ (v : Value), v ∈ new → isOne v = true) ∧ vcAppend ctx 5 s (cutSl (Sl.mk (some (Vc.Loc.mk h.size 37)) 16 16) 0 16 1).len new hh fun (s_2 : Sl) (h_4 : Array Obj) => CallsH Tryz.prog 83 (TVs.vals [TV.slice s_2]) h_4 (K s_2) := by
    intro hh s K xx r hk
    have hc : cutSl (Sl.mk (some (Vc.Loc.mk h.size 37)) 16 16) 0 16 1 = ⟨some ⟨h.size, 37⟩, 16, 16⟩ := rfl
    rw [hc]
    refine ⟨m.tag.l.map fun c => Value.int .u8 (c.toNat : Int), by rw [← bys_cells]; exact (elems_bytes (v1.ext xx).at.2.2.2.2.2.2).cells (bys_size _) (by decide), bcells_one m.tag.l, ?_⟩
    refine app_bytesN m.tag.h.symm r (by rw [m.tag.h]; decide) fun s3 h3 r3 f3 b3 => ?_
    apply tollerref07_text_calls
    exact ⟨_, r3.str, hk s3 h3 (r.cut f3)⟩
  refine ms_at v1 ⟨docplain_spec (e.ext x1) hl hk hb fun h2 x2 => ⟨_, rfl, Ext.push _ _, ?_⟩, Ext.push _ _, docplain_spec (e.ext (x1.trans (Ext.push _ _))) hl hk hb fun h2 x2 => ⟨_, rfl, ?_⟩⟩
  · have z2 := x2.size
    have xx := x2.trans (Ext.push h2 (Vc.row (TVs.cells []) 5))
    refine tagin _ _ (fun _ => _) xx (empty_row (by omega)) fun s' h4 o4 => ⟨_, rfl, by rw [m.tag.h]; omega, hr h4 (Only.cut (x1.trans xx) o4 fun i hi => by omega)⟩
  · have xx := (Ext.push h1 (Vc.row (TVs.cells []) 5)).trans x2
    refine tagin _ _ (fun _ => _) xx ((empty_row (by omega)).ext x2) fun s' h4 o4 => ⟨_, rfl, by rw [m.tag.h]; omega, hr h4 (Only.cut (x1.trans xx) o4 fun i hi => by omega)⟩

theorem docroot_spec {m : Ms} {row : List Bool} (e : Elems 1 h m.bits (bools row)) (hl : row.length < 500) (hk : m.kind = 1 ∨ m.kind = 2 ∨ m.kind = 3) (hb : BodyOk m) (hr : ∀ h', Ext h h' → R (TV.bytes 32 (nameF m row)).val h') :
    CallsH Tryz.prog 22 (TVs.vals [m.tv]) h R := by
  apply tollerref07_Root_calls m.kind m.slot m.target m.member m.body m.bits m.tag
  unfold tollerref07_Root_vc
  refine newTV_in fun h1 v1 x1 s1 => newTV_in fun h2 v2 x2 s2 => ?_
  have v1 : Var 58 h2 h.size m.tv := Var.ext (t := m.tv) v1 x2
  have x02 := x1.trans x2
  have hbl := bytesF_len m row
  refine ms_at v1 (docbytes_spec (e.ext x02) hl hk hb fun h3 x3 => ⟨_, rfl, docof_spec (by omega) fun h4 x4 => ⟨_, rfl, ?_⟩⟩)
  have x24 := x3.trans x4
  refine put_n (v2.ext x24) (t := .bytes 32 (nameF m row)) rfl bsz fun h5 v5 f5 s5 => ⟨_, v5.bytes, ?_⟩
  exact hr h5 (Only.cut (x02.trans x24) f5 fun i hi => by omega)

/-! ### The document's reader -/

/-- A reader of the document: its text, how much of it is over, whether it is short. -/
def RdD (h : Heap) (b : Nat) (s : List UInt8) (at_ : Nat) (sh : Bool) : Prop := Var 125 h b (.agg [.str s, .int .i64 (at_ : Int), .bool sh])

/-- What is over then. -/
def atD (s : List UInt8) (at_ : Nat) (sh : Bool) (n : Int) : Nat := if sh = true ∨ n < 0 ∨ ((s.length - at_ : Nat) : Int) < n then s.length else at_ + n.toNat

theorem atD_le {s : List UInt8} {at_ : Nat} {sh : Bool} {n : Int} (h : at_ ≤ s.length) : atD s at_ sh n ≤ s.length := by
  unfold atD; split <;> omega

theorem atD_rest {s : List UInt8} {at_ : Nat} {sh : Bool} {n : Int} (_h : at_ ≤ s.length) : s.drop (atD s at_ sh n) = (rdB (s.drop at_) sh n).2.1 := by
  unfold atD rdB
  rw [List.length_drop]
  split
  · rw [List.drop_length]
  · rw [List.drop_drop]

theorem dbytes_spec {s : List UInt8} {at_ : Nat} {sh : Bool} {n : Int} (v : RdD h b s at_ sh) (ha : at_ ≤ s.length) (hs : s.length < 100000) (hn : n < 100000)
    (hr : ∀ h', RdD h' b s (atD s at_ sh n) (rdB (s.drop at_) sh n).2.2 → Only (· = b) h h' → R (TV.str (rdB (s.drop at_) sh n).1).val h') : CallsH Tryz.prog 80 (TVs.vals [.ptr (some ⟨b, 0⟩), .int .i64 n]) h R := by
  apply tollerref01_Reader_Bytes_calls
  unfold tollerref01_Reader_Bytes_vc
  have v : Var 125 h b (.agg [.str s, .int .i64 (at_ : Int), .bool sh]) := v
  have hdl : (s.drop at_).length = s.length - at_ := List.length_drop
  intro J HJ J2 HJ2
  have bad : (sh = true ∨ n < 0 ∨ ((s.drop at_).length : Int) < n) → J2 true h := by
    intro hb
    rw [rdB_bad hb] at hr
    have hat : atD s at_ sh n = s.length := by unfold atD; rw [if_pos (by rw [← hdl]; exact hb)]
    rw [hat] at hr
    refine HJ2 true h (If.yes ?_)
    refine field_in (i := 2) (t := .bool true) (t0 := .bool sh) v rfl rfl rfl rfl fun h1 v1 f1 s1 => ⟨s, v1.at1 rfl, ?_⟩
    refine field_in (i := 1) (t := .int .i64 (s.length : Int)) (t0 := .int .i64 (at_ : Int)) v1 rfl rfl rfl rfl fun h2 v2 f2 s2 => ?_
    exact hr h2 v2 (f1.trans f2)
  refine ⟨sh, v.at1 rfl, ?_⟩
  refine If.split (fun hb => bad (.inl (by simpa using hb))) fun hs' => If.dec.2 ⟨fun hn => bad (.inr (.inl hn)), fun hn0 => ⟨s, v.at1 rfl, (at_ : Int), v.at1 rfl, ?_⟩⟩
  have hs' : sh = false := by simpa using hs'
  rw [wrap_i64 (by omega) (by omega)]
  by_cases hl : ((s.length : Int) - (at_ : Int)) < n
  · rw [decide_eq_true hl]
    exact bad (.inr (.inr (by omega)))
  rw [decide_eq_false hl]
  have hc : ¬ (sh = true ∨ n < 0 ∨ ((s.drop at_).length : Int) < n) := by rw [hs']; rintro (h1 | h1 | h1) <;> first | cases h1 | exact hn0 h1 | omega
  have hg : rdB (s.drop at_) sh n = ((s.drop at_).take n.toNat, (s.drop at_).drop n.toNat, sh) := if_neg hc
  have hat : atD s at_ sh n = at_ + n.toNat := by unfold atD; rw [if_neg (by rw [← hdl]; exact hc)]
  rw [hg, hat] at hr
  refine HJ2 false h (If.no (HJ _ h ⟨(at_ : Int), v.at1 rfl, ?_⟩))
  have e1 : IntKind.wrap .i64 ((at_ : Int) + n) = ((at_ + n.toNat : Nat) : Int) := by rw [wrap_i64 (by omega) (by omega)]; omega
  rw [e1]
  refine field_in (i := 1) (t := .int .i64 ((at_ + n.toNat : Nat) : Int)) (t0 := .int .i64 (at_ : Int)) v rfl rfl rfl rfl fun h2 v2 f2 s2 => ?_
  have e2 : IntKind.wrap .i64 (((at_ + n.toNat : Nat) : Int) - n) = (at_ : Int) := by rw [wrap_i64 (by omega) (by omega)]; omega
  refine ⟨s, v2.at1 rfl, _, v2.at1 rfl, _, v2.at1 rfl, by omega, by omega, by rw [e2]; omega, by rw [e2]; omega, ?_⟩
  rw [e2, Int.toNat_natCast, Int.toNat_natCast, Nat.add_sub_cancel_left]
  exact hr h2 v2 f2

theorem duint_spec {s : List UInt8} {at_ : Nat} {sh : Bool} {w : Int} (v : RdD h b s at_ sh) (ha : at_ ≤ s.length) (hs : s.length < 100000) (hw : w ≤ 8)
    (hr : ∀ h', RdD h' b s (atD s at_ sh w) (rdB (s.drop at_) sh w).2.2 → Only (fun i => i = b ∨ h.size ≤ i) h h' → R (TV.int .u64 (num (rdB (s.drop at_) sh w).1 : Nat)).val h') :
    CallsH Tryz.prog 78 (TVs.vals [.ptr (some ⟨b, 0⟩), .int .i64 w]) h R := by
  apply tollerref01_Reader_Uint_calls
  unfold tollerref01_Reader_Uint_vc
  intro J HJ
  refine If.dec.2 ⟨fun h1 => by omega, fun _ => HJ w h ?_⟩
  refine dbytes_spec v ha hs (by omega) fun h1 v1 f1 => ⟨_, rfl, fun c hc => ?_⟩
  have hl : (rdB (s.drop at_) sh w).1.length ≤ 8 := Nat.le_trans rdB_len (by omega)
  have x1 := Ext.push h1 (strRow (rdB (s.drop at_) sh w).1 c 5)
  have hr1 := hr _ (Var.ext v1 x1) (((f1.mono fun i hi => .inl hi)).trans (Only.of_ext x1))
  have hcell : ∀ i : Nat, (hi : i < (rdB (s.drop at_) sh w).1.length) → at1 (h1.push (strRow (rdB (s.drop at_) sh w).1 c 5)) h1.size (0 + i * 1) (.int .u8 (((rdB (s.drop at_) sh w).1.getD i 0).toNat : Int)) := by
    intro i hi
    unfold at1 cel
    rw [push_get]
    simp only [strRow, Nat.zero_add, Nat.mul_one, List.getElem?_toArray]
    rw [List.getElem?_append_left (by rw [List.length_map]; exact hi), List.getElem?_map, List.getElem?_eq_getElem hi, List.getD_eq_getElem?_getD, List.getElem?_eq_getElem hi]
    rfl
  generalize (rdB (s.drop at_) sh w).1 = t at hl hr1 hcell x1
  refine ⟨fun σ hh => 0 ≤ σ.2.2 ∧ σ.2.2 ≤ t.length ∧ hh = h1.push (strRow t c 5) ∧ σ.1 = ((num (t.take σ.2.2.toNat) : Nat) : Int) ∧ σ.2.1 = IntKind.wrap .u64 ((256 ^ σ.2.2.toNat : Nat) : Int), fun σ _ => ((t.length : Int) - σ.2.2).toNat, ⟨Int.le_refl 0, by first | omega | (dsimp only; omega), rfl, rfl, by decide⟩, ?_⟩
  rintro ⟨a, u, i⟩ hh ⟨i0, i1, rfl, ha, hu⟩
  dsimp only at i0 i1 ha hu ⊢
  refine If.dec.2 ⟨fun hi => ⟨i0, hi, _, hcell i.toNat (by omega), ?_⟩, fun hi => ?_⟩
  · have hi8 : i.toNat ≤ 7 := by omega
    have hp : 256 ^ i.toNat ≤ 256 ^ 7 := Nat.pow_le_pow_right (by decide) hi8
    have hp7 : 256 ^ 7 = 72057594037927936 := by decide
    have hget : t[i.toNat]? = some (t.getD i.toNat 0) := by rw [List.getD_eq_getElem?_getD, List.getElem?_eq_getElem (by omega)]; rfl
    have htk : t.take (i.toNat + 1) = t.take i.toNat ++ [t.getD i.toNat 0] := take_snoc hget
    have hsn := num_snoc (t.take i.toNat) (t.getD i.toNat 0)
    rw [List.length_take, Nat.min_eq_left (by omega)] at hsn
    have hlt := num_lt (t.take i.toNat ++ [t.getD i.toNat 0])
    have hlt8 := num_lt8 (s := t.take i.toNat ++ [t.getD i.toNat 0]) (by rw [List.length_append, List.length_take, List.length_singleton]; omega)
    have hc := (t.getD i.toNat 0).toNat_lt
    obtain ⟨P, hP⟩ : ∃ P, P = 256 ^ i.toNat := ⟨_, rfl⟩
    rw [← hP] at hsn hu hp
    have hw0 : IntKind.wrap .u64 (P : Int) = (P : Int) := wrap_u64_small (by omega) (by omega)
    rw [hw0] at hu
    have hmul : P * (t.getD i.toNat 0).toNat ≤ num (t.take i.toNat ++ [t.getD i.toNat 0]) := by omega
    have hw1 : IntKind.wrap .u64 ((t.getD i.toNat 0).toNat : Int) = ((t.getD i.toNat 0).toNat : Int) := wrap_u64_small (by omega) (by omega)
    have hm : u * ((t.getD i.toNat 0).toNat : Int) = ((P * (t.getD i.toNat 0).toNat : Nat) : Int) := by rw [hu]; push_cast; rfl
    rw [hw1, hm, wrap_u64_small (n := ((P * (t.getD i.toNat 0).toNat : Nat) : Int)) (by omega) (by omega), ha, wrap_u64_small (n := ((num (t.take i.toNat) : Nat) : Int) + _) (by omega) (by omega), wrap_i64 (n := i + 1) (by omega) (by omega)]
    refine ⟨⟨by first | omega | (dsimp only; omega), by first | omega | (dsimp only; omega), rfl, ?_, ?_⟩, by first | omega | (dsimp only; omega)⟩
    · try dsimp only
      rw [show (i + 1).toNat = i.toNat + 1 by omega, htk, hsn]
      omega
    · try dsimp only
      rw [show (i + 1).toNat = i.toNat + 1 by omega, Nat.pow_succ, ← hP, hu]
      congr 1
  · have : i.toNat = t.length := by omega
    rw [ha, this, List.take_length]
    exact hr1

theorem dend_spec {s : List UInt8} {at_ : Nat} {sh : Bool} (v : RdD h b s at_ sh) (ha : at_ ≤ s.length) (hr : R (TV.bool (!sh && decide (s.drop at_ = []))).val h) : CallsH Tryz.prog 81 (TVs.vals [.ptr (some ⟨b, 0⟩)]) h R := by
  have v : Var 125 h b (.agg [.str s, .int .i64 (at_ : Int), .bool sh]) := v
  apply tollerref01_Reader_End_calls
  unfold tollerref01_Reader_End_vc
  refine ⟨sh, v.at1 rfl, ?_⟩
  cases sh with
  | true => exact If.no hr
  | false =>
    refine If.yes ⟨_, v.at1 rfl, _, v.at1 rfl, ?_⟩
    have : decide ((at_ : Int) = (s.length : Int)) = decide (s.drop at_ = []) := by
      apply decide_eq_decide.2
      rw [List.drop_eq_nil_iff]
      omega
    rw [this]
    exact hr

end
end Go.Proofs.YtldocdpdjdekiaaGreat.Board
end
