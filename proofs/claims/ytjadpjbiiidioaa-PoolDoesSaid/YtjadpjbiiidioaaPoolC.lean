/- What container/heap does over a pool's row. -/
import Derived.Test.YtjadpjbiiidioaaPoolB
namespace Go.Proofs.Ytjadpjbiiidioaa.Pool
open Go Go.Vc
section
variable {R : Value → Heap → Prop} {h : Heap} {b : Nat} {A : Sl} {L : List It} {most quota : Int}

theorem m_len (H : HL h b A L most quota) : MethodAt Try.prog h 66 (TV.ptr (some ⟨b, 0⟩)).val "Len" 40 (TV.slice A).val :=
  meth_val ctx_ok (e := 62) (by kernel_rfl) (by kernel_rfl) types_pos (by kernel_rfl) (by kernel_rfl) (by kernel_rfl) (H.var.at1 rfl)
theorem m_less (H : HL h b A L most quota) : MethodAt Try.prog h 66 (TV.ptr (some ⟨b, 0⟩)).val "Less" 83 (TV.slice A).val :=
  meth_val ctx_ok (e := 62) (by kernel_rfl) (by kernel_rfl) types_pos (by kernel_rfl) (by kernel_rfl) (by kernel_rfl) (H.var.at1 rfl)
theorem m_swap (H : HL h b A L most quota) : MethodAt Try.prog h 66 (TV.ptr (some ⟨b, 0⟩)).val "Swap" 84 (TV.slice A).val :=
  meth_val ctx_ok (e := 62) (by kernel_rfl) (by kernel_rfl) types_pos (by kernel_rfl) (by kernel_rfl) (by kernel_rfl) (H.var.at1 rfl)
theorem m_push : MethodAt Try.prog h 66 (TV.ptr (some ⟨b, 0⟩)).val "Push" 85 (TV.ptr (some ⟨b, 0⟩)).val :=
  meth_ptr ctx_ok (e := 62) (by kernel_rfl) (by kernel_rfl) types_pos (by kernel_rfl)

theorem tdiv2 (n : Int) (h : 0 ≤ n) : Int.tdiv n 2 = ((n.toNat / 2 : Nat) : Int) := by
  rw [Int.tdiv_eq_ediv_of_nonneg h]; omega

theorem In.not_of {A : Sl} {b : Nat} (h : ¬ In A b) : ∀ i, In A i → ¬ i = b := fun _ hi e => h (e ▸ hi)

theorem up_spec (H : HL h b A L most quota) {v : One} (hv : v.v = .iface 66 (TV.ptr (some ⟨b, 0⟩)).val) {j : Int} (j0 : 0 ≤ j) (j1 : j < L.length) (hU : UpInv L j.toNat)
    (hr : ∀ h' L', HL h' b A L' most quota → L'.Perm L → HeapFrom 0 L' → Only (In A) h h' → R (TV.tup []).val h') : CallsH Try.prog 44 (TVs.vals [.one v, .int .i64 j]) h R := by
  apply container_heap_up_calls
  unfold container_heap_up_vc
  have few := H.few
  refine ⟨fun s hh => 0 ≤ s ∧ s < L.length ∧ ∃ L', HL hh b A L' most quota ∧ L'.Perm L ∧ UpInv L' s.toNat ∧ Only (In A) h hh, fun s _ => s.toNat, ⟨j0, j1, L, H, List.Perm.refl _, hU, Only.refl _ _⟩, ?_⟩
  rintro s hh ⟨s0, s1, L', H', hp, hU', o⟩
  have hlen := hp.length_eq
  refine ⟨by decide, ?_⟩
  rw [wrap_i64 (n := s - 1) (by omega) (by omega)]
  have hdiv : Int.tdiv (s - 1) 2 = if s = 0 then 0 else (((s.toNat - 1) / 2 : Nat) : Int) := by
    split
    · rename_i h0; subst h0; decide
    · rw [tdiv2 _ (by omega)]
      congr 2
      omega
  rw [hdiv]
  refine If.dec.2 ⟨fun he => ?_, fun hne => ?_⟩
  · have h0 : s = 0 := by
      split at he
      · assumption
      · rw [wrap_i64 (by omega) (by omega)] at he
        omega
    exact hr hh L' H' hp (up_done hU' (by omega) (.inl (by omega))) o
  · have h0 : ¬ s = 0 := fun e => by rw [if_pos e, e] at hne; exact hne (by decide)
    rw [if_neg h0, wrap_i64 (by omega) (by omega)]
    have hpar : (((s.toNat - 1) / 2 : Nat) : Int).toNat = (s.toNat - 1) / 2 := Int.toNat_natCast _
    refine ⟨66, _, 83, _, hv, m_less H', ?_⟩
    refine lessAt_spec H' s0 (by omega) (by omega) (by omega) fun h2 x2 => ⟨_, rfl, ?_⟩
    have H2 := H'.ext x2
    have o2 : Only (In A) h h2 := o.trans (Only.of_ext x2)
    rw [hpar]
    cases hb : bf (hget L' ((s.toNat - 1) / 2)) (hget L' s.toNat) with
    | false => exact If.yes (hr h2 L' H2 hp (up_done hU' (by omega) (.inr hb)) o2)
    | true =>
      refine If.no ⟨66, _, 84, _, hv, m_swap H2, ?_⟩
      refine swap_spec H2 (by omega) (by omega) s0 (by omega) fun h3 H3 o3 _ => ⟨rfl, ?_⟩
      rw [hpar] at H3
      refine ⟨⟨by omega, by omega, _, H3, (sw_perm (by omega) (by omega)).trans hp, ?_, o2.trans o3⟩, by dsimp only; omega⟩
      rw [hpar]
      exact up_step hU' (by omega) (by omega) hb

theorem down_spec (H : HL h b A L most quota) {v : One} (hv : v.v = .iface 66 (TV.ptr (some ⟨b, 0⟩)).val) {i n : Int} (i0 : 0 ≤ i) (i1 : i < L.length) (hn : n = L.length) {lo : Nat} (hlo : lo ≤ i.toNat) (hD : DownInv lo L i.toNat)
    (hr : ∀ h' L' r, HL h' b A L' most quota → L'.Perm L → HeapFrom lo L' → Only (In A) h h' → R (TV.bool r).val h') : CallsH Try.prog 45 (TVs.vals [.one v, .int .i64 i, .int .i64 n]) h R := by
  apply container_heap_down_calls
  unfold container_heap_down_vc
  have few := H.few
  subst hn
  refine ⟨fun s hh => i ≤ s ∧ s < L.length ∧ ∃ L', HL hh b A L' most quota ∧ L'.Perm L ∧ DownInv lo L' s.toNat ∧ Only (In A) h hh, fun s _ => ((L.length : Int) - s).toNat, ⟨Int.le_refl _, i1, L, H, List.Perm.refl _, hD, Only.refl _ _⟩, ?_⟩
  rintro s hh ⟨s0, s1, L', H', hp, hD', o⟩
  have hlen := hp.length_eq
  have w2 : ∀ x : Int, 0 ≤ x → x < 10000 → IntKind.wrap .i64 x = x := fun x h0 h1 => wrap_i64 (by omega) (by omega)
  rw [w2 (2 * s) (by omega) (by omega), w2 (2 * s + 1) (by omega) (by omega), w2 (2 * s + 1 + 1) (by omega) (by omega)]
  have none_of : (L.length : Int) ≤ 2 * s + 1 → HeapFrom lo L' := fun hge => down_done hD' fun k hk hl hpar => by omega
  intro J hJ
  refine If.dec.2 ⟨fun hge => hr hh L' _ H' hp (none_of hge) o, fun hlt => ?_⟩
  refine If.dec.2 ⟨fun hneg => by omega, fun _ => ?_⟩
  refine hJ _ _ ?_
  intro J2 hJ2
  -- the child that is taken
  have key : ∀ (c : Int) (h2 : Heap), 0 < c → c < L.length → (c.toNat - 1) / 2 = s.toNat → HL h2 b A L' most quota → Only (In A) h h2 →
      (∀ k, 0 < k → k < L'.length → (k - 1) / 2 = s.toNat → bf (hget L' c.toNat) (hget L' k) = false) → J2 c h2 := by
    intro c h2 c0 c1 hpar H2 o2 hsib
    refine hJ2 _ _ ?_
    refine ⟨66, _, 83, _, hv, m_less H2, ?_⟩
    refine lessAt_spec H2 (by omega) (by omega) (by omega) (by omega) fun h3 x3 => ⟨_, rfl, ?_⟩
    have H3 := H2.ext x3
    have o3 : Only (In A) h h3 := o2.trans (Only.of_ext x3)
    cases hb : bf (hget L' s.toNat) (hget L' c.toNat) with
    | false =>
      refine If.yes (hr h3 L' _ H3 hp (down_done hD' fun k hk hl hpk => ?_) o3)
      exact nb_trans hb (hsib k hk hl hpk)
    | true =>
      refine If.no ⟨66, _, 84, _, hv, m_swap H3, ?_⟩
      refine swap_spec H3 (by omega) (by omega) (by omega) (by omega) fun h4 H4 o4 _ => ⟨rfl, ?_⟩
      refine ⟨⟨by omega, by omega, _, H4, (sw_perm (by omega) (by omega)).trans hp, ?_, o3.trans o4⟩, by dsimp only; omega⟩
      exact down_step hD' (by omega) hpar (by omega) (by omega) hb hsib
  refine If.dec.2 ⟨fun h2c => ?_, fun h1c => ?_⟩
  · refine ⟨66, _, 83, _, hv, m_less H', ?_⟩
    refine lessAt_spec H' (by omega) (by omega) (by omega) (by omega) fun h2 x2 => ⟨_, rfl, ?_⟩
    have H2 := H'.ext x2
    have o2 : Only (In A) h h2 := o.trans (Only.of_ext x2)
    have e1 : (2 * s + 1).toNat = 2 * s.toNat + 1 := by omega
    have e2 : (2 * s + 1 + 1).toNat = 2 * s.toNat + 2 := by omega
    rw [e1, e2]
    cases hb : bf (hget L' (2 * s.toNat + 1)) (hget L' (2 * s.toNat + 2)) with
    | true =>
      refine If.yes (key _ h2 (by omega) (by omega) (by omega) H2 o2 fun k hk hl hpk => ?_)
      rw [e2]
      have : k = 2 * s.toNat + 1 ∨ k = 2 * s.toNat + 2 := by omega
      rcases this with rfl | rfl
      · exact bf_asymm hb
      · exact bf_irrefl _
    | false =>
      refine If.no (key _ h2 (by omega) (by omega) (by omega) H2 o2 fun k hk hl hpk => ?_)
      rw [e1]
      have : k = 2 * s.toNat + 1 ∨ k = 2 * s.toNat + 2 := by omega
      rcases this with rfl | rfl
      · exact bf_irrefl _
      · exact hb
  · refine key _ hh (by omega) (by omega) (by omega) H' o fun k hk hl hpk => ?_
    have e1 : (2 * s + 1).toNat = 2 * s.toNat + 1 := by omega
    rw [e1]
    have : k = 2 * s.toNat + 1 := by omega
    subst this
    exact bf_irrefl _

theorem Only.in_of {A : Sl} {h h' : Heap} (o : Only (In A) h h') : Only (fun i => i = b ∨ In A i) h h' := o.mono fun _ hi => .inr hi

/-- heap.Push. -/
theorem hpush_spec (H : HL h b A L most quota) (hh : HeapFrom 0 L) (hl : L.length < 900) {v : One} (hv : v.v = .iface 66 (TV.ptr (some ⟨b, 0⟩)).val) (x : It) {u : One} (hu : u.v = .iface 32 x.tv.val)
    (hr : ∀ h' A' L', HL h' b A' L' most quota → L'.Perm (L ++ [x]) → HeapFrom 0 L' → Only (fun i => i = b ∨ In A i) h h' → (∀ i, In A' i → In A i ∨ h.size ≤ i) → R (TV.tup []).val h') : CallsH Try.prog 32 (TVs.vals [.one v, .one u]) h R := by
  apply container_heap_Push_calls
  unfold container_heap_Push_vc
  refine ⟨66, _, 85, _, hv, m_push, ?_⟩
  refine push_spec H x hl hu fun h1 A' H1 o1 n1 => ⟨rfl, ?_⟩
  refine ⟨66, _, 40, _, hv, m_len H1, ?_⟩
  refine len_spec ⟨_, rfl, ?_⟩
  have e := H1.len
  rw [List.length_append, List.length_singleton] at e
  rw [← e, wrap_i64 (by omega) (by omega)]
  have ej : ((((L.length + 1 : Nat) : Int) - 1)).toNat = L.length := by omega
  refine up_spec H1 hv (by omega) (by simp; omega) ?_ fun h2 L' H2 hp hh2 o2 => ⟨rfl, ?_⟩
  · rw [ej]
    have g : ∀ k, k < L.length → hget (L ++ [x]) k = hget L k := fun k hk => by
      unfold hget
      rw [List.getD_eq_getElem?_getD, List.getD_eq_getElem?_getD, List.getElem?_append_left hk]
    refine ⟨fun k hk hkl hne => ?_, fun k hk hkl hpar h0 => ?_⟩
    · rw [List.length_append, List.length_singleton] at hkl
      rw [g k (by omega), g _ (by omega)]
      exact hh k hk (by omega) (Nat.zero_le _)
    · rw [List.length_append, List.length_singleton] at hkl
      omega
  · refine hr h2 A' L' H2 hp hh2 ?_ n1
    have hs := o1.size
    refine ⟨Nat.le_trans hs o2.size, fun i hi hn => ?_⟩
    rw [o2.same i (by omega) (fun hx => ?_), o1.same i hi hn]
    rcases n1 i hx with h9 | h9
    · exact hn (.inr h9)
    · omega

/-- heap.Fix at the top. -/
theorem hfix_spec (H : HL h b A L most quota) (h0 : 0 < L.length) (hD : DownInv 0 L 0) {v : One} (hv : v.v = .iface 66 (TV.ptr (some ⟨b, 0⟩)).val)
    (hr : ∀ h' L', HL h' b A L' most quota → L'.Perm L → HeapFrom 0 L' → Only (In A) h h' → R (TV.tup []).val h') : CallsH Try.prog 33 (TVs.vals [.one v, .int .i64 0]) h R := by
  apply container_heap_Fix_calls
  unfold container_heap_Fix_vc
  refine ⟨66, _, 40, _, hv, m_len H, ?_⟩
  refine len_spec ⟨_, rfl, ?_⟩
  have e := H.len
  refine down_spec H hv (lo := 0) (by decide) (by omega) (by omega) (by decide) hD fun h1 L' r H1 hp hh o => ⟨_, rfl, ?_⟩
  cases r with
  | true => exact If.no (hr h1 L' H1 hp hh o)
  | false =>
    have hl := hp.length_eq
    refine If.yes (up_spec H1 hv (by decide) (by omega) ⟨fun k hk hkl _ => hh k hk hkl (Nat.zero_le _), fun k _ _ _ h9 => absurd h9 (by decide)⟩ fun h2 L2 H2 hp2 hh2 o2 => ⟨rfl, ?_⟩)
    exact hr h2 L2 H2 (hp2.trans hp) hh2 (o.trans o2)

/-- heap.Init. -/
theorem hinit_spec (H : HL h b A L most quota) {v : One} (hv : v.v = .iface 66 (TV.ptr (some ⟨b, 0⟩)).val)
    (hr : ∀ h' L', HL h' b A L' most quota → L'.Perm L → HeapFrom 0 L' → Only (In A) h h' → R (TV.tup []).val h') : CallsH Try.prog 41 (TVs.vals [.one v]) h R := by
  apply container_heap_Init_calls
  unfold container_heap_Init_vc
  refine ⟨66, _, 40, _, hv, m_len H, ?_⟩
  refine len_spec ⟨_, rfl, by decide, ?_⟩
  have e := H.len
  have few := H.few
  rw [← e, tdiv2 _ (by omega), wrap_i64 (n := ((L.length : Int).toNat / 2 : Nat)) (by omega) (by omega), wrap_i64 (by omega) (by omega)]
  refine ⟨fun s hh => -1 ≤ s ∧ s < L.length ∧ ∃ L', HL hh b A L' most quota ∧ L'.Perm L ∧ HeapFrom (s + 1).toNat L' ∧ Only (In A) h hh, fun s _ => (s + 1).toNat, ⟨by omega, by omega, L, H, List.Perm.refl _, ?_, Only.refl _ _⟩, ?_⟩
  · intro k hk hl hlo
    omega
  rintro s hh ⟨s0, s1, L', H', hp, hH, o⟩
  have hl := hp.length_eq
  refine If.dec.2 ⟨fun hs => ?_, fun hs => ?_⟩
  · have es : (s + 1).toNat = s.toNat + 1 := by omega
    rw [es] at hH
    refine down_spec H' hv (lo := s.toNat) hs (by omega) (by omega) (Nat.le_refl _) (down_start hH) fun h1 L2 r H1 hp1 hh1 o1 => ⟨_, rfl, ?_⟩
    rw [wrap_i64 (by omega) (by omega)]
    have es2 : (s - 1 + 1).toNat = s.toNat := by omega
    exact ⟨⟨by omega, by omega, L2, H1, hp1.trans hp, by rw [es2]; exact hh1, o.trans o1⟩, by dsimp only; omega⟩
  · have es : (s + 1).toNat = 0 := by omega
    rw [es] at hH
    exact hr hh L' H' hp hH o

end
end Go.Proofs.Ytjadpjbiiidioaa.Pool
