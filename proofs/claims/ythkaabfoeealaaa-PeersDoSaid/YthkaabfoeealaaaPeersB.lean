/- Maps of peers' scores in memory; their keys, sorted. -/
import Derived.Test.YthkaabfoeealaaaPeersA
import Derived.Test.YthkaabfoeealaaaCtx
import Derived.Test.YthkaabfoeealaaaShelf
namespace Go.Proofs.Ythkaabfoeealaaa.Peers
open Go Go.Vc

def intTV (n : Int) : TV := .int .i64 n

def encE (es : List (Int × Int × Nat)) : List (TV × TV × Nat) := es.map fun e => (.int .i64 e.1, .int .i64 e.2.1, e.2.2)
def abs (es : List (Int × Int × Nat)) : List (Int × Int) := es.map fun e => (e.1, e.2.1)

def Stamps (es : List (Int × Int × Nat)) (c : Nat) : Prop := (∀ e ∈ es, e.2.2 < c) ∧ (es.map (·.2.2)).Nodup

/-- A map of scores in memory. -/
def MapI (h : Heap) (r : Nat) (L : List (Int × Int)) : Prop := ∃ es c, h[r]? = some (mapO (encE es) c) ∧ abs es = L ∧ Stamps es c

theorem MapI.ext {h h' : Heap} {r : Nat} {L : List (Int × Int)} (m : MapI h r L) (e : Ext h h') : MapI h' r L := by
  obtain ⟨es, c, h1, h2⟩ := m
  exact ⟨es, c, by rw [e.same r (Array.getElem?_eq_some_iff.1 h1).1, h1], h2⟩
theorem MapI.only {S : Nat → Prop} {h h' : Heap} {r : Nat} {L : List (Int × Int)} (m : MapI h r L) (o : Only S h h') (hs : ¬ S r) : MapI h' r L := by
  obtain ⟨es, c, h1, h2⟩ := m
  exact ⟨es, c, by rw [o.same r (Array.getElem?_eq_some_iff.1 h1).1 hs, h1], h2⟩
theorem MapI.lt {h : Heap} {r : Nat} {L : List (Int × Int)} (m : MapI h r L) : r < h.size := by
  obtain ⟨es, c, h1, h2⟩ := m
  exact (Array.getElem?_eq_some_iff.1 h1).1

theorem like_enc (es : List (Int × Int × Nat)) : AllLike (.int .i64) (encE es) := by
  intro e he
  obtain ⟨x, _, rfl⟩ := List.mem_map.1 he
  rfl

theorem find_enc (k : Int) : ∀ es : List (Int × Int × Nat), findE (.int .i64 k) (encE es) = (get k (abs es)).map (TV.int .i64)
  | [] => rfl
  | e :: es => by
    have ih := find_enc k es
    unfold encE abs at ih ⊢
    simp only [List.map_cons, findE, get, keyEq, decide_eq_true_eq]
    by_cases h : k = e.1
    · rw [if_pos h, if_pos h]; rfl
    · rw [if_neg h, if_neg h]; exact ih

theorem has_enc (k : Int) (es : List (Int × Int × Nat)) : hasE (.int .i64 k) (encE es) = (get k (abs es)).isSome := by
  unfold hasE
  rw [find_enc]
  simp

theorem or_enc (k : Int) (es : List (Int × Int × Nat)) : orE (findE (.int .i64 k) (encE es)) (.int .i64 0) = .int .i64 (score (abs es) k) := by
  unfold orE score
  rw [find_enc]
  cases get k (abs es) <;> rfl

theorem put_enc (k v : Int) {c : Nat} {es : List (Int × Int × Nat)} (hs : Stamps es c) :
    ∃ es', putE (.int .i64 k) (.int .i64 v) c (encE es) = encE es' ∧ abs es' = put k v (abs es) ∧ Stamps es' (clockE (.int .i64 k) c (encE es)) := by
  have key : ∀ es : List (Int × Int × Nat), (∃ e', putE (.int .i64 k) (.int .i64 v) c (encE es) = encE e' ∧ abs e' = put k v (abs es) ∧
      ((get k (abs es) = none ∧ e'.map (·.2.2) = es.map (·.2.2) ++ [c]) ∨ (get k (abs es) ≠ none ∧ e'.map (·.2.2) = es.map (·.2.2)))) := by
    intro es
    induction es with
    | nil => exact ⟨[(k, v, c)], rfl, rfl, .inl ⟨rfl, rfl⟩⟩
    | cons e es ih =>
      obtain ⟨e', h1, h2, h3⟩ := ih
      have d1 : encE (e :: es) = (.int .i64 e.1, .int .i64 e.2.1, e.2.2) :: encE es := rfl
      have d2 : abs (e :: es) = (e.1, e.2.1) :: abs es := rfl
      rw [d1, d2]
      simp only [putE, put, get, keyEq, decide_eq_true_eq]
      by_cases h : k = e.1
      · rw [if_pos h, if_pos h, if_pos h]
        exact ⟨(e.1, v, e.2.2) :: es, rfl, rfl, .inr ⟨by simp, rfl⟩⟩
      · rw [if_neg h, if_neg h, if_neg h, h1, ← h2]
        refine ⟨e :: e', rfl, rfl, ?_⟩
        rcases h3 with ⟨h3, h4⟩ | ⟨h3, h4⟩
        · exact .inl ⟨h3, by simp [h4]⟩
        · exact .inr ⟨h3, by simp [h4]⟩
  obtain ⟨e', h1, h2, h3⟩ := key es
  refine ⟨e', h1, h2, ?_⟩
  have hc : clockE (.int .i64 k) c (encE es) = match get k (abs es) with | some _ => c | none => c + 1 := by
    unfold clockE
    rw [find_enc]
    cases get k (abs es) <;> rfl
  rw [hc]
  have hmem : ∀ e ∈ e', e.2.2 ∈ e'.map (·.2.2) := fun e he => List.mem_map.2 ⟨e, he, rfl⟩
  have hold : ∀ x ∈ es.map (·.2.2), x < c := fun x hx => by
    obtain ⟨e, he, rfl⟩ := List.mem_map.1 hx
    exact hs.1 e he
  rcases h3 with ⟨h3, h4⟩ | ⟨h3, h4⟩
  · rw [h3]
    refine ⟨fun e he => ?_, ?_⟩
    · have := hmem e he
      rw [h4] at this
      rcases List.mem_append.1 this with h | h
      · exact Nat.lt_succ_of_lt (hold _ h)
      · rw [List.mem_singleton.1 h]; exact Nat.lt_succ_self _
    · rw [h4]
      refine List.nodup_append.2 ⟨hs.2, by simp, fun a ha b hb => ?_⟩
      rw [List.mem_singleton.1 hb]
      have := hold a ha
      omega
  · cases hg : get k (abs es) with
    | none => exact absurd hg h3
    | some v =>
      refine ⟨fun e he => ?_, by rw [h4]; exact hs.2⟩
      have := hmem e he
      rw [h4] at this
      exact hold _ this

theorem drop_enc (k : Int) {c : Nat} : ∀ {es : List (Int × Int × Nat)}, Stamps es c → ∃ es', dropE (.int .i64 k) (encE es) = encE es' ∧ abs es' = drop k (abs es) ∧ Stamps es' c ∧ es'.Sublist es
  | [], hs => ⟨[], rfl, rfl, hs, List.Sublist.refl _⟩
  | e :: es, hs => by
    have hs' : Stamps es c := ⟨fun x hx => hs.1 x (List.mem_cons_of_mem _ hx), (List.nodup_cons.1 hs.2).2⟩
    obtain ⟨e', h1, h2, h3, h4⟩ := drop_enc k hs'
    have d1 : encE (e :: es) = (.int .i64 e.1, .int .i64 e.2.1, e.2.2) :: encE es := rfl
    have d2 : abs (e :: es) = (e.1, e.2.1) :: abs es := rfl
    rw [d1, d2]
    simp only [dropE, drop, keyEq, decide_eq_true_eq]
    by_cases h : k = e.1
    · rw [if_pos h, if_pos h]
      exact ⟨es, rfl, rfl, hs', List.sublist_cons_self _ _⟩
    · rw [if_neg h, if_neg h, h1, ← h2]
      have hsub := h4.cons_cons e
      refine ⟨e :: e', rfl, rfl, ⟨fun x hx => hs.1 x (hsub.mem hx), hs.2.sublist (hsub.map _)⟩, hsub⟩

/-! ### The keys, sorted -/

theorem sortsA (m : Nat) : AnyZI.SortsIn Try.prog Try.sortedA_ren Fence.wide m :=
  ⟨fun blk off cap ss W hH hblk hsz => callsIn_wide.2 (AnyM.slices_Sort_int Try.sortA blk off cap ss W hH hblk hsz),
   fun p cap W => callsIn_wide.2 (AnyM.slices_Sort_int_none Try.sortA p cap W)⟩

def anyR : Value → Option (DataW Unit × List MemPlace) := fun _ => some (.nil, [])

theorem rg_enc {kt : TypeId} (hk : Try.prog.underlying kt = some (.int .i64)) (x : Int × Int × Nat) (hw : (Lit.int .i64 x.1).wf = true) :
    WideElems.rd Try.prog kt anyR ⟨(TV.int .i64 x.1).val, (TV.int .i64 x.2.1).val, x.2.2⟩ = some (.int .i64 x.1, .nil) := by
  unfold WideElems.rd
  have := Maps.keyOf_int_mk (P := Try.prog) hk hw
  simp only [TV.val]
  rw [this]
  rfl

theorem owns {w : World} {r c : Nat} {es : List (Int × Int × Nat)} (hb : w.heap[r]? = some (mapO (encE es) c)) (hs : Stamps es c) (hn : (keys (abs es)).Nodup) (hw : ∀ k ∈ keys (abs es), (Lit.int .i64 k).wf = true) (hl : es.length ≤ maxLen) :
    ∃ D : DataW Unit, w.ownsMap Try.prog 3 anyR r es.length D ∧ Maps.size D = es.length ∧ (Go.intKeys D).Perm (keys (abs es)) := by
  have hent : mapO (encE es) c = .map (es.map fun x => (⟨(TV.int .i64 x.1).val, (TV.int .i64 x.2.1).val, x.2.2⟩ : MapEntry)).toArray c := by
    unfold mapO encE
    rw [List.map_map]
    rfl
  rw [hent] at hb
  have hk3 : Try.prog.underlying 3 = some (.int .i64) := Try.underlying3
  have hrd : ∀ x ∈ es, WideElems.rd Try.prog 3 anyR ⟨(TV.int .i64 x.1).val, (TV.int .i64 x.2.1).val, x.2.2⟩ = some (.int .i64 x.1, .nil) := fun x hx =>
    rg_enc hk3 x (hw _ (List.mem_map.2 ⟨_, List.mem_map.2 ⟨x, hx, rfl⟩, rfl⟩))
  refine ⟨_, ⟨_, c, hb, ⟨by simpa using hl, ⟨?_, ?_, ?_⟩, ?_⟩, by simp, rfl⟩, ?_, ?_⟩
  · intro x hx
    simp only [List.mem_map] at hx
    obtain ⟨y, hy, rfl⟩ := hx
    exact hs.1 y hy
  · simp only [List.map_map]
    exact hs.2
  · simp only [List.map_map]
    have : (List.map ((fun x : MapEntry => x.key) ∘ fun x : Int × Int × Nat => (⟨(TV.int .i64 x.1).val, (TV.int .i64 x.2.1).val, x.2.2⟩ : MapEntry)) es) = (keys (abs es)).map (fun k => Value.int .i64 k) := by
      unfold keys abs
      simp only [List.map_map]
      rfl
    rw [this]
    exact hn.map _ (fun a b h1 h2 => h1 (by injection h2))
  · intro x hx
    simp only [List.mem_map] at hx
    obtain ⟨y, hy, rfl⟩ := hx
    exact ⟨_, hrd y hy⟩
  · rw [Maps.size_eq, length_sorted]
    simp
  · have hmap : (List.map (WideElems.rg Try.prog 3 anyR) (es.map fun x => (⟨(TV.int .i64 x.1).val, (TV.int .i64 x.2.1).val, x.2.2⟩ : MapEntry))) = es.map fun x => ((Lit.int .i64 x.1, DataW.nil) : Lit × DataW Unit) := by
      rw [List.map_map]
      refine List.map_congr_left fun x hx => ?_
      simp only [Function.comp, WideElems.rg]
      rw [hrd x hx]
      rfl
    rw [hmap]
    have hp := (WideShapes.sorted_perm (es.map fun x => ((Lit.int .i64 x.1, DataW.nil) : Lit × DataW Unit))).map (fun p => Go.intOf p.1)
    refine hp.trans ?_
    rw [List.map_map]
    unfold keys abs
    rw [List.map_map]
    exact List.Perm.refl _

section
variable {R : Value → Heap → Prop} {h : Heap}

def Up (A : Sl) (n : Nat) : Prop := ∀ l, A.a = some l → n ≤ l.b

theorem keys_sorted {r : Nat} {L : List (Int × Int)} (m : MapI h r L) (hn : (keys L).Nodup) (hw : ∀ k ∈ keys L, (Lit.int .i64 k).wf = true) (hl : L.length < 1000000)
    (hr : ∀ h' s, Ext h h' → Own 3 1 h' s ((srt L).map intTV) → Up s h.size → R (TV.slice s).val h') :
    CallsH Try.prog 27 (TVs.vals [.map (some r)]) h fun v h1 => ∃ o : One, v = (TV.one o).val ∧ CallsH Try.prog 26 (TVs.vals [.one o]) h1 R := by
  obtain ⟨es, c, hb, rfl, hs⟩ := m
  have hel : es.length = (abs es).length := by simp [abs]
  intro w hw0
  subst hw0
  have cK := callsIn_wide.1 (AnyZI.keys_in Try.keysA Fence.wide 5 trivial rfl (some r) w)
  refine cK.mono fun e w1 hk => ?_
  obtain ⟨he, rfl⟩ := hk
  refine ⟨⟨rfl, rfl, rfl⟩, _, he, ⟨_, rfl⟩, rfl, ?_⟩
  intro W hW
  have hrl : r < w.heap.size := (Array.getElem?_eq_some_iff.1 hb).1
  have hWr : W.heap[r]? = some (mapO (encE es) c) := by
    rw [hW]
    exact (Ext.push w.heap _).same r hrl ▸ hb
  have hml : es.length ≤ maxLen := by unfold maxLen; omega
  obtain ⟨D, hown, hsz, hperm⟩ := owns hWr hs hn hw hml
  have hWs : W.heap.size = w.heap.size + 1 := by rw [hW]; simp
  have hseq := AnyZI.keys_gives (ρ := Try.keysA_ren) { Try.keysA with } Fence.wide 2 trivial rfl (by omega) w.heap.size r es.length D W (by omega) (by
    rw [cell?_eq]
    unfold cel
    have hW' : W.heap = w.heap.push (.cells #[.map (some r)] (Try.keysA_ren.t 23)) := hW
    rw [hW']
    simp) hown
  have cS := AnyZI.sorted_in Try.sortedA Fence.wide 5 trivial trivial trivial trivial rfl (by omega) (sortsA _) (enters_of Try.func31 (by kernel_rfl) rfl) 32 #[.pointer (some ⟨w.heap.size, 0, none⟩)] trivial (enters_of Try.func32 (by kernel_rfl) rfl) _ _ (by rw [hsz]; exact hml) (by rw [hsz]; omega) W hseq
  refine (callsIn_wide.1 cS).mono fun e w' hx => ?_
  obtain ⟨v, ss, he', hS, hrow, hnil, hbel⟩ := hx
  have hss : ss.mergeSort (fun x y => decide (x ≤ y)) = srt (abs es) := by
    refine sorted_unique ?_ ?_ (srt_sorted _)
    · exact (List.mergeSort_perm _ _).trans ((hS.trans hperm).trans (srt_perm _).symm)
    · have := List.pairwise_mergeSort leI_trans leI_total ss
      exact this.imp fun h => by simpa [leI] using h
  have hx1 : Ext w.heap W.heap := by rw [hW]; exact Ext.push _ _
  have hx2 : Ext W.heap w'.heap := ⟨hbel.size, hbel.block⟩
  have hlen : ss.length = (srt (abs es)).length := by rw [← hss, (List.mergeSort_perm _ _).length_eq]
  refine ⟨⟨hbel.os, hbel.tape, hbel.output⟩, v, he', ?_⟩
  rw [hss] at hrow
  have hcells : ∀ l : List Int, TVs.cells (l.map intTV) = l.map (fun q => Value.int .i64 q) := fun l => by
    induction l with
    | nil => rfl
    | cons x xs ih => simp only [List.map_cons, TVs.cells, ih]; rfl
  rcases hrow.2 with ⟨rfl, h0⟩ | ⟨g, cap, cur, rfl, hg, hgb, h1, h2, h3, h4⟩
  · have : srt (abs es) = [] := List.eq_nil_of_length_eq_zero (by omega)
    have := hr w'.heap Sl.nil (hx1.trans hx2) (by rw [this]; exact Own.nil _ _ _) (fun l hl => by cases hl)
    exact this
  · refine hr w'.heap ⟨some ⟨g, 0⟩, ss.length, cap⟩ (hx1.trans hx2) ⟨?_, by rw [List.length_map]; exact hlen.symm, h1, .inr ⟨g, cur.toList.drop ss.length, rfl, ?_, ?_⟩⟩ ?_
    · intro t ht
      obtain ⟨x, _, rfl⟩ := List.mem_map.1 ht
      rfl
    · rw [hgb, hcells]
      unfold row
      rw [Nat.mul_one] at h4
      have : (List.map (fun q => Value.int .i64 q) (srt (abs es))) = cur.toList.take ss.length := h4.symm
      rw [this, List.take_append_drop]
      rfl
    · simp only [List.length_drop, Array.length_toList, h3, Nat.mul_one]
    · intro l hl
      cases hl
      simp only
      omega

end
end Go.Proofs.Ythkaabfoeealaaa.Peers
