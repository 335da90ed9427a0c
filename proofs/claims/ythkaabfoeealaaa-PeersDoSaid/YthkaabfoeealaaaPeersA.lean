/- Scores by peers, as lists of pairs: what is found, laid, struck; the worst; sorted keys. -/
import Derived.Test.YthkaabfoeealaaaVcM
import Derived.Test.YthkaabfoeealaaaVcS2
namespace Go.Proofs.Ythkaabfoeealaaa.Peers
open Go Go.Vc

def get (k : Int) : List (Int × Int) → Option Int
  | [] => none
  | e :: es => if k = e.1 then some e.2 else get k es

def put (k v : Int) : List (Int × Int) → List (Int × Int)
  | [] => [(k, v)]
  | e :: es => if k = e.1 then (e.1, v) :: es else e :: put k v es

def drop (k : Int) : List (Int × Int) → List (Int × Int)
  | [] => []
  | e :: es => if k = e.1 then es else e :: drop k es

def keys (L : List (Int × Int)) : List Int := L.map (·.1)
def score (L : List (Int × Int)) (k : Int) : Int := (get k L).getD 0

theorem get_mem {L : List (Int × Int)} (hn : (keys L).Nodup) {k v : Int} : get k L = some v ↔ (k, v) ∈ L := by
  induction L with
  | nil => simp [get]
  | cons e es ih =>
    have hn' : e.1 ∉ keys es ∧ (keys es).Nodup := by simpa [keys] using hn
    unfold get
    by_cases h : k = e.1
    · rw [if_pos h]
      constructor
      · intro hx
        have : e.2 = v := Option.some.inj hx
        rw [h, ← this]
        exact List.mem_cons_self ..
      · intro hx
        rcases List.mem_cons.1 hx with hx | hx
        · rw [← hx]
        · exfalso
          exact hn'.1 (List.mem_map.2 ⟨_, hx, h⟩)
    · rw [if_neg h, ih hn'.2]
      constructor
      · exact List.mem_cons_of_mem _
      · intro hx
        rcases List.mem_cons.1 hx with hx | hx
        · exact absurd (by rw [← hx]) h
        · exact hx

theorem get_none {L : List (Int × Int)} {k : Int} : get k L = none ↔ k ∉ keys L := by
  induction L with
  | nil => simp [get, keys]
  | cons e es ih =>
    unfold get
    by_cases h : k = e.1
    · rw [if_pos h]
      simp [keys, h]
    · rw [if_neg h, ih]
      simp [keys, h]

theorem get_perm {L L' : List (Int × Int)} (hp : L.Perm L') (hn : (keys L).Nodup) (k : Int) : get k L = get k L' := by
  have hn' : (keys L').Nodup := (hp.map _).nodup_iff.1 hn
  cases h : get k L with
  | some v => exact ((get_mem hn').2 (hp.mem_iff.1 ((get_mem hn).1 h))).symm
  | none =>
    cases h' : get k L' with
    | none => rfl
    | some v =>
      have := (get_mem hn).2 (hp.mem_iff.2 ((get_mem hn').1 h'))
      rw [h] at this; cases this

theorem score_perm {L L' : List (Int × Int)} (hp : L.Perm L') (hn : (keys L).Nodup) (k : Int) : score L k = score L' k := by
  unfold score
  rw [get_perm hp hn]

theorem drop_filter {L : List (Int × Int)} (hn : (keys L).Nodup) (k : Int) : drop k L = L.filter (fun e => decide (e.1 ≠ k)) := by
  induction L with
  | nil => rfl
  | cons e es ih =>
    have hn' : e.1 ∉ keys es ∧ (keys es).Nodup := by simpa [keys] using hn
    unfold drop
    by_cases h : k = e.1
    · rw [if_pos h, List.filter_cons_of_neg (by simp [h])]
      refine (List.filter_eq_self.2 fun x hx => ?_).symm
      simp only [ne_eq, decide_eq_true_eq]
      intro hx2
      exact hn'.1 (List.mem_map.2 ⟨x, hx, by rw [hx2, h]⟩)
    · rw [if_neg h, List.filter_cons_of_pos (by simp; exact fun hx => h hx.symm), ih hn'.2]

theorem put_perm_drop {L : List (Int × Int)} (hn : (keys L).Nodup) (k v : Int) : (put k v L).Perm ((k, v) :: drop k L) := by
  induction L with
  | nil => exact List.Perm.refl _
  | cons e es ih =>
    have hn' : e.1 ∉ keys es ∧ (keys es).Nodup := by simpa [keys] using hn
    unfold put drop
    by_cases h : k = e.1
    · rw [if_pos h, if_pos h, h]
    · rw [if_neg h, if_neg h]
      exact ((ih hn'.2).cons e).trans (List.Perm.swap ..)

theorem drop_perm {L L' : List (Int × Int)} (hp : L.Perm L') (hn : (keys L).Nodup) (k : Int) : (drop k L).Perm (drop k L') := by
  have hn' : (keys L').Nodup := (hp.map _).nodup_iff.1 hn
  rw [drop_filter hn, drop_filter hn']
  exact hp.filter _

theorem put_perm {L L' : List (Int × Int)} (hp : L.Perm L') (hn : (keys L).Nodup) (k v : Int) : (put k v L).Perm (put k v L') := by
  have hn' : (keys L').Nodup := (hp.map _).nodup_iff.1 hn
  exact (put_perm_drop hn k v).trans (((drop_perm hp hn k).cons _).trans (put_perm_drop hn' k v).symm)

theorem mem_drop {L : List (Int × Int)} (hn : (keys L).Nodup) {k : Int} {e : Int × Int} : e ∈ drop k L ↔ e ∈ L ∧ e.1 ≠ k := by
  rw [drop_filter hn]
  simp

theorem drop_keys {L : List (Int × Int)} (hn : (keys L).Nodup) (k : Int) : (keys (drop k L)).Nodup := by
  rw [drop_filter hn]
  exact List.Nodup.sublist (List.Sublist.map _ List.filter_sublist) hn

theorem not_mem_drop {L : List (Int × Int)} (hn : (keys L).Nodup) (k : Int) : k ∉ keys (drop k L) := by
  intro h
  obtain ⟨e, he, h2⟩ := List.mem_map.1 h
  exact ((mem_drop hn).1 he).2 h2

theorem put_keys {L : List (Int × Int)} (hn : (keys L).Nodup) (k v : Int) : (keys (put k v L)).Nodup := by
  have h1 := (put_perm_drop hn k v).map (·.1)
  refine h1.nodup_iff.2 ?_
  simp only [List.map_cons, List.nodup_cons]
  exact ⟨not_mem_drop hn k, drop_keys hn k⟩

theorem get_put {L : List (Int × Int)} (hn : (keys L).Nodup) (k v x : Int) : get x (put k v L) = if x = k then some v else get x L := by
  rw [get_perm (put_perm_drop hn k v) (put_keys hn k v)]
  have e : get x ((k, v) :: drop k L) = if x = k then some v else get x (drop k L) := rfl
  rw [e]
  by_cases h : x = k
  · rw [if_pos h, if_pos h]
  · rw [if_neg h, if_neg h]
    cases hx : get x L with
    | none =>
      rw [get_none] at hx ⊢
      intro hm
      obtain ⟨e, he, h2⟩ := List.mem_map.1 hm
      exact hx (List.mem_map.2 ⟨e, ((mem_drop hn).1 he).1, h2⟩)
    | some w => exact (get_mem (drop_keys hn k)).2 ((mem_drop hn).2 ⟨(get_mem hn).1 hx, h⟩)

theorem get_drop {L : List (Int × Int)} (hn : (keys L).Nodup) (k x : Int) : get x (drop k L) = if x = k then none else get x L := by
  by_cases h : x = k
  · rw [if_pos h, get_none, h]
    exact not_mem_drop hn k
  · rw [if_neg h]
    cases hx : get x L with
    | none =>
      rw [get_none] at hx ⊢
      intro hm
      obtain ⟨e, he, h2⟩ := List.mem_map.1 hm
      exact hx (List.mem_map.2 ⟨e, ((mem_drop hn).1 he).1, h2⟩)
    | some w => exact (get_mem (drop_keys hn k)).2 ((mem_drop hn).2 ⟨(get_mem hn).1 hx, h⟩)

theorem drop_length {L : List (Int × Int)} {k : Int} (h : k ∈ keys L) : (drop k L).length + 1 = L.length := by
  induction L with
  | nil => simp [keys] at h
  | cons e es ih =>
    unfold drop
    by_cases hk : k = e.1
    · rw [if_pos hk]; rfl
    · rw [if_neg hk]
      simp only [List.length_cons]
      have : k ∈ keys es := by
        simp only [keys, List.map_cons, List.mem_cons] at h
        rcases h with h | h
        · exact absurd h hk
        · exact h
      have := ih this
      omega

theorem put_length {L : List (Int × Int)} {k v : Int} : (put k v L).length = if k ∈ keys L then L.length else L.length + 1 := by
  induction L with
  | nil => simp [put, keys]
  | cons e es ih =>
    unfold put
    by_cases hk : k = e.1
    · rw [if_pos hk, if_pos (by simp [keys, hk])]; rfl
    · rw [if_neg hk]
      simp only [List.length_cons, ih]
      by_cases h2 : k ∈ keys es
      · rw [if_pos h2, if_pos (by simp only [keys, List.map_cons, List.mem_cons]; exact .inr h2)]
      · rw [if_neg h2, if_neg (by simp only [keys, List.map_cons, List.mem_cons]; rintro (h3 | h3); exact hk h3; exact h2 h3)]

/-- Who has the least score, the lesser number of the same. -/
def IsWorst (L : List (Int × Int)) (w : Int) : Prop := w ∈ keys L ∧ ∀ x ∈ keys L, score L w < score L x ∨ score L w = score L x ∧ w ≤ x

theorem IsWorst.unique {L : List (Int × Int)} {w w' : Int} (h : IsWorst L w) (h' : IsWorst L w') : w = w' := by
  have h1 := h.2 w' h'.1
  have h2 := h'.2 w h.1
  omega

theorem IsWorst.perm {L L' : List (Int × Int)} {w : Int} (hp : L.Perm L') (hn : (keys L).Nodup) (h : IsWorst L w) : IsWorst L' w := by
  refine ⟨(hp.map (·.1)).mem_iff.1 h.1, fun x hx => ?_⟩
  rw [← score_perm hp hn, ← score_perm hp hn]
  exact h.2 x ((hp.map (·.1)).mem_iff.2 hx)

/-! ### Sorted keys -/

def leI (x y : Int) : Bool := decide (x ≤ y)
def srt (L : List (Int × Int)) : List Int := (keys L).mergeSort leI

theorem leI_trans (a b c : Int) (h : leI a b = true) (k : leI b c = true) : leI a c = true := by
  unfold leI at *
  simp only [decide_eq_true_eq] at *
  omega
theorem leI_total (a b : Int) : (leI a b || leI b a) = true := by
  unfold leI
  simp only [Bool.or_eq_true, decide_eq_true_eq]
  omega

theorem srt_perm (L : List (Int × Int)) : (srt L).Perm (keys L) := List.mergeSort_perm _ _
theorem srt_sorted (L : List (Int × Int)) : (srt L).Pairwise (fun x y => x ≤ y) := by
  have := List.pairwise_mergeSort leI_trans leI_total (keys L)
  exact this.imp fun h => by simpa [leI] using h

theorem srt_strict {L : List (Int × Int)} (hn : (keys L).Nodup) : (srt L).Pairwise (fun x y => x < y) := by
  have h1 := srt_sorted L
  have h2 : (srt L).Nodup := (srt_perm L).nodup_iff.2 hn
  exact (h1.and h2).imp fun h => by omega

theorem sorted_unique : ∀ {a b : List Int}, a.Perm b → a.Pairwise (fun x y => x ≤ y) → b.Pairwise (fun x y => x ≤ y) → a = b := by
  intro a b hp ha hb
  exact hp.eq_of_pairwise (fun x y _ _ h1 h2 => by omega) ha hb

theorem srt_congr {L L' : List (Int × Int)} (hp : L.Perm L') : srt L = srt L' :=
  sorted_unique ((srt_perm L).trans ((hp.map _).trans (srt_perm L').symm)) (srt_sorted L) (srt_sorted L')

theorem srt_length (L : List (Int × Int)) : (srt L).length = L.length := by
  rw [(srt_perm L).length_eq]
  simp [keys]

/-! ### Ticks -/

def tickOne (d : Int) (e : Int × Int) : Option (Int × Int) := if 0 ≤ e.2 + d then none else some (e.1, e.2 + d)
def tick (d : Int) (L : List (Int × Int)) : List (Int × Int) := L.filterMap (tickOne d)

theorem mem_tick {d : Int} {L : List (Int × Int)} {e : Int × Int} : e ∈ tick d L ↔ (e.1, e.2 - d) ∈ L ∧ e.2 < 0 := by
  unfold tick
  rw [List.mem_filterMap]
  constructor
  · rintro ⟨x, hx, h⟩
    unfold tickOne at h
    split at h
    · cases h
    · cases h
      refine ⟨?_, by omega⟩
      have : x = (x.1, x.2 + d - d) := by ext <;> simp
      rw [← this]
      exact hx
  · rintro ⟨h1, h2⟩
    refine ⟨_, h1, ?_⟩
    unfold tickOne
    rw [if_neg (by simp only; omega)]
    congr 1
    ext <;> simp

theorem tick_keys {d : Int} {L : List (Int × Int)} (hn : (keys L).Nodup) : (keys (tick d L)).Nodup := by
  induction L with
  | nil => exact hn
  | cons e es ih =>
    have hn' : e.1 ∉ keys es ∧ (keys es).Nodup := by simpa [keys] using hn
    have ih := ih hn'.2
    unfold tick at ih ⊢
    rw [List.filterMap_cons]
    unfold tickOne
    split
    · exact ih
    · rename_i b hb
      split at hb
      · cases hb
      · cases hb
        simp only [keys, List.map_cons, List.nodup_cons]
        refine ⟨fun hm => ?_, ih⟩
        obtain ⟨x, hx, h2⟩ := List.mem_map.1 hm
        have := (mem_tick (d := d) (L := es) (e := x)).1 hx
        exact hn'.1 (List.mem_map.2 ⟨_, this.1, h2⟩)

theorem get_tick {d : Int} {L : List (Int × Int)} (hn : (keys L).Nodup) (k : Int) : get k (tick d L) = (get k L).bind fun n => if 0 ≤ n + d then none else some (n + d) := by
  cases h : get k L with
  | none =>
    rw [get_none] at h
    simp only [Option.bind_none]
    rw [get_none]
    intro hm
    obtain ⟨x, hx, h2⟩ := List.mem_map.1 hm
    have := (mem_tick (d := d) (e := x)).1 hx
    exact h (List.mem_map.2 ⟨_, this.1, h2⟩)
  | some n =>
    have hm := (get_mem hn).1 h
    simp only [Option.bind_some]
    split
    · rename_i h0
      rw [get_none]
      intro hx
      obtain ⟨x, hx, h2⟩ := List.mem_map.1 hx
      have h3 := (mem_tick (d := d) (e := x)).1 hx
      have h4 := (get_mem hn).2 h3.1
      rw [show x.1 = k from h2] at h4
      rw [h] at h4
      have := Option.some.inj h4
      omega
    · rename_i h0
      refine (get_mem (tick_keys hn)).2 ((mem_tick).2 ⟨?_, by simp only; omega⟩)
      simp only
      rw [show n + d - d = n by omega]
      exact hm

theorem tick_perm {d : Int} {L L' : List (Int × Int)} (hp : L.Perm L') : (tick d L).Perm (tick d L') := hp.filterMap _

theorem tick_length (d : Int) (L : List (Int × Int)) : (tick d L).length ≤ L.length := List.length_filterMap_le _ _

end Go.Proofs.Ythkaabfoeealaaa.Peers
