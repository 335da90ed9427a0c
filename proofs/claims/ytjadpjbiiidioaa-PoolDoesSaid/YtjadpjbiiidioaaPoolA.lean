/- Items: their order, rows in order, heaps; plain lists, no program in sight. -/
import Derived.Test.YtjadpjbiiidioaaVcP
namespace Go.Proofs.Ytjadpjbiiidioaa.Pool
open Go Go.Vc

instance decBs {n : Nat} : DecidableEq (Bs n) := fun a b => decidable_of_iff (a.l = b.l) ⟨fun e => Bs.ext' e, fun e => by rw [e]⟩

structure It where
  slot : Int
  root : Bs 32
  peer : Int
  fr : Bs 32
  text : List UInt8

def It.tv (x : It) : TV := .agg [.int .i64 x.slot, .bytes 32 x.root, .int .i64 x.peer, .bytes 32 x.fr, .str x.text]
def It.zero : It := ⟨0, Bs.zero 32, 0, Bs.zero 32, []⟩
instance : Inhabited It := ⟨It.zero⟩

theorem It.size (x : It) : x.tv.size = 67 := rfl
theorem It.plain (x : It) : x.tv.plain = true := rfl
theorem It.tv_inj {x y : It} (h : x.tv = y.tv) : x = y := by
  cases x; cases y
  simp only [It.tv, TV.agg.injEq, List.cons.injEq, TV.int.injEq, TV.bytes.injEq, TV.str.injEq, true_and, heq_eq_eq, and_true] at h
  obtain ⟨h1, h2, h3, h4, h5⟩ := h
  subst h1; subst h2; subst h3; subst h4; subst h5
  rfl

/-! ### Names in order -/

theorem less_irrefl : ∀ a : List UInt8, Op.bytesLess a a = false
  | [] => rfl
  | x :: xs => by simp [Op.bytesLess, less_irrefl xs, UInt8.lt_irrefl]

theorem less_asymm : ∀ a b : List UInt8, Op.bytesLess a b = true → Op.bytesLess b a = false
  | [], [], h => by cases h
  | [], y :: ys, _ => rfl
  | x :: xs, [], h => by cases h
  | x :: xs, y :: ys, h => by
    simp only [Op.bytesLess, Bool.or_eq_true, Bool.and_eq_true, decide_eq_true_eq, beq_iff_eq] at h
    simp only [Op.bytesLess, Bool.or_eq_false_iff, Bool.and_eq_false_iff, decide_eq_false_iff_not, beq_eq_false_iff_ne]
    rw [UInt8.lt_iff_toNat_lt] at h
    rw [UInt8.lt_iff_toNat_lt]
    rcases h with h | ⟨h, h1⟩
    · refine ⟨by omega, .inl ?_⟩
      rintro rfl
      omega
    · subst h
      exact ⟨by omega, .inr (less_asymm xs ys h1)⟩

theorem less_trans : ∀ a b c : List UInt8, Op.bytesLess a b = true → Op.bytesLess b c = true → Op.bytesLess a c = true
  | [], [], _, h, _ => by cases h
  | _ :: _, [], _, h, _ => by cases h
  | _, _ :: _, [], _, k => by cases k
  | [], _ :: _, _ :: _, _, _ => rfl
  | x :: xs, y :: ys, z :: zs, h, k => by
    simp only [Op.bytesLess, Bool.or_eq_true, Bool.and_eq_true, decide_eq_true_eq, beq_iff_eq] at h k ⊢
    rw [UInt8.lt_iff_toNat_lt] at h k ⊢
    rcases h with h | ⟨h, h1⟩
    · rcases k with k | ⟨k, k1⟩
      · left; omega
      · left; rw [← k]; exact h
    · rcases k with k | ⟨k, k1⟩
      · left; rw [h]; exact k
      · right; exact ⟨h.trans k, less_trans xs ys zs h1 k1⟩

theorem less_total : ∀ a b : List UInt8, a ≠ b → Op.bytesLess a b = true ∨ Op.bytesLess b a = true
  | [], [], h => absurd rfl h
  | [], y :: ys, _ => .inl rfl
  | x :: xs, [], _ => .inr rfl
  | x :: xs, y :: ys, h => by
    simp only [Op.bytesLess, Bool.or_eq_true, Bool.and_eq_true, decide_eq_true_eq, beq_iff_eq]
    rw [UInt8.lt_iff_toNat_lt, UInt8.lt_iff_toNat_lt]
    by_cases e : x = y
    · subst e
      rcases less_total xs ys (fun hx => h (by rw [hx])) with h1 | h1
      · exact .inl (.inr ⟨rfl, h1⟩)
      · exact .inr (.inr ⟨rfl, h1⟩)
    · have : x.toNat ≠ y.toNat := fun hx => e (UInt8.toNat_inj.1 hx)
      rcases Nat.lt_or_ge x.toNat y.toNat with h1 | h1
      · exact .inl (.inl h1)
      · exact .inr (.inl (by omega))

/-! ### Items in order -/

/-- An item comes ahead of another one. -/
def bf (x y : It) : Bool := decide (x.slot < y.slot) || (decide (x.slot = y.slot) && Op.bytesLess x.root.l y.root.l)

theorem bf_iff {x y : It} : bf x y = true ↔ x.slot < y.slot ∨ (x.slot = y.slot ∧ Op.bytesLess x.root.l y.root.l = true) := by
  unfold bf
  simp

theorem bf_irrefl (x : It) : bf x x = false := by
  unfold bf
  simp [less_irrefl]

theorem bf_trans {x y z : It} (h : bf x y = true) (k : bf y z = true) : bf x z = true := by
  rw [bf_iff] at *
  rcases h with h | ⟨h, h1⟩ <;> rcases k with k | ⟨k, k1⟩
  · left; omega
  · left; omega
  · left; omega
  · exact .inr ⟨by omega, less_trans _ _ _ h1 k1⟩

theorem bf_asymm {x y : It} (h : bf x y = true) : bf y x = false := by
  cases hb : bf y x with
  | false => rfl
  | true => have := bf_trans h hb; rw [bf_irrefl] at this; cases this

theorem bf_total {x y : It} (h : ¬ (x.slot = y.slot ∧ x.root = y.root)) : bf x y = true ∨ bf y x = true := by
  rw [bf_iff, bf_iff]
  rcases Int.lt_or_gt_of_ne (a := x.slot) (b := y.slot) with h1
  by_cases e : x.slot = y.slot
  · have hr : x.root.l ≠ y.root.l := fun hx => h ⟨e, Bs.ext' hx⟩
    rcases less_total _ _ hr with h2 | h2
    · exact .inl (.inr ⟨e, h2⟩)
    · exact .inr (.inr ⟨e.symm, h2⟩)
  · rcases h1 e with h2 | h2
    · exact .inl (.inl h2)
    · exact .inr (.inl h2)

/-- What isn't ahead of what isn't ahead. -/
theorem nb_trans {x y z : It} (h : bf x y = false) (k : bf y z = false) : bf x z = false := by
  cases hb : bf x z with
  | false => rfl
  | true =>
    exfalso
    by_cases e : x.slot = y.slot ∧ x.root = y.root
    · have : bf y z = bf x z := by unfold bf; rw [e.1, e.2]
      rw [this, hb] at k
      cases k
    · rcases bf_total e with h1 | h1
      · rw [h1] at h; cases h
      · have := bf_trans h1 hb
        rw [this] at k; cases k

/-! ### Rows in order -/

def Srt (S : List It) : Prop := S.Pairwise fun x y => bf x y = true

def insIt (x : It) : List It → List It
  | [] => [x]
  | y :: ys => if bf x y = true then x :: y :: ys else y :: insIt x ys

theorem insIt_perm (x : It) : ∀ S, (insIt x S).Perm (x :: S)
  | [] => List.Perm.refl _
  | y :: ys => by
    unfold insIt
    split
    · exact List.Perm.refl _
    · exact ((insIt_perm x ys).cons y).trans (List.Perm.swap x y ys)

theorem insIt_srt {x : It} : ∀ {S : List It}, Srt S → (∀ y ∈ S, x.root ≠ y.root) → Srt (insIt x S)
  | [], _, _ => by simp [insIt, Srt]
  | y :: ys, h, hx => by
    unfold insIt
    have hy := List.pairwise_cons.1 h
    split
    · rename_i hb
      refine List.pairwise_cons.2 ⟨fun z hz => ?_, h⟩
      rcases List.mem_cons.1 hz with rfl | hz
      · exact hb
      · exact bf_trans hb (hy.1 z hz)
    · rename_i hb
      have hyx : bf y x = true := by
        rcases bf_total (x := x) (y := y) (fun e => hx y (List.mem_cons_self ..) e.2) with h1 | h1
        · exact absurd h1 hb
        · exact h1
      refine List.pairwise_cons.2 ⟨fun z hz => ?_, insIt_srt hy.2 (fun z hz => hx z (List.mem_cons_of_mem _ hz))⟩
      rcases List.mem_cons.1 ((insIt_perm x ys).mem_iff.1 hz) with rfl | hz
      · exact hyx
      · exact hy.1 z hz

/-- There is but one row in order of the same items. -/
theorem srt_unique : ∀ {S T : List It}, Srt S → Srt T → S.Perm T → S = T
  | [], T, _, _, hp => hp.nil_eq
  | x :: S, [], _, _, hp => by have := hp.length_eq; simp at this
  | x :: S, y :: T, hs, ht, hp => by
    have h1 := List.pairwise_cons.1 hs
    have h2 := List.pairwise_cons.1 ht
    have e : x = y := by
      rcases List.mem_cons.1 (hp.mem_iff.1 (List.mem_cons_self (a := x) (l := S))) with e | e
      · exact e
      · rcases List.mem_cons.1 (hp.mem_iff.2 (List.mem_cons_self (a := y) (l := T))) with e' | e'
        · exact e'.symm
        · have a := h2.1 x e
          have b := h1.1 y e'
          rw [bf_asymm a] at b
          cases b
    subst e
    rw [srt_unique h1.2 h2.2 (List.Perm.cons_inv hp)]

theorem srt_nodup {S : List It} (h : Srt S) : S.Nodup := h.imp fun hb e => by subst e; rw [bf_irrefl] at hb; cases hb

/-! ### Heaps: the one that comes last at the top -/

def hget (L : List It) (i : Nat) : It := L.getD i It.zero

/-- No parent from lo on is ahead of its child. -/
def HeapFrom (lo : Nat) (L : List It) : Prop := ∀ k, 0 < k → k < L.length → lo ≤ (k - 1) / 2 → bf (hget L ((k - 1) / 2)) (hget L k) = false

theorem heap_top {L : List It} (h : HeapFrom 0 L) : ∀ (n k : Nat), k ≤ n → k < L.length → bf (hget L 0) (hget L k) = false
  | n, 0, _, _ => bf_irrefl _
  | 0, k + 1, hn, _ => by omega
  | n + 1, k + 1, hn, hk => by
    have h1 := h (k + 1) (by omega) hk (Nat.zero_le _)
    have h2 := heap_top h n ((k + 1 - 1) / 2) (by omega) (by omega)
    exact nb_trans h2 h1

theorem hget_mem {L : List It} {i : Nat} (h : i < L.length) : hget L i ∈ L := by
  unfold hget
  rw [List.getD_eq_getElem?_getD, List.getElem?_eq_getElem h]
  exact List.getElem_mem h

theorem hget_some {L : List It} {i : Nat} (h : i < L.length) : L[i]? = some (hget L i) := by
  unfold hget
  rw [List.getD_eq_getElem?_getD, List.getElem?_eq_getElem h]
  rfl

theorem hget_of {L : List It} {i : Nat} {x : It} (h : L[i]? = some x) : hget L i = x := by
  unfold hget
  rw [List.getD_eq_getElem?_getD, h]
  rfl

/-- What stands at the top is the last of all in order. -/
theorem heap_last {L S : List It} (h : HeapFrom 0 L) (hp : L.Perm S) (hs : Srt S) (h0 : 0 < L.length) : S.getLast? = some (hget L 0) := by
  have hl := hp.length_eq
  have hne : S ≠ [] := fun e => by rw [e, List.length_nil] at hl; omega
  rw [List.getLast?_eq_some_getLast hne]
  congr 1
  have hm : S.getLast hne ∈ L := hp.mem_iff.2 (List.getLast_mem hne)
  obtain ⟨i, hi, he⟩ := List.mem_iff_getElem.1 hm
  have hnb := heap_top h i i (Nat.le_refl _) hi
  rw [hget_of (List.getElem?_eq_some_iff.2 ⟨hi, he⟩)] at hnb
  have hm0 : hget L 0 ∈ S := hp.mem_iff.1 (hget_mem h0)
  obtain ⟨j, hj, hej⟩ := List.mem_iff_getElem.1 hm0
  by_cases e : j = S.length - 1
  · rw [List.getLast_eq_getElem, ← hej]
    congr 1
    exact e.symm
  · have := List.pairwise_iff_getElem.1 hs j (S.length - 1) hj (by omega) (by omega)
    rw [hej, ← List.getLast_eq_getElem hne] at this
    rw [this] at hnb
    cases hnb

/-- Two items change places. -/
def sw (L : List It) (i j : Nat) : List It := (L.set i (hget L j)).set j (hget L i)

theorem sw_length (L : List It) (i j : Nat) : (sw L i j).length = L.length := by simp [sw]

theorem sw_get {L : List It} {i j k : Nat} (hi : i < L.length) (hj : j < L.length) (hk : k < L.length) : hget (sw L i j) k = if k = j then hget L i else if k = i then hget L j else hget L k := by
  have e : (sw L i j)[k]? = some (if k = j then hget L i else if k = i then hget L j else hget L k) := by
    unfold sw
    rw [List.getElem?_set, List.getElem?_set]
    by_cases h1 : j = k
    · subst h1
      simp [hj]
    · rw [if_neg h1, if_neg (show ¬ k = j from fun e => h1 e.symm)]
      by_cases h2 : i = k
      · subst h2
        simp [hi]
      · rw [if_neg h2, if_neg (show ¬ k = i from fun e => h2 e.symm)]
        exact hget_some hk
  exact hget_of e

theorem sw_perm {L : List It} {i j : Nat} (hi : i < L.length) (hj : j < L.length) : (sw L i j).Perm L := by
  unfold sw
  have h1 : hget L i = L[i] := hget_of (List.getElem?_eq_getElem hi)
  have h2 : hget L j = L[j] := hget_of (List.getElem?_eq_getElem hj)
  rw [h1, h2]
  exact List.set_set_perm hi hj

/-- A heap, but that j may come behind its parent. -/
def UpInv (L : List It) (j : Nat) : Prop :=
  (∀ k, 0 < k → k < L.length → k ≠ j → bf (hget L ((k - 1) / 2)) (hget L k) = false) ∧
  (∀ k, 0 < k → k < L.length → (k - 1) / 2 = j → 0 < j → bf (hget L ((j - 1) / 2)) (hget L k) = false)

theorem up_done {L : List It} {j : Nat} (h : UpInv L j) (hj : j < L.length) (hd : j = 0 ∨ bf (hget L ((j - 1) / 2)) (hget L j) = false) : HeapFrom 0 L := by
  intro k hk hl _
  by_cases e : k = j
  · subst e
    rcases hd with hd | hd
    · omega
    · exact hd
  · exact h.1 k hk hl e

theorem up_step {L : List It} {j : Nat} (h : UpInv L j) (h0 : 0 < j) (hj : j < L.length) (hb : bf (hget L ((j - 1) / 2)) (hget L j) = true) : UpInv (sw L ((j - 1) / 2) j) ((j - 1) / 2) := by
  have hp : (j - 1) / 2 < j := by omega
  have hpl : (j - 1) / 2 < L.length := by omega
  generalize hpd : (j - 1) / 2 = p at *
  have g := fun k (hk : k < L.length) => sw_get (k := k) hpl hj hk
  refine ⟨fun k hk hl hne => ?_, fun k hk hl hpar hp0 => ?_⟩
  · rw [sw_length] at hl
    rw [g k hl, g _ (by omega)]
    by_cases e1 : k = j
    · subst e1
      rw [if_pos rfl, hpd, if_neg (by omega), if_pos rfl]
      exact bf_asymm hb
    · rw [if_neg e1, if_neg hne]
      by_cases e2 : (k - 1) / 2 = j
      · rw [if_pos e2]
        have := h.2 k hk hl e2 h0
        rwa [hpd] at this
      · rw [if_neg e2]
        by_cases e3 : (k - 1) / 2 = p
        · rw [if_pos e3]
          have := h.1 k hk hl e1
          rw [e3] at this
          exact nb_trans (bf_asymm hb) this
        · rw [if_neg e3]
          exact h.1 k hk hl e1
  · rw [sw_length] at hl
    have hpp : (p - 1) / 2 < p := by omega
    rw [g k hl, g _ (by omega), if_neg (show ¬ (p - 1) / 2 = j by omega), if_neg (show ¬ (p - 1) / 2 = p by omega)]
    have hpar2 := h.1 p hp0 hpl (by omega)
    by_cases e1 : k = j
    · rw [if_pos e1]
      exact hpar2
    · rw [if_neg e1, if_neg (show ¬ k = p by omega)]
      have := h.1 k hk hl e1
      rw [hpar] at this
      exact nb_trans hpar2 this

/-- A heap from lo on, but that i may be ahead of its children. -/
def DownInv (lo : Nat) (L : List It) (i : Nat) : Prop :=
  (∀ k, 0 < k → k < L.length → lo ≤ (k - 1) / 2 → (k - 1) / 2 ≠ i → bf (hget L ((k - 1) / 2)) (hget L k) = false) ∧
  (∀ k, 0 < k → k < L.length → (k - 1) / 2 = i → 0 < i → lo ≤ (i - 1) / 2 → bf (hget L ((i - 1) / 2)) (hget L k) = false)

theorem down_start {L : List It} {i : Nat} (h : HeapFrom (i + 1) L) : DownInv i L i :=
  ⟨fun k hk hl hlo hne => h k hk hl (by omega), fun k _ _ _ h0 hlo => by omega⟩

theorem down_done {lo : Nat} {L : List It} {i : Nat} (h : DownInv lo L i) (hd : ∀ k, 0 < k → k < L.length → (k - 1) / 2 = i → bf (hget L i) (hget L k) = false) : HeapFrom lo L := by
  intro k hk hl hlo
  by_cases e : (k - 1) / 2 = i
  · rw [e]; exact hd k hk hl e
  · exact h.1 k hk hl hlo e

theorem down_step {lo : Nat} {L : List It} {i j : Nat} (h : DownInv lo L i) (hj : j < L.length) (hi : (j - 1) / 2 = i) (h0 : 0 < j) (hlo : lo ≤ i) (hb : bf (hget L i) (hget L j) = true)
    (hsib : ∀ k, 0 < k → k < L.length → (k - 1) / 2 = i → bf (hget L j) (hget L k) = false) : DownInv lo (sw L i j) j := by
  have hij : i < j := by omega
  have hil : i < L.length := by omega
  have g := fun k (hk : k < L.length) => sw_get (k := k) hil hj hk
  refine ⟨fun k hk hl hlok hne => ?_, fun k hk hl hpar _ hlo2 => ?_⟩
  · rw [sw_length] at hl
    rw [g k hl, g _ (by omega), if_neg hne]
    by_cases e1 : (k - 1) / 2 = i
    · rw [if_pos e1]
      by_cases e2 : k = j
      · rw [if_pos e2]
        exact bf_asymm hb
      · rw [if_neg e2, if_neg (show ¬ k = i by omega)]
        exact hsib k hk hl e1
    · rw [if_neg e1]
      by_cases e2 : k = j
      · exact absurd (e2 ▸ hi) e1
      · rw [if_neg e2]
        by_cases e3 : k = i
        · rw [if_pos e3]
          subst e3
          exact h.2 j h0 hj hi hk hlok
        · rw [if_neg e3]
          exact h.1 k hk hl hlok e1
  · rw [sw_length] at hl
    rw [hi, g k hl, g i hil, if_neg (show ¬ i = j by omega), if_pos rfl, if_neg (show ¬ k = j by omega), if_neg (show ¬ k = i by omega)]
    have := h.1 k hk hl (by omega) (by omega)
    rw [hpar] at this
    exact this

end Go.Proofs.Ytjadpjbiiidioaa.Pool
