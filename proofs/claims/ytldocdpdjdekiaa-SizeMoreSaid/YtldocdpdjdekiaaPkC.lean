/- Texts that the proof needs, joined: PoolA, HeadP, MapG, TreeP, TableP, GateP, Nums, VsTree, TreeW, TreeX, BoxP, TwoApp, TreeN, VsWeigh, WeighW, LessW, VsRank, RankW, SumQ, VsNext, NextW, ApplyW, VsTable, TableW, VsTableN, TableN, TableX, BitA, BitB, WireP, WireQ, WireR, VsPool, PoolB, PoolC, PoolD, PoolE, PoolF, PoolM, PoolN, WireA, WireS, WireT, WireU, WireV, VsWaitA, WaitA, PeersA, ShelfP, PeersB, VsPeers, PeersC, PeersD, VsClock, ClockA, PartW, VsGen, GenW, GenX, VsGateN, GateW, GateN. -/
import Derived.Shelf.SlIterI.Nil
import Derived.Shelf.SortM.Plain
import Derived.Shelf.SortM.SortNone
import Derived.Ground.GgzProg
import Derived.Ground.SlgmProg
import Derived.Test.YtldocdpdjdekiaaProg
import Derived.Test.YtldocdpdjdekiaaPkB

section
/- Items: their order, rows in order, heaps; plain lists, no program in sight. -/
namespace Go.Proofs.Ytldocdpdjdekiaa.Pool
open Go Go.Vc

instance decBs {n : Nat} : DecidableEq (Bs n) := fun a b => decidable_of_iff (a.l = b.l) ⟨fun e => Bs.ext' e, fun e => by rw [e]⟩

structure It where
  slot : Int
  root : Bs 32
  peer : Int
  fr : Bs 32
  text : List UInt8

def It.tv (x : It) : TV := .agg [.int .i64 x.slot, .bytes 32 x.root, .int .i64 x.peer, .bytes 32 x.fr, .str x.text]
def It.zero : It := ⟨0, Bs.zero 32, 0, Bs.zero 32, []⟩
instance : Inhabited It := ⟨It.zero⟩

theorem It.size (x : It) : x.tv.size = 67 := rfl
theorem It.plain (x : It) : x.tv.plain = true := rfl

/-! ### Names in order -/

theorem less_irrefl : ∀ a : List UInt8, Op.bytesLess a a = false
  | [] => rfl
  | x :: xs => by simp [Op.bytesLess, less_irrefl xs, UInt8.lt_irrefl]

theorem less_trans : ∀ a b c : List UInt8, Op.bytesLess a b = true → Op.bytesLess b c = true → Op.bytesLess a c = true
  | [], [], _, h, _ => by cases h
  | _ :: _, [], _, h, _ => by cases h
  | _, _ :: _, [], _, k => by cases k
  | [], _ :: _, _ :: _, _, _ => rfl
  | x :: xs, y :: ys, z :: zs, h, k => by
    simp only [Op.bytesLess, Bool.or_eq_true, Bool.and_eq_true, decide_eq_true_eq, beq_iff_eq] at h k ⊢
    rw [UInt8.lt_iff_toNat_lt] at h k ⊢
    rcases h with h | ⟨h, h1⟩
    · rcases k with k | ⟨k, k1⟩
      · left; omega
      · left; rw [← k]; exact h
    · rcases k with k | ⟨k, k1⟩
      · left; rw [h]; exact k
      · right; exact ⟨h.trans k, less_trans xs ys zs h1 k1⟩

theorem less_total : ∀ a b : List UInt8, a ≠ b → Op.bytesLess a b = true ∨ Op.bytesLess b a = true
  | [], [], h => absurd rfl h
  | [], y :: ys, _ => .inl rfl
  | x :: xs, [], _ => .inr rfl
  | x :: xs, y :: ys, h => by
    simp only [Op.bytesLess, Bool.or_eq_true, Bool.and_eq_true, decide_eq_true_eq, beq_iff_eq]
    rw [UInt8.lt_iff_toNat_lt, UInt8.lt_iff_toNat_lt]
    by_cases e : x = y
    · subst e
      rcases less_total xs ys (fun hx => h (by rw [hx])) with h1 | h1
      · exact .inl (.inr ⟨rfl, h1⟩)
      · exact .inr (.inr ⟨rfl, h1⟩)
    · have : x.toNat ≠ y.toNat := fun hx => e (UInt8.toNat_inj.1 hx)
      rcases Nat.lt_or_ge x.toNat y.toNat with h1 | h1
      · exact .inl (.inl h1)
      · exact .inr (.inl (by omega))

/-! ### Items in order -/

/-- An item comes ahead of another one. -/
def bf (x y : It) : Bool := decide (x.slot < y.slot) || (decide (x.slot = y.slot) && Op.bytesLess x.root.l y.root.l)

/-! ### Rows in order -/

def Srt (S : List It) : Prop := S.Pairwise fun x y => bf x y = true

/-! ### Heaps: the one that comes last at the top -/

def hget (L : List It) (i : Nat) : It := L.getD i It.zero

/-- No parent from lo on is ahead of its child. -/
def HeapFrom (lo : Nat) (L : List It) : Prop := ∀ k, 0 < k → k < L.length → lo ≤ (k - 1) / 2 → bf (hget L ((k - 1) / 2)) (hget L k) = false

end Go.Proofs.Ytldocdpdjdekiaa.Pool
end

section
/- Trees of numbers, plain: the best child, the head; how the program reckons them. -/
namespace Go.Proofs.Ytldocdpdjdekiaa.Gate
open Go Go.Vc

open Pool (less_irrefl less_trans less_total)

section
variable {n : Nat} {par : Nat → Nat} {s : Nat → Int} {r : Nat → List UInt8}

theorem ahd_iff {x y : Nat} : ahd s r x y = true ↔ s y < s x ∨ (s x = s y ∧ Op.bytesLess (r y) (r x) = true) := by
  simp [ahd]

theorem ahd_trans {x y z : Nat} (h1 : ahd s r x y = true) (h2 : ahd s r y z = true) : ahd s r x z = true := by
  rw [ahd_iff] at *
  rcases h1 with h1 | ⟨h1, h1'⟩ <;> rcases h2 with h2 | ⟨h2, h2'⟩
  · left; omega
  · left; omega
  · left; omega
  · right; exact ⟨by omega, less_trans _ _ _ h2' h1'⟩

theorem ahd_asymm {x y : Nat} (h1 : ahd s r x y = true) : ahd s r y x = false := by
  cases h : ahd s r y x with
  | false => rfl
  | true =>
    have := ahd_trans h1 h
    rw [ahd_iff] at this
    rcases this with h | ⟨_, h⟩
    · omega
    · rw [less_irrefl] at h; cases h

theorem ahd_total {x y : Nat} (h : r x ≠ r y) : ahd s r x y = true ∨ ahd s r y x = true := by
  simp only [ahd_iff]
  rcases Int.lt_trichotomy (s x) (s y) with h1 | h1 | h1
  · exact .inr (.inl h1)
  · rcases less_total _ _ h with h2 | h2
    · exact .inr (.inr ⟨h1.symm, h2⟩)
    · exact .inl (.inr ⟨h1, h2⟩)
  · exact .inl (.inl h1)

theorem best_step {l : List Nat} {b : Option Nat} {x : Nat} (B : IsBest s r l b) (hx : ∀ y ∈ l, r x ≠ r y) : IsBest s r (l ++ [x]) (bestStep s r b x) := by
  cases b with
  | none =>
    have hl : l = [] := B
    subst hl
    exact ⟨by simp, fun y hy hn => by simp at hy; exact absurd hy hn⟩
  | some b =>
    obtain ⟨h1, h2⟩ := B
    unfold bestStep
    simp only
    split
    · rename_i h
      refine ⟨by simp, fun y hy hn => ?_⟩
      rcases List.mem_append.1 hy with hy | hy
      · by_cases hyb : y = b
        · rw [hyb]; exact h
        · exact ahd_trans h (h2 y hy hyb)
      · exact absurd (List.mem_singleton.1 hy) hn
    · rename_i h
      refine ⟨List.mem_append_left _ h1, fun y hy hn => ?_⟩
      rcases List.mem_append.1 hy with hy | hy
      · exact h2 y hy hn
      · rw [List.mem_singleton.1 hy] at hn ⊢
        exact (ahd_total (hx b h1)).resolve_left h

theorem best_unique {l l' : List Nat} {b b' : Option Nat} (hl : ∀ x, x ∈ l ↔ x ∈ l') (B : IsBest s r l b) (B' : IsBest s r l' b') : b = b' := by
  cases b with
  | none =>
    cases b' with
    | none => rfl
    | some x => have := (hl x).2 B'.1; rw [show l = [] from B] at this; cases this
  | some x =>
    cases b' with
    | none => have := (hl x).1 B.1; rw [show l' = [] from B'] at this; cases this
    | some y =>
      by_cases h : x = y
      · rw [h]
      · exfalso
        have h1 := B.2 y ((hl y).2 B'.1) (fun e => h e.symm)
        have h2 := B'.2 x ((hl x).1 B.1) h
        rw [ahd_asymm h1] at h2
        cases h2

/-- Names that tell places apart. -/
def Names (n : Nat) (r : Nat → List UInt8) : Prop := ∀ i j, i < n → j < n → r i = r j → i = j

theorem best_fold (hr : Names n r) : ∀ (l k : List Nat), (k ++ l).Nodup → (∀ x ∈ k ++ l, x < n) → ∀ b, IsBest s r k b → IsBest s r (k ++ l) (l.foldl (bestStep s r) b)
  | [], k, _, _, b, B => by simpa using B
  | x :: l, k, hn, hlt, b, B => by
    have hx : ∀ y ∈ k, r x ≠ r y := fun y hy he => by
      have hxy := hr x y (hlt x (by simp)) (hlt y (by simp [hy])) he
      have := (List.nodup_append.1 hn).2.2 y hy x (List.mem_cons_self ..)
      exact this hxy.symm
    have := best_fold hr l (k ++ [x]) (by simpa using hn) (by simpa using hlt) _ (best_step B hx)
    simpa using this

theorem bestL_is (hr : Names n r) {l : List Nat} (hn : l.Nodup) (hlt : ∀ x ∈ l, x < n) : IsBest s r l (bestL s r l) :=
  best_fold hr l [] hn hlt none rfl

/-- A place's best child. -/
def bestK (n : Nat) (par : Nat → Nat) (s : Nat → Int) (r : Nat → List UInt8) (k : Nat) : Option Nat := bestL s r (kids n par k)

theorem bestK_is (hr : Names n r) (k : Nat) : IsBest s r (kids n par k) (bestK n par s r k) := bestL_is hr (kids_nodup k) fun _ hx => (mem_kids.1 hx).2.1

theorem bestK_up (up : Up n par) (hr : Names n r) {k b : Nat} (h : bestK n par s r k = some b) : k < b ∧ b < n ∧ par b = k := by
  have := bestK_is (par := par) (s := s) hr k
  rw [h] at this
  obtain ⟨h0, h1, h2⟩ := mem_kids.1 this.1
  have := up b h0 h1
  omega

/-- From a place always the best child. -/
def headP (n : Nat) (par : Nat → Nat) (s : Nat → Int) (r : Nat → List UInt8) : Nat → Nat → Nat
  | 0, k => k
  | f + 1, k => match bestK n par s r k with
    | none => k
    | some b => headP n par s r f b

theorem head_fuel (up : Up n par) (hr : Names n r) : ∀ f g k, n - k ≤ f + 1 → n - k ≤ g + 1 → k < n → headP n par s r f k = headP n par s r g k
  | 0, 0, _, _, _, _ => rfl
  | 0, g + 1, k, h, _, hk => by
    have hb : bestK n par s r k = none := by
      cases hb : bestK n par s r k with
      | none => rfl
      | some b => have := bestK_up up hr hb; omega
    simp only [headP, hb]
  | f + 1, 0, k, _, h, hk => by
    have hb : bestK n par s r k = none := by
      cases hb : bestK n par s r k with
      | none => rfl
      | some b => have := bestK_up up hr hb; omega
    simp only [headP, hb]
  | f + 1, g + 1, k, hf, hg, hk => by
    unfold headP
    cases hb : bestK n par s r k with
    | none => rfl
    | some b =>
      have := bestK_up up hr hb
      exact head_fuel up hr f g b (by omega) (by omega) this.2.1

def leafP (n : Nat) (par : Nat → Nat) (s : Nat → Int) (r : Nat → List UInt8) (k : Nat) : Nat := headP n par s r n k

theorem leaf_step (up : Up n par) (hr : Names n r) {k : Nat} (hk : k < n) : leafP n par s r k = match bestK n par s r k with
    | none => k
    | some b => leafP n par s r b := by
  unfold leafP
  obtain ⟨m, rfl⟩ : ∃ m, n = m + 1 := ⟨n - 1, by omega⟩
  conv => lhs; unfold headP
  cases hb : bestK (m + 1) par s r k with
  | none => rfl
  | some b =>
    have := bestK_up up hr hb
    exact head_fuel up hr m (m + 1) b (by omega) (by omega) this.2.1

/-! ### How the program ranks: from the last place on -/

/-- The kids of a place from i on. -/
def kidsFrom (n : Nat) (par : Nat → Nat) (k i : Nat) : List Nat := (kids n par k).filter fun x => decide (i ≤ x)

theorem mem_kidsFrom {k i x : Nat} : x ∈ kidsFrom n par k i ↔ x ∈ kids n par k ∧ i ≤ x := by
  simp [kidsFrom]

/-- The best children so far, when the places from i on were looked at. -/
def Ranked (n : Nat) (par : Nat → Nat) (s : Nat → Int) (r : Nat → List UInt8) (i : Nat) (best : Nat → Option Nat) : Prop := ∀ k, k < n → IsBest s r (kidsFrom n par k i) (best k)

theorem ranked_end (best : Nat → Option Nat) (h : ∀ k, best k = none) : Ranked n par s r n best := fun k _ => by
  rw [h k]
  show kidsFrom n par k n = []
  refine List.eq_nil_iff_forall_not_mem.2 fun x hx => ?_
  have := mem_kidsFrom.1 hx
  have := (mem_kids.1 this.1).2.1
  omega

theorem isBest_congr {l l' : List Nat} {b : Option Nat} (hl : ∀ x, x ∈ l ↔ x ∈ l') (B : IsBest s r l b) : IsBest s r l' b := by
  cases b with
  | none =>
    have hb : l = [] := B
    refine List.eq_nil_iff_forall_not_mem.2 fun x hx => ?_
    have := (hl x).2 hx
    rw [hb] at this
    cases this
  | some b => exact ⟨(hl b).1 B.1, fun x hx => B.2 x ((hl x).2 hx)⟩

theorem ranked_step (hr : Names n r) {i : Nat} {best : Nat → Option Nat} (hi : i < n) (h0 : 0 < i) (B : Ranked n par s r (i + 1) best) :
    Ranked n par s r i fun k => if k = par i then bestStep s r (best k) i else best k := fun k hk => by
  dsimp only
  have B := B k hk
  by_cases hp : k = par i
  · rw [if_pos hp]
    refine isBest_congr (fun x => ?_) (best_step (x := i) B fun y hy he => ?_)
    · simp only [List.mem_append, mem_kidsFrom, List.mem_singleton, mem_kids]
      constructor
      · rintro (⟨h1, h2⟩ | rfl)
        · exact ⟨h1, by omega⟩
        · exact ⟨⟨h0, hi, hp.symm⟩, Nat.le_refl _⟩
      · rintro ⟨h1, h2⟩
        by_cases hx : x = i
        · exact .inr hx
        · exact .inl ⟨h1, by omega⟩
    · obtain ⟨h1, h2⟩ := mem_kidsFrom.1 hy
      have := hr i y hi (mem_kids.1 h1).2.1 he
      omega
  · rw [if_neg hp]
    refine isBest_congr (fun x => ?_) B
    simp only [mem_kidsFrom, mem_kids]
    constructor
    · rintro ⟨h1, h2⟩; exact ⟨h1, by omega⟩
    · rintro ⟨h1, h2⟩
      refine ⟨h1, ?_⟩
      have : x ≠ i := fun e => hp (by rw [← e]; exact h1.2.2.symm)
      omega

theorem ranked_all (hr : Names n r) {i : Nat} (hi : i ≤ 1) {best : Nat → Option Nat} (B : Ranked n par s r i best) {k : Nat} (hk : k < n) : best k = bestK n par s r k := by
  refine best_unique (fun x => ?_) (B k hk) (bestK_is hr k)
  simp only [mem_kidsFrom, mem_kids]
  constructor
  · exact fun h => h.1
  · exact fun h => ⟨h, by omega⟩

end
end Go.Proofs.Ytldocdpdjdekiaa.Gate
end

section
/- Maps in memory, whatever their keys and values are: what is found, laid, struck. -/
namespace Go.Vc
open Go

section
variable {K V : Type} [DecidableEq K]

def getL (k : K) : List (K × V) → Option V
  | [] => none
  | e :: es => if k = e.1 then some e.2 else getL k es
def putL (k : K) (v : V) : List (K × V) → List (K × V)
  | [] => [(k, v)]
  | e :: es => if k = e.1 then (e.1, v) :: es else e :: putL k v es

/-- How keys and values lie in a map. -/
structure Emb (C : Ctx) (d : TypeDesc) (κ : K → TV) : Prop where
  eq : ∀ a b, keyEq (κ a) (κ b) = decide (a = b)
  like : ∀ a, keyLike C d (κ a) = true

def encG (κ : K → TV) (ν : V → TV) (es : List (K × V × Nat)) : List (TV × TV × Nat) := es.map fun e => (κ e.1, ν e.2.1, e.2.2)
def absG (es : List (K × V × Nat)) : List (K × V) := es.map fun e => (e.1, e.2.1)
def StampsG (es : List (K × V × Nat)) (c : Nat) : Prop := (∀ e ∈ es, e.2.2 < c) ∧ (es.map (·.2.2)).Nodup

/-- A map in memory. -/
def MapG (κ : K → TV) (ν : V → TV) (h : Heap) (r : Nat) (L : List (K × V)) : Prop := ∃ es c, h[r]? = some (mapO (encG κ ν es) c) ∧ absG es = L ∧ StampsG es c

variable {κ : K → TV} {ν : V → TV} {C : Ctx} {d : TypeDesc} {h h' : Heap} {r : Nat} {L : List (K × V)}

omit [DecidableEq K] in
theorem MapG.ext (m : MapG κ ν h r L) (e : Ext h h') : MapG κ ν h' r L := by
  obtain ⟨es, c, h1, h2⟩ := m
  exact ⟨es, c, by rw [e.same r (Array.getElem?_eq_some_iff.1 h1).1, h1], h2⟩
omit [DecidableEq K] in
theorem MapG.only {S : Nat → Prop} (m : MapG κ ν h r L) (o : Only S h h') (hs : ¬ S r) : MapG κ ν h' r L := by
  obtain ⟨es, c, h1, h2⟩ := m
  exact ⟨es, c, by rw [o.same r (Array.getElem?_eq_some_iff.1 h1).1 hs, h1], h2⟩
omit [DecidableEq K] in
theorem MapG.lt (m : MapG κ ν h r L) : r < h.size := by
  obtain ⟨es, c, h1, h2⟩ := m
  exact (Array.getElem?_eq_some_iff.1 h1).1
omit [DecidableEq K] in
theorem MapG.new (h : Heap) : MapG κ ν (h.push (mapO [] 0)) h.size [] := ⟨[], 0, by simp [encG], rfl, (fun e he => by cases he), List.nodup_nil⟩
omit [DecidableEq K] in
theorem MapG.ne {T : TypeId} {b : Nat} {t : TV} (m : MapG κ ν h r L) (v : Var T h b t) : b ≠ r := by
  rintro rfl
  obtain ⟨es, c, h1, _⟩ := m
  unfold Var at v
  rw [h1] at v
  cases v

theorem like_encG (E : Emb C d κ) (es : List (K × V × Nat)) : AllLike C d (encG κ ν es) := by
  intro e he
  obtain ⟨x, _, rfl⟩ := List.mem_map.1 he
  exact E.like _

theorem find_encG (E : Emb C d κ) (k : K) : ∀ es : List (K × V × Nat), findE (κ k) (encG κ ν es) = (getL k (absG es)).map ν
  | [] => rfl
  | e :: es => by
    have ih := find_encG E k es
    unfold encG absG at ih ⊢
    simp only [List.map_cons, findE, getL, E.eq, decide_eq_true_eq]
    by_cases h : k = e.1
    · rw [if_pos h, if_pos h]; rfl
    · rw [if_neg h, if_neg h]; exact ih

theorem put_encG (E : Emb C d κ) (k : K) (v : V) {c : Nat} {es : List (K × V × Nat)} (hs : StampsG es c) :
    ∃ es', putE (κ k) (ν v) c (encG κ ν es) = encG κ ν es' ∧ absG es' = putL k v (absG es) ∧ StampsG es' (clockE (κ k) c (encG κ ν es)) := by
  have key : ∀ es : List (K × V × Nat), (∃ e', putE (κ k) (ν v) c (encG κ ν es) = encG κ ν e' ∧ absG e' = putL k v (absG es) ∧
      ((getL k (absG es) = none ∧ e'.map (·.2.2) = es.map (·.2.2) ++ [c]) ∨ (getL k (absG es) ≠ none ∧ e'.map (·.2.2) = es.map (·.2.2)))) := by
    intro es
    induction es with
    | nil => exact ⟨[(k, v, c)], rfl, rfl, .inl ⟨rfl, rfl⟩⟩
    | cons e es ih =>
      obtain ⟨e', h1, h2, h3⟩ := ih
      have d1 : encG κ ν (e :: es) = (κ e.1, ν e.2.1, e.2.2) :: encG κ ν es := rfl
      have d2 : absG (e :: es) = (e.1, e.2.1) :: absG es := rfl
      rw [d1, d2]
      simp only [putE, putL, getL, E.eq, decide_eq_true_eq]
      by_cases h : k = e.1
      · rw [if_pos h, if_pos h, if_pos h]
        exact ⟨(e.1, v, e.2.2) :: es, rfl, rfl, .inr ⟨by simp, rfl⟩⟩
      · rw [if_neg h, if_neg h, if_neg h, h1, ← h2]
        refine ⟨e :: e', rfl, rfl, ?_⟩
        rcases h3 with ⟨h3, h4⟩ | ⟨h3, h4⟩
        · exact .inl ⟨h3, by simp [h4]⟩
        · exact .inr ⟨h3, by simp [h4]⟩
  obtain ⟨e', h1, h2, h3⟩ := key es
  refine ⟨e', h1, h2, ?_⟩
  have hc : clockE (κ k) c (encG κ ν es) = match getL k (absG es) with | some _ => c | none => c + 1 := by
    unfold clockE
    rw [find_encG E]
    cases getL k (absG es) <;> rfl
  rw [hc]
  have hmem : ∀ e ∈ e', e.2.2 ∈ e'.map (·.2.2) := fun e he => List.mem_map.2 ⟨e, he, rfl⟩
  have hold : ∀ x ∈ es.map (·.2.2), x < c := fun x hx => by
    obtain ⟨e, he, rfl⟩ := List.mem_map.1 hx
    exact hs.1 e he
  rcases h3 with ⟨h3, h4⟩ | ⟨h3, h4⟩
  · rw [h3]
    refine ⟨fun e he => ?_, ?_⟩
    · have := hmem e he
      rw [h4] at this
      rcases List.mem_append.1 this with h | h
      · exact Nat.lt_succ_of_lt (hold _ h)
      · rw [List.mem_singleton.1 h]; exact Nat.lt_succ_self _
    · rw [h4]
      refine List.nodup_append.2 ⟨hs.2, by simp, fun a ha b hb => ?_⟩
      rw [List.mem_singleton.1 hb]
      have := hold a ha
      omega
  · cases hg : getL k (absG es) with
    | none => exact absurd hg h3
    | some v =>
      refine ⟨fun e he => ?_, by rw [h4]; exact hs.2⟩
      have := hmem e he
      rw [h4] at this
      exact hold _ this

/-- A pair is laid into a map. -/
theorem MapG.put (E : Emb C d κ) (m : MapG κ ν h r L) (k : K) (v : V) {P : Heap → Prop} (hk : ∀ h1, MapG κ ν h1 r (putL k v L) → Only (· = r) h h1 → h1.size = h.size → P h1) :
    ∃ es c, h[r]? = some (mapO es c) ∧ AllLike C d es ∧ Bind (h.setIfInBounds r (mapO (putE (κ k) (ν v) c es) (clockE (κ k) c es))) P := by
  obtain ⟨es, c, hb, rfl, hs⟩ := m
  refine ⟨_, c, hb, like_encG E es, ?_⟩
  obtain ⟨es', h1, h2, h3⟩ := put_encG (ν := ν) E k v hs
  have hlt := (Array.getElem?_eq_some_iff.1 hb).1
  refine hk _ ⟨es', _, ?_, h2, h3⟩ ⟨by simp, fun b _ hn => ?_⟩ (by simp)
  · rw [h1, Array.getElem?_setIfInBounds, if_pos rfl, if_pos hlt]
  · rw [Array.getElem?_setIfInBounds, if_neg (fun hx => hn hx.symm)]

omit [DecidableEq K] in
theorem MapG.len (m : MapG κ ν h r L) {P : Nat → Prop} (hp : P L.length) : ∃ es c, h[r]? = some (mapO es c) ∧ P es.length := by
  obtain ⟨es, c, hb, rfl, hs⟩ := m
  exact ⟨_, c, hb, by simpa [encG, absG] using hp⟩

end

/-! ### Lists of pairs -/
section
variable {K V : Type} [DecidableEq K] {L : List (K × V)}

def keysL (L : List (K × V)) : List K := L.map (·.1)

theorem getL_none {k : K} : getL k L = none ↔ k ∉ keysL L := by
  induction L with
  | nil => simp [getL, keysL]
  | cons e es ih =>
    unfold getL
    by_cases h : k = e.1
    · rw [if_pos h]
      simp [keysL, h]
    · rw [if_neg h, ih]
      simp [keysL, h]

end
end Go.Vc
end

section
/- Blocks, each behind its parent, as a list. -/
namespace Go.Proofs.Ytldocdpdjdekiaa.Gate
open Go Go.Vc

/-- A block: its name, its slot, its parent's place. -/
structure Nd where
  root : Bs 32
  slot : Int
  par : Int
def Nd.tv (x : Nd) : TV := .agg [.bytes 32 x.root, .int .i64 x.slot, .int .i64 x.par]
def Nd.zero : Nd := ⟨Bs.zero 32, 0, -1⟩

theorem dec_bs {n : Nat} (a b : Bs n) : decide (a.l = b.l) = decide (a = b) := decide_eq_decide.2 ⟨Bs.ext', fun h => by rw [h]⟩

/-- A block's place. -/
def findR (r : Bs 32) : List Nd → Option Nat
  | [] => none
  | x :: l => if r = x.root then some 0 else (findR r l).map (· + 1)

/-- The places by names. -/
def locs (L : List Nd) (k : Nat) : List (Bs 32 × Int) := match L with
  | [] => []
  | x :: l => (x.root, (k : Int)) :: locs l (k + 1)

theorem find_at {i : Nat} {x : Nd} : ∀ {L : List Nd}, (L.map Nd.root).Nodup → L[i]? = some x → findR x.root L = some i
  | [], _, h => by simp at h
  | y :: l, hn, h => by
    obtain ⟨h1, h2⟩ := List.nodup_cons.1 hn
    unfold findR
    cases i with
    | zero =>
      have : y = x := by simpa using h
      rw [if_pos (by rw [this])]
    | succ j =>
      have hj : l[j]? = some x := by simpa using h
      have hne : x.root ≠ y.root := fun e => h1 (by rw [← e]; exact List.mem_map.2 ⟨x, List.mem_of_getElem? hj, rfl⟩)
      rw [if_neg hne, find_at h2 hj]
      rfl

/-- What holds of every tree's blocks. -/
structure TOk (L : List Nd) (most : Int) : Prop where
  ne : L ≠ []
  first : ∀ x, L[0]? = some x → x.par = -1
  up : ∀ (i : Nat) (x : Nd), L[i]? = some x → 0 < i → 0 ≤ x.par ∧ x.par < i
  nodup : (L.map Nd.root).Nodup
  slots : ∀ x ∈ L, 0 ≤ x.slot ∧ x.slot ≤ 1073741824
  later : ∀ (i : Nat) (x y : Nd), L[i]? = some x → 0 < i → L[x.par.toNat]? = some y → y.slot < x.slot
  len : (L.length : Int) ≤ most
  most : 1 ≤ most ∧ most ≤ 256

/-- The block at a place. -/
def nodeAt (L : List Nd) (i : Int) : Option Nd := if 0 ≤ i then L[i.toNat]? else none

theorem TOk.len1 {L : List Nd} {most : Int} (o : TOk L most) : 0 < L.length := List.length_pos_iff.2 o.ne

/-- Parents' places. -/
def parN (L : List Nd) (i : Nat) : Nat := ((L[i]?).map fun x => x.par.toNat).getD 0
def rootN (L : List Nd) (i : Nat) : List UInt8 := ((L[i]?).map fun x => x.root.l).getD []

theorem parN_at {L : List Nd} {i : Nat} {x : Nd} (h : L[i]? = some x) : parN L i = x.par.toNat := by unfold parN; rw [h]; rfl
theorem rootN_at {L : List Nd} {i : Nat} {x : Nd} (h : L[i]? = some x) : rootN L i = x.root.l := by unfold rootN; rw [h]; rfl

theorem TOk.tree {L : List Nd} {most : Int} (o : TOk L most) : Up L.length (parN L) := fun i h0 hi => by
  have hx : L[i]? = some L[i] := List.getElem?_eq_getElem hi
  have := o.up i _ hx h0
  rw [parN_at hx]
  omega

theorem TOk.names {L : List Nd} {most : Int} (o : TOk L most) : Names L.length (rootN L) := fun i j hi hj h => by
  have hx : L[i]? = some L[i] := List.getElem?_eq_getElem hi
  have hy : L[j]? = some L[j] := List.getElem?_eq_getElem hj
  rw [rootN_at hx, rootN_at hy] at h
  have h1 := find_at o.nodup hx
  have h2 := find_at o.nodup hy
  rw [Bs.ext' h, h2] at h1
  exact (Option.some.inj h1).symm

end Go.Proofs.Ytldocdpdjdekiaa.Gate
end

section
/- Validators' latest votes, and what blocks weigh by them, plain. -/
namespace Go.Proofs.Ytldocdpdjdekiaa.Gate
open Go Go.Vc

open Board (Vt)

/-- The latest votes, who doesn't count, and what was voted for first in an epoch. -/
structure Tb where
  slots : Int
  latest : List (Option Vt)
  out : List Bool
  first : List ((Int × Int) × Bs 32)

structure TbOk (t : Tb) (n : Nat) : Prop where
  slots : 1 ≤ t.slots ∧ t.slots ≤ 32
  nn : 1 ≤ n ∧ n ≤ 64
  llen : t.latest.length = n
  olen : t.out.length = n
  lat : ∀ (i : Nat) (v : Vt), t.latest[i]? = some (some v) → v.who = i ∧ 0 ≤ v.slot ∧ v.slot ≤ 1073741824
  one : (keysL t.first).Nodup
  fst : ∀ e ∈ t.first, 0 ≤ e.1.1 ∧ e.1.1 < n ∧ 0 ≤ e.1.2 ∧ e.1.2 ≤ 1073741824

def newTb (n : Nat) (slots : Int) : Tb := ⟨slots, List.replicate n none, List.replicate n false, []⟩

theorem newTb_ok {n : Nat} {slots : Int} (h : 1 ≤ slots ∧ slots ≤ 32) (hn : 1 ≤ n ∧ n ≤ 64) : TbOk (newTb n slots) n :=
  ⟨h, hn, by simp [newTb], by simp [newTb], fun i v hv => by
    have := List.mem_of_getElem? hv
    simp [newTb, List.mem_replicate] at this, List.nodup_nil, fun e he => by cases he⟩

def latestOf (t : Tb) (who : Int) : Option Vt := if 0 ≤ who then (t.latest.getD who.toNat none) else none
def outOf (t : Tb) (who : Int) : Bool := t.out.getD who.toNat false
def epochOf (t : Tb) (slot : Int) : Int := Int.tdiv slot t.slots

/-- What becomes of a vote: the code, and the table behind it. -/
def takeT (t : Tb) (v : Vt) : Int × Tb :=
  if ¬ (0 ≤ v.who ∧ v.who < t.latest.length ∧ 0 ≤ v.slot ∧ v.slot ≤ 1073741824) then (5, t)
  else if outOf t v.who = true then (4, t)
  else match getL (v.who, epochOf t v.slot) t.first with
    | some r => if r = v.target then (1, t) else (2, { t with out := t.out.set v.who.toNat true })
    | none => match latestOf t v.who with
      | some l => if epochOf t v.slot < epochOf t l.slot then (3, { t with first := t.first ++ [((v.who, epochOf t v.slot), v.target)] })
        else (0, { t with latest := t.latest.set v.who.toNat (some v), first := t.first ++ [((v.who, epochOf t v.slot), v.target)] })
      | none => (0, { t with latest := t.latest.set v.who.toNat (some v), first := t.first ++ [((v.who, epochOf t v.slot), v.target)] })

theorem epoch_le {t : Tb} {n : Nat} (o : TbOk t n) {s : Int} (h0 : 0 ≤ s) (h1 : s ≤ 1073741824) : 0 ≤ epochOf t s ∧ epochOf t s ≤ 1073741824 := by
  unfold epochOf
  have := o.slots
  rw [Int.tdiv_eq_ediv_of_nonneg h0]
  exact ⟨Int.ediv_nonneg h0 (by omega), Int.le_trans (Int.ediv_le_self _ h0) h1⟩

theorem first_more {t : Tb} {n : Nat} (o : TbOk t n) {k : Int × Int} {r : Bs 32} (hg : getL k t.first = none) : (keysL (t.first ++ [(k, r)])).Nodup := by
  have := getL_none.1 hg
  unfold keysL at this ⊢
  rw [List.map_append, List.nodup_append]
  refine ⟨o.one, by simp, fun a ha b hb => ?_⟩
  have : b = k := by simpa using hb
  rw [this]
  rintro rfl
  exact (getL_none.1 hg) ha

theorem TbOk.take {t : Tb} {n : Nat} (o : TbOk t n) (v : Vt) : TbOk (takeT t v).2 n := by
  unfold takeT
  split
  · exact o
  · rename_i h
    have h := Decidable.not_not.1 h
    have hl := o.llen
    have he := epoch_le o h.2.2.1 h.2.2.2
    have more : ∀ e ∈ t.first ++ [((v.who, epochOf t v.slot), v.target)], 0 ≤ e.1.1 ∧ e.1.1 < n ∧ 0 ≤ e.1.2 ∧ e.1.2 ≤ 1073741824 := fun e hm => by
      rcases List.mem_append.1 hm with hm | hm
      · exact o.fst e hm
      · rw [List.mem_singleton.1 hm]; exact ⟨h.1, by simp only; omega, he⟩
    have lat : ∀ (i : Nat) (x : Vt), (t.latest.set v.who.toNat (some v))[i]? = some (some x) → x.who = i ∧ 0 ≤ x.slot ∧ x.slot ≤ 1073741824 := fun i x hx => by
      rw [List.getElem?_set] at hx
      split at hx
      · rename_i hi
        split at hx
        · cases hx; exact ⟨by omega, h.2.2⟩
        · cases hx
      · exact o.lat i x hx
    split
    · exact o
    · split
      · split
        · exact o
        · exact ⟨o.slots, o.nn, o.llen, by simp [o.olen], o.lat, o.one, o.fst⟩
      · rename_i hg
        split
        · split
          · exact ⟨o.slots, o.nn, o.llen, o.olen, o.lat, first_more o hg, more⟩
          · exact ⟨o.slots, o.nn, by simp [o.llen], o.olen, lat, first_more o hg, more⟩
        · exact ⟨o.slots, o.nn, by simp [o.llen], o.olen, lat, first_more o hg, more⟩

/-! ### What votes weigh -/

def stakeN (st : List Int) (i : Nat) : Int := st.getD i 0

/-- What a validator's vote for a block weighs. -/
def stakeT (t : Tb) (st : List Int) (i : Nat) (r : Bs 32) : Int :=
  if t.out.getD i false = true then 0 else match t.latest.getD i none with
    | some v => if v.target = r then stakeN st i else 0
    | none => 0

/-- What all votes for a block weigh. -/
def allT (t : Tb) (st : List Int) (r : Bs 32) : Int := ((List.range st.length).map fun i => stakeT t st i r).sum

end Go.Proofs.Ytldocdpdjdekiaa.Gate
end

section
/- What a gate is, plain. -/
namespace Go.Proofs.Ytldocdpdjdekiaa.Gate
open Go Go.Vc
open Board (Vd Cf)
open Pool (It)

/-- A gate, but for its configuration. -/
structure St where
  N : List Nd
  tb : Tb
  kids : List It
  wait : List It
  sc : List (Int × Int)
  gone : Int
  now : Int
  left : Int

def stakes (V : List Vd) : List Int := V.map Vd.stake
/-- Own weights by place, from votes. -/
def ownOf (st : List Int) (t : Tb) (N : List Nd) (i : Nat) : Int := ((N[i]?).map fun x => allT t st x.root).getD 0

theorem allT_new (n : Nat) (sl : Int) (st : List Int) (r : Bs 32) : allT (newTb n sl) st r = 0 := by
  unfold allT
  have : ∀ i, stakeT (newTb n sl) st i r = 0 := fun i => by
    unfold stakeT newTb
    simp only [List.getD_eq_getElem?_getD, List.getElem?_replicate]
    by_cases hi : i < n
    · simp [hi]
    · simp [hi]
  simp only [this]
  generalize List.range st.length = l
  induction l with
  | nil => rfl
  | cons x xs ih => rw [List.map_cons, List.sum_cons, ih]; rfl

theorem ownOf_new (n : Nat) (sl : Int) (st : List Int) (N : List Nd) : ownOf st (newTb n sl) N = fun _ => 0 := by
  funext i
  unfold ownOf
  cases N[i]? with
  | none => rfl
  | some x => exact allT_new n sl st x.root

/-- A new gate. -/
def newSt (c : Cf) (V : List Vd) : St := ⟨[⟨rootC c V, 0, -1⟩], newTb V.length c.ep, [], [], [], 0, 0, 0⟩

theorem can_keys {c : Cf} {V : List Vd} (k : Can c V) : ∀ v ∈ V, 1 ≤ v.key.length ∧ v.key.length ≤ 32 := fun v hv => by
  obtain ⟨s, hs⟩ := k.tot
  have := (totF_ok (Int.le_refl 0) (by decide) hs).1 v hv
  unfold okV inB at this
  simp only [Bool.and_eq_true, decide_eq_true_eq] at this
  omega

end Go.Proofs.Ytldocdpdjdekiaa.Gate
end

section
/- Numbers of functions and types. -/
namespace Go.Proofs.Ytldocdpdjdekiaa
open Go
abbrev F.early_New : FuncId := 22
abbrev F.gate_Gate_Book : FuncId := 39
abbrev F.gate_Gate_Early : FuncId := 44
abbrev F.gate_Gate_Orphans : FuncId := 42
abbrev F.gate_Gate_Peers : FuncId := 45
abbrev F.gate_New : FuncId := 36
abbrev F.genesis_Bytes : FuncId := 128
abbrev F.genesis_Good : FuncId := 37
abbrev F.genesis_Root : FuncId := 104
abbrev F.genesis_Total : FuncId := 72
abbrev F.genesis_in : FuncId := 73
abbrev F.genesis_validator : FuncId := 108
abbrev F.orphans_New : FuncId := 31
abbrev F.peers_New : FuncId := 70
abbrev F.peers_Peers_Known : FuncId := 46
abbrev F.sha_Less : FuncId := 117
abbrev F.size_Bound : FuncId := 17
abbrev F.size_Most : FuncId := 15
abbrev F.size_Of : FuncId := 18
abbrev F.size_Parts_Total : FuncId := 12
abbrev F.size_Parts_Within : FuncId := 14
abbrev F.size_sum : FuncId := 75
abbrev F.table_New : FuncId := 106
abbrev F.table_Table_Marks : FuncId := 48
abbrev F.table_Table_Vote : FuncId := 49
abbrev F.table_Table_is : FuncId := 78
abbrev F.tollerlaw22_SizeIs : FuncId := 3
abbrev F.tollerlaw22_SizeMore : FuncId := 4
abbrev F.tollerlaw22_SizeWithin : FuncId := 5
abbrev F.tollerlaw22_alive : FuncId := 9
abbrev F.tollerlaw22_parts : FuncId := 11
abbrev F.tollerref05_Good : FuncId := 19
abbrev F.tollerref05_Total : FuncId := 51
abbrev F.tollerref22_Most : FuncId := 16
abbrev F.tollerref22_Total : FuncId := 13
abbrev F.tree_New : FuncId := 103
abbrev F.tree_Tree_Len : FuncId := 41
abbrev F.tree_Tree_Node : FuncId := 145
abbrev F.votes_Book_Table : FuncId := 47
abbrev F.votes_Book_Tree : FuncId := 40
abbrev F.votes_New : FuncId := 69
abbrev F.weigh_New : FuncId := 105
abbrev F.weigh_Weights_ahead : FuncId := 146
abbrev F.weigh_Weights_grow : FuncId := 129
abbrev F.weigh_Weights_rank : FuncId := 130
abbrev T.api_Validator : TypeId := 78
abbrev T.api_Vote : TypeId := 95
abbrev T.clock_Clock : TypeId := 189
abbrev T.early_Early : TypeId := 103
abbrev T.gate_Gate : TypeId := 137
abbrev T.gate_parts : TypeId := 133
abbrev T.orphans_Orphans : TypeId := 128
abbrev T.p_api_Vote : TypeId := 162
abbrev T.size_Parts : TypeId := 29
abbrev T.table_Table : TypeId := 160
abbrev T.tree_Node : TypeId := 219
abbrev T.tree_Tree : TypeId := 149
abbrev T.votes_Book : TypeId := 145
abbrev T.weigh_Weights : TypeId := 222
end Go.Proofs.Ytldocdpdjdekiaa
end

section
/- The conditions of functions, as the generator reckons them out, each with the proof that it is that. -/
namespace Go.Proofs.Ytldocdpdjdekiaa
open Go Go.Vc
set_option maxRecDepth 100000
set_option linter.unusedVariables false

def tree_Tree_Len_vc (t : Option Go.Vc.Loc) (h : Heap) (R : Value → Heap → Prop) : Prop := If (Option.isNone t) (R (TV.val (.int .i64 0)) h) (Nn t fun l ↦ ∃ (s : Sl), at1 h l.b l.o (slVal s) ∧ R (TV.val (.int .i64 (↑s.len : Int))) h)
theorem tree_Tree_Len_calls (t : Option Go.Vc.Loc) (h : Heap) (R : Value → Heap → Prop) (H : tree_Tree_Len_vc t h R) : CallsH Try.prog 41 (TVs.vals [.ptr t]) h R := via ctx_ok Try.func41 (by kernel_rfl) H

def tree_Tree_Node_vc (t : Option Go.Vc.Loc) (i : Int) (h : Heap) (R : Value → Heap → Prop) : Prop := Vc.Bind (newTV h (.agg [.bytes 32 (Bs.zero 32), .int .i64 0, .int .i64 0]) 219) fun h_1 ↦ If (Option.isNone t) (wok h_1 h.size 0 34 ∧ Vc.Bind (TV.put h_1 h.size 0 (.agg [.bytes 32 (Bs.zero 32), .int .i64 0, .int .i64 (-1)])) fun h_2 ↦ ∃ (b : Bs 32), ∃ (n n_1 : Int), (atBytes h_2 h.size 0 32 b ∧ at1 h_2 h.size 32 (.int .i64 n) ∧ at1 h_2 h.size 33 (.int .i64 n_1)) ∧ R (TV.val (.tup [.agg [.bytes 32 b, .int .i64 n, .int .i64 n_1], .bool false])) h_2) (If (decide (i < 0)) (wok h_1 h.size 0 34 ∧ Vc.Bind (TV.put h_1 h.size 0 (.agg [.bytes 32 (Bs.zero 32), .int .i64 0, .int .i64 (-1)])) fun h_2 ↦ ∃ (b : Bs 32), ∃ (n n_1 : Int), (atBytes h_2 h.size 0 32 b ∧ at1 h_2 h.size 32 (.int .i64 n) ∧ at1 h_2 h.size 33 (.int .i64 n_1)) ∧ R (TV.val (.tup [.agg [.bytes 32 b, .int .i64 n, .int .i64 n_1], .bool false])) h_2) (Nn t fun l ↦ ∃ (s : Sl), at1 h_1 l.b l.o (slVal s) ∧ If (decide ((↑s.len : Int) ≤ i)) (wok h_1 h.size 0 34 ∧ Vc.Bind (TV.put h_1 h.size 0 (.agg [.bytes 32 (Bs.zero 32), .int .i64 0, .int .i64 (-1)])) fun h_2 ↦ ∃ (b : Bs 32), ∃ (n n_1 : Int), (atBytes h_2 h.size 0 32 b ∧ at1 h_2 h.size 32 (.int .i64 n) ∧ at1 h_2 h.size 33 (.int .i64 n_1)) ∧ R (TV.val (.tup [.agg [.bytes 32 b, .int .i64 n, .int .i64 n_1], .bool false])) h_2) (Nn t fun l ↦ ∃ (s : Sl), at1 h_1 l.b l.o (slVal s) ∧ 0 ≤ i ∧ i < (↑s.len : Int) ∧ Nn s.a fun l ↦ ∃ (b : Bs 32), ∃ (n n_1 : Int), (atBytes h_1 l.b (l.o + Int.toNat i * 34) 32 b ∧ at1 h_1 l.b (l.o + Int.toNat i * 34 + 32) (.int .i64 n) ∧ at1 h_1 l.b (l.o + Int.toNat i * 34 + 32 + 1) (.int .i64 n_1)) ∧ wok h_1 h.size 0 34 ∧ Vc.Bind (TV.put h_1 h.size 0 (.agg [.bytes 32 b, .int .i64 n, .int .i64 n_1])) fun h_2 ↦ ∃ (b : Bs 32), ∃ (n n_2 : Int), (atBytes h_2 h.size 0 32 b ∧ at1 h_2 h.size 32 (.int .i64 n) ∧ at1 h_2 h.size 33 (.int .i64 n_2)) ∧ R (TV.val (.tup [.agg [.bytes 32 b, .int .i64 n, .int .i64 n_2], .bool true])) h_2)))
theorem tree_Tree_Node_calls (t : Option Go.Vc.Loc) (i : Int) (h : Heap) (R : Value → Heap → Prop) (H : tree_Tree_Node_vc t i h R) : CallsH Try.prog 145 (TVs.vals [.ptr t, .int .i64 i]) h R := via ctx_ok Try.func145 (by kernel_rfl) H

def tree_New_vc (root : Bs 32) (slot : Int) (most : Int) (h : Heap) (R : Value → Heap → Prop) : Prop := Vc.Bind (newTV h (.bytes 32 root) 50) fun h_1 ↦ Join (fun (s : Option Go.Vc.Loc × Int) (h_2 : Array Obj) ↦ ∃ (b : Bs 32), atBytes h_2 h.size 0 32 b ∧ ∃ (b_1 : Bs 32), atBytes h_2 h.size 0 32 b_1 ∧ (Ext h_2 (Array.push h_2 (row (TVs.cells [.agg [.bytes 32 b, .int .i64 slot, .int .i64 (-1)]]) 219)) ∧ Ext h_2 (Array.push (Array.push h_2 (row (TVs.cells [.agg [.bytes 32 b, .int .i64 slot, .int .i64 (-1)]]) 219)) (mapO [] 0)) ∧ ∃ (es : List (TV × TV × Nat)), ∃ (c : Nat), (Array.push (Array.push h_2 (row (TVs.cells [.agg [.bytes 32 b, .int .i64 slot, .int .i64 (-1)]]) 219)) (mapO [] 0))[Array.size (Array.push h_2 (row (TVs.cells [.agg [.bytes 32 b, .int .i64 slot, .int .i64 (-1)]]) 219))]? = some (mapO es c) ∧ AllLike Ytldocdpdjdekiaa.ctx (TypeDesc.array 32 5) es ∧ Vc.Bind (Array.setIfInBounds (Array.push (Array.push h_2 (row (TVs.cells [.agg [.bytes 32 b, .int .i64 slot, .int .i64 (-1)]]) 219)) (mapO [] 0)) (Array.size (Array.push h_2 (row (TVs.cells [.agg [.bytes 32 b, .int .i64 slot, .int .i64 (-1)]]) 219))) (mapO (putE (.bytes 32 b_1) (.int .i64 0) c es) (clockE (.bytes 32 b_1) c es))) fun h ↦ Ext h_2 h ∧ Vc.Bind (newTV h (.agg [.slice (Sl.mk (some (Loc.mk h_2.size 0)) 1 1), .map (some (Array.size (Array.push h_2 (row (TVs.cells [.agg [.bytes 32 b, .int .i64 slot, .int .i64 (-1)]]) 219)))), .int .i64 most]) 149) fun h_3 ↦ R (TV.val (.tup [.ptr (some (Loc.mk h.size 0)), .int .i64 0])) h_3) ∧ Ext h_2 (Array.push h_2 (mapO [] 0)) ∧ (Ext h_2 (Array.push (Array.push h_2 (mapO [] 0)) (row (TVs.cells [.agg [.bytes 32 b, .int .i64 slot, .int .i64 (-1)]]) 219)) ∧ ∃ (es : List (TV × TV × Nat)), ∃ (c : Nat), (Array.push (Array.push h_2 (mapO [] 0)) (row (TVs.cells [.agg [.bytes 32 b, .int .i64 slot, .int .i64 (-1)]]) 219))[h_2.size]? = some (mapO es c) ∧ AllLike Ytldocdpdjdekiaa.ctx (TypeDesc.array 32 5) es ∧ Vc.Bind (Array.setIfInBounds (Array.push (Array.push h_2 (mapO [] 0)) (row (TVs.cells [.agg [.bytes 32 b, .int .i64 slot, .int .i64 (-1)]]) 219)) h_2.size (mapO (putE (.bytes 32 b_1) (.int .i64 0) c es) (clockE (.bytes 32 b_1) c es))) fun h ↦ Ext h_2 h ∧ Vc.Bind (newTV h (.agg [.slice (Sl.mk (some (Loc.mk (Array.size (Array.push h_2 (mapO [] 0))) 0)) 1 1), .map (some h_2.size), .int .i64 most]) 149) fun h_3 ↦ R (TV.val (.tup [.ptr (some (Loc.mk h.size 0)), .int .i64 0])) h_3) ∧ ∃ (es : List (TV × TV × Nat)), ∃ (c : Nat), (Array.push h_2 (mapO [] 0))[h_2.size]? = some (mapO es c) ∧ AllLike Ytldocdpdjdekiaa.ctx (TypeDesc.array 32 5) es ∧ Vc.Bind (Array.setIfInBounds (Array.push h_2 (mapO [] 0)) h_2.size (mapO (putE (.bytes 32 b_1) (.int .i64 0) c es) (clockE (.bytes 32 b_1) c es))) fun h ↦ Ext h_2 h ∧ Ext h_2 (Array.push h (row (TVs.cells [.agg [.bytes 32 b, .int .i64 slot, .int .i64 (-1)]]) 219)) ∧ Vc.Bind (newTV (Array.push h (row (TVs.cells [.agg [.bytes 32 b, .int .i64 slot, .int .i64 (-1)]]) 219)) (.agg [.slice (Sl.mk (some (Loc.mk h.size 0)) 1 1), .map (some h_2.size), .int .i64 most]) 149) fun h_3 ↦ R (TV.val (.tup [.ptr (some (Loc.mk (Array.size (Array.push h (row (TVs.cells [.agg [.bytes 32 b, .int .i64 slot, .int .i64 (-1)]]) 219))) 0)), .int .i64 0])) h_3) fun (J : Option Go.Vc.Loc × Int → Array Obj → Prop) ↦ If (decide (most < 1)) (R (TV.val (.tup [.ptr none, .int .i64 1])) h_1) (If (decide (256 < most)) (R (TV.val (.tup [.ptr none, .int .i64 1])) h_1) (If (decide (slot < 0)) (R (TV.val (.tup [.ptr none, .int .i64 1])) h_1) (If (decide (1073741824 < slot)) (R (TV.val (.tup [.ptr none, .int .i64 1])) h_1) (J (none, 0) h_1))))
theorem tree_New_calls (root : Bs 32) (slot : Int) (most : Int) (h : Heap) (R : Value → Heap → Prop) (H : tree_New_vc root slot most h R) : CallsH Try.prog 103 (TVs.vals [.bytes 32 root, .int .i64 slot, .int .i64 most]) h R := via ctx_ok Try.func103 (by kernel_rfl) H

end Go.Proofs.Ytldocdpdjdekiaa
end

section
/- The program's tree, in memory. -/
namespace Go.Proofs.Ytldocdpdjdekiaa.Gate
open Go Go.Vc

abbrev kR (r : Bs 32) : TV := .bytes 32 r
abbrev vI (n : Int) : TV := .int .i64 n
abbrev nds (L : List Nd) : List TV := L.map Nd.tv

theorem u8_5 : (ctx.ti 5).d = some (.int .u8) := by kernel_rfl
theorem emb_r : Emb ctx (.array 32 5) kR := ⟨fun a b => by simp only [keyEq]; exact dec_bs a b, fun a => by simp [keyLike, u8_5, isU8]⟩

theorem Nd.size (x : Nd) : x.tv.size = 34 := by simp only [Nd.tv, TV.size, TVs.size]
theorem Nd.plain (x : Nd) : x.tv.plain = true := by simp only [Nd.tv, TV.plain, TVs.plain, Bool.and_self]
theorem nds_size (L : List Nd) : ∀ t ∈ nds L, t.size = 34 := fun t ht => by obtain ⟨x, _, rfl⟩ := List.mem_map.1 ht; exact x.size

section
variable {R : Value → Heap → Prop} {h h' : Heap} {b r : Nat} {A : Sl} {L : List Nd} {most : Int}

/-- A tree in memory. -/
structure TrP (h : Heap) (b r : Nat) (A : Sl) (L : List Nd) (most : Int) : Prop where
  var : Var T.tree_Tree h b (.agg [.slice A, .map (some r), .int .i64 most])
  own : Own T.tree_Node 34 h A (nds L)
  map : MapG kR vI h r (locs L 0)
  ok : TOk L most
  ne : ¬ In A b ∧ ¬ In A r

/-- Its blocks. -/
def TrMine (b r : Nat) (A : Sl) (i : Nat) : Prop := i = b ∨ i = r ∨ In A i

theorem TrP.only {S : Nat → Prop} (p : TrP h b r A L most) (o : Only S h h') (hs : ∀ i, TrMine b r A i → ¬ S i) : TrP h' b r A L most :=
  ⟨p.var.only o (hs b (.inl rfl)), p.own.only o fun l hl => hs l.b (.inr (.inr ⟨l, hl, rfl⟩)), p.map.only o (hs r (.inr (.inl rfl))), p.ok, p.ne⟩
theorem TrP.ext (p : TrP h b r A L most) (x : Ext h h') : TrP h' b r A L most := p.only (S := fun _ => False) (.of_ext x) fun _ _ hf => hf
theorem TrP.lt (p : TrP h b r A L most) {i : Nat} (hi : TrMine b r A i) : i < h.size := by
  rcases hi with rfl | rfl | ⟨l, hl, rfl⟩
  · exact p.var.lt
  · exact p.map.lt
  · exact p.own.lt l hl
theorem TrP.len (p : TrP h b r A L most) : L.length = A.len := by have := p.own.len; rwa [List.length_map] at this

theorem Len_spec (p : TrP h b r A L most) (hr : R (TV.int .i64 (L.length : Int)).val h) : CallsH Try.prog F.tree_Tree_Len (TVs.vals [.ptr (some ⟨b, 0⟩)]) h R := by
  apply tree_Tree_Len_calls
  refine If.no ⟨A, p.var.at1 rfl, ?_⟩
  rw [← p.len]
  exact hr

theorem Len_nil (hr : R (TV.int .i64 0).val h) : CallsH Try.prog F.tree_Tree_Len (TVs.vals [.ptr none]) h R := by
  apply tree_Tree_Len_calls
  exact If.yes hr

/-- The block at a place, or none. -/
def nodeR (L : List Nd) (i : Int) : Nd × Bool := match nodeAt L i with
  | some x => (x, true)
  | none => (Nd.zero, false)

theorem nd_at {T : TypeId} {b : Nat} {x : Nd} (v : Var T h b x.tv) {K : Bs 32 → Int → Int → Prop} (hk : K x.root x.slot x.par) :
    ∃ (k : Bs 32), ∃ (n m : Int), (atBytes h b 0 32 k ∧ at1 h b 32 (.int .i64 n) ∧ at1 h b 33 (.int .i64 m)) ∧ K k n m := ⟨_, _, _, v.at, hk⟩

theorem nil_node (b : Heap) {q : Nat} (x : Ext h b) (v : Var T.tree_Node b q (TV.agg [.bytes 32 (Bs.zero 32), .int .i64 0, .int .i64 0])) (hq : h.size ≤ q) (hr : ∀ h', Ext h h' → R (TV.tup [Nd.zero.tv, .bool false]).val h') :
    wok b q 0 34 ∧ Bind (TV.put b q 0 (.agg [.bytes 32 (Bs.zero 32), .int .i64 0, .int .i64 (-1)])) fun h_2 => ∃ (k : Bs 32), ∃ (n m : Int), (atBytes h_2 q 0 32 k ∧ at1 h_2 q 32 (.int .i64 n) ∧ at1 h_2 q 33 (.int .i64 m)) ∧ R (TV.val (.tup [.agg [.bytes 32 k, .int .i64 n, .int .i64 m], .bool false])) h_2 :=
  put_in v (t := Nd.zero.tv) rfl fun h2 v2 f2 _ => nd_at v2 (hr h2 (Only.cut x f2 fun i hi => by omega))

theorem Node_spec (p : TrP h b r A L most) {i : Int} (hr : ∀ h', Ext h h' → R (TV.tup [(nodeR L i).1.tv, .bool (nodeR L i).2]).val h') : CallsH Try.prog F.tree_Tree_Node (TVs.vals [.ptr (some ⟨b, 0⟩), .int .i64 i]) h R := by
  apply tree_Tree_Node_calls
  unfold tree_Tree_Node_vc
  have hl := p.len
  refine newTV_in fun h1 v1 x1 s1 => If.no (If.dec.2 ⟨fun hi => ?_, fun hi => ⟨A, (p.var.ext x1).at1 rfl, If.dec.2 ⟨fun hi2 => ?_, fun hi2 => ⟨A, (p.var.ext x1).at1 rfl, ?_⟩⟩⟩⟩)
  · refine nil_node h1 x1 v1 (Nat.le_refl _) fun h' x => ?_
    have := hr h' x
    unfold nodeR nodeAt at this
    rw [if_neg (by omega)] at this
    exact this
  · refine nil_node h1 x1 v1 (Nat.le_refl _) fun h' x => ?_
    have := hr h' x
    unfold nodeR nodeAt at this
    rw [if_pos (by omega), List.getElem?_eq_none (by omega)] at this
    exact this
  · refine (p.own.ext x1).elems.read (by omega) (by omega) fun l t ha hg hat => ?_
    rw [List.getElem?_map] at hg
    obtain ⟨x, hx, rfl⟩ := Option.map_eq_some_iff.1 hg
    refine ⟨x.root, x.slot, x.par, hat, put_in v1 (t := x.tv) rfl fun h2 v2 f2 _ => nd_at v2 ?_⟩
    have := hr h2 (Only.cut x1 f2 fun i hi => by omega)
    unfold nodeR nodeAt at this
    rw [if_pos (by omega), hx] at this
    exact this

end
end Go.Proofs.Ytldocdpdjdekiaa.Gate
end

section
/- The program's tree: a block more. -/
namespace Go.Vc
open Go

/-- What is written is of M; what is there behind it is of M, or new. -/
structure Step (M : Nat → Prop) (h : Heap) (M' : Nat → Prop) (h' : Heap) : Prop where
  only : Only M h h'
  new : ∀ i, M' i → M i ∨ h.size ≤ i

theorem Step.of_ext {M : Nat → Prop} {h h' : Heap} (x : Ext h h') : Step M h M h' := ⟨.of_ext x, fun _ hi => .inl hi⟩
theorem Step.trans {M M' M'' : Nat → Prop} {h h' h'' : Heap} (a : Step M h M' h') (b : Step M' h' M'' h'') : Step M h M'' h'' :=
  ⟨⟨Nat.le_trans a.only.size b.only.size, fun i hi hn => by
    rw [b.only.same i (Nat.lt_of_lt_of_le hi a.only.size) (fun hx => by rcases a.new i hx with h1 | h1; exact hn h1; omega), a.only.same i hi hn]⟩, fun i hi => by
    rcases b.new i hi with h1 | h1
    · exact a.new i h1
    · have := a.only.size; exact .inr (by omega)⟩
theorem Step.mono {M N M' : Nat → Prop} {h h' : Heap} (a : Step M h M' h') (hs : ∀ i, M i → N i) : Step N h M' h' := ⟨a.only.mono hs, fun i hi => (a.new i hi).imp (hs i) id⟩
/-- Local things of a call don't count. -/
theorem Step.cut {M M' : Nat → Prop} {h h1 h' : Heap} (x : Ext h h1) (a : Step M h1 M' h') : Step M h M' h' := (Step.of_ext x).trans a

end Go.Vc
namespace Go.Proofs.Ytldocdpdjdekiaa.Gate
open Go Go.Vc

section
variable {R : Value → Heap → Prop} {h h' : Heap} {b r : Nat} {A : Sl} {L : List Nd} {most : Int}

end
end Go.Proofs.Ytldocdpdjdekiaa.Gate
end

section
/- Parts of memory that have nothing in common. -/
namespace Go.Proofs.Ytldocdpdjdekiaa.Gate
open Go Go.Vc

structure Sep (h : Heap) (F : Nat → Nat → Prop) : Prop where
  dis : ∀ j k i, F j i → F k i → j = k
  lt : ∀ j i, F j i → i < h.size
def upd (F : Nat → Nat → Prop) (j : Nat) (S : Nat → Prop) : Nat → Nat → Prop := fun k => if k = j then S else F k
def All (F : Nat → Nat → Prop) (i : Nat) : Prop := ∃ k, F k i

section
variable {h h' : Heap} {F : Nat → Nat → Prop} {S S' : Nat → Prop} {j k : Nat}

theorem upd_same : upd F j S j = S := if_pos rfl
theorem upd_ne (hk : k ≠ j) : upd F j S k = F k := if_neg hk

theorem Sep.off (s : Sep h F) (hk : k ≠ j) : ∀ i, F k i → ¬ F j i := fun _ h1 h2 => hk (s.dis _ _ _ h1 h2)
theorem Sep.ext (s : Sep h F) (x : Ext h h') : Sep h' F := ⟨s.dis, fun j i hi => by have := s.lt j i hi; have := x.size; omega⟩
theorem Sep.step (s : Sep h F) (st : Step (F j) h S' h') (lt : ∀ i, S' i → i < h'.size) : Sep h' (upd F j S') := by
  have new : ∀ k i, k ≠ j → F k i → ¬ S' i := fun k i hk h1 h2 => by
    rcases st.new i h2 with h3 | h3
    · exact hk (s.dis _ _ _ h1 h3)
    · have := s.lt k i h1; omega
  refine ⟨fun a b i ha hb => ?_, fun a i ha => ?_⟩
  · by_cases e1 : a = j
    · by_cases e2 : b = j
      · rw [e1, e2]
      · rw [e1, upd_same] at ha
        rw [upd_ne e2] at hb
        exact absurd ha (new b i e2 hb)
    · by_cases e2 : b = j
      · rw [e2, upd_same] at hb
        rw [upd_ne e1] at ha
        exact absurd hb (new a i e1 ha)
      · rw [upd_ne e1] at ha
        rw [upd_ne e2] at hb
        exact s.dis _ _ _ ha hb
  · by_cases e1 : a = j
    · rw [e1, upd_same] at ha
      exact lt i ha
    · rw [upd_ne e1] at ha
      have := s.lt a i ha
      have := st.only.size
      omega

theorem Step.all (st : Step (F j) h S' h') : Step (All F) h (All (upd F j S')) h' :=
  ⟨st.only.mono fun i hi => ⟨j, hi⟩, fun i ⟨k, hk⟩ => by
    by_cases e : k = j
    · rw [e, upd_same] at hk
      exact (st.new i hk).imp (fun x => ⟨j, x⟩) id
    · rw [upd_ne e] at hk
      exact .inl ⟨k, hk⟩⟩

/-- Parts that were made one behind the other. -/
theorem Sep.made {lo : Nat → Nat} (hl : ∀ j i, F j i → lo j ≤ i ∧ i < lo (j + 1)) (mono : ∀ j, lo j ≤ lo (j + 1)) (top : ∀ j, lo j ≤ h.size) : Sep h F := by
  have up : ∀ a d, lo a ≤ lo (a + d) := fun a d => by
    induction d with
    | zero => exact Nat.le_refl _
    | succ d ih => exact Nat.le_trans ih (mono _)
  refine ⟨fun a b i ha hb => ?_, fun j i hi => by have := (hl j i hi).2; have := top (j + 1); omega⟩
  have h1 := hl a i ha
  have h2 := hl b i hb
  rcases Nat.lt_trichotomy a b with hlt | he | hlt
  · have := up (a + 1) (b - (a + 1))
    rw [show a + 1 + (b - (a + 1)) = b by omega] at this
    omega
  · exact he
  · have := up (b + 1) (a - (b + 1))
    rw [show b + 1 + (a - (b + 1)) = a by omega] at this
    omega

end
end Go.Proofs.Ytldocdpdjdekiaa.Gate
end

section
/- Two slices get one element more each, in whatever order. -/
namespace Go.Vc
open Go

section
variable {C : Ctx} {T : TypeId} {sz : Nat} {h h0 : Heap} {s1 s2 : Sl} {ts1 ts2 : List TV} {x y : TV} {K : Sl → Sl → Heap → Prop}

/-- One slice of its own gets what lies in a row of one. -/
theorem app_one {K : Sl → Heap → Prop} {q : Nat} (hsz : (C.ti T).size = sz) (hz : (C.ti T).z.size = sz) (hpos : 0 < (C.ti T).bytes) (hs0 : 0 < sz) (hb : (s1.len + 1) * (C.ti T).bytes ≤ 70368744177664)
    (o : Own T sz h s1 ts1) (v : h[q]? = some (row (TVs.cells [x]) T)) (hx : x.size = sz) (hp : x.plain = true)
    (hk : ∀ s' h', Own T sz h' s' (ts1 ++ [x]) → Only (In s1) h h' → (∀ i, In s' i → In s1 i ∨ h.size ≤ i) → K s' h') :
    ∃ new, slAt h (Sl.mk (some (Loc.mk q 0)) 1 1) sz new ∧ (∀ v ∈ new, isOne v = true) ∧ vcAppend C T s1 1 new h K := by
  have one : ∀ t ∈ [x], t.size = sz := fun t ht => by rw [List.mem_singleton.1 ht]; exact hx
  have onep : ∀ t ∈ [x], t.plain = true := fun t ht => by rw [List.mem_singleton.1 ht]; exact hp
  have e : Elems sz h (Sl.mk (some (Loc.mk q 0)) 1 1) [x] := by
    have : Own T sz h (Sl.mk (some (Loc.mk q 0)) 1 1) [x] := ⟨one, rfl, Nat.le_refl _, .inr ⟨q, [], rfl, by simpa using v, by simp⟩⟩
    exact this.elems
  exact appendN (s := Sl.mk (some (Loc.mk q 0)) 1 1) hsz hz hpos hs0 hb o e one onep fun t' h' o' _ f' n' => hk t' h' o' f' fun i ⟨l, hl, hi⟩ => by
    rcases n' l hl with ⟨l', h1, h2⟩ | h1
    · exact .inl ⟨l', h1, by omega⟩
    · exact .inr (by omega)

theorem two_app (hsz : (C.ti T).size = sz) (hz : (C.ti T).z.size = sz) (hpos : 0 < (C.ti T).bytes) (hs0 : 0 < sz) (hb1 : (s1.len + 1) * (C.ti T).bytes ≤ 70368744177664) (hb2 : (s2.len + 1) * (C.ti T).bytes ≤ 70368744177664)
    (o1 : Own T sz h s1 ts1) (o2 : Own T sz h s2 ts2) (ap : ∀ i, In s1 i → ¬ In s2 i) (hx : x.size = sz) (hxp : x.plain = true) (hy : y.size = sz) (hyp : y.plain = true)
    (hsub : ∀ h', Only (fun i => In s1 i ∨ In s2 i) h h' → Sub h0 h')
    (hk : ∀ s1' s2' h', Own T sz h' s1' (ts1 ++ [x]) → Own T sz h' s2' (ts2 ++ [y]) → Only (fun i => In s1 i ∨ In s2 i) h h' → (∀ i, In s1' i → In s1 i ∨ h.size ≤ i) → (∀ i, In s2' i → In s2 i ∨ h.size ≤ i) → (∀ i, In s1' i → ¬ In s2' i) → K s1' s2' h') :
    (Sub h0 (Array.push h (row (TVs.cells [x]) T)) ∧
      (∃ new, slAt (Array.push h (row (TVs.cells [x]) T)) (Sl.mk (some (Loc.mk h.size 0)) 1 1) sz new ∧ (∀ v ∈ new, isOne v = true) ∧ vcAppend C T s1 1 new (Array.push h (row (TVs.cells [x]) T)) fun s h => Sub h0 h ∧ Sub h0 (Array.push h (row (TVs.cells [y]) T)) ∧
        ∃ new, slAt (Array.push h (row (TVs.cells [y]) T)) (Sl.mk (some (Loc.mk h.size 0)) 1 1) sz new ∧ (∀ v ∈ new, isOne v = true) ∧ vcAppend C T s2 1 new (Array.push h (row (TVs.cells [y]) T)) fun s_2 h => K s s_2 h) ∧
      Sub h0 (Array.push (Array.push h (row (TVs.cells [x]) T)) (row (TVs.cells [y]) T)) ∧
      ∃ new, slAt (Array.push (Array.push h (row (TVs.cells [x]) T)) (row (TVs.cells [y]) T)) (Sl.mk (some (Loc.mk h.size 0)) 1 1) sz new ∧ (∀ v ∈ new, isOne v = true) ∧ vcAppend C T s1 1 new (Array.push (Array.push h (row (TVs.cells [x]) T)) (row (TVs.cells [y]) T)) fun s h_1 => Sub h0 h_1 ∧
        ∃ new, slAt h_1 (Sl.mk (some (Loc.mk (Array.size (Array.push h (row (TVs.cells [x]) T))) 0)) 1 1) sz new ∧ (∀ v ∈ new, isOne v = true) ∧ vcAppend C T s2 1 new h_1 fun s_2 h => K s s_2 h) ∧
    Sub h0 (Array.push h (row (TVs.cells [y]) T)) ∧ Sub h0 (Array.push (Array.push h (row (TVs.cells [y]) T)) (row (TVs.cells [x]) T)) ∧
      ∃ new, slAt (Array.push (Array.push h (row (TVs.cells [y]) T)) (row (TVs.cells [x]) T)) (Sl.mk (some (Loc.mk (Array.size (Array.push h (row (TVs.cells [y]) T))) 0)) 1 1) sz new ∧ (∀ v ∈ new, isOne v = true) ∧ vcAppend C T s1 1 new (Array.push (Array.push h (row (TVs.cells [y]) T)) (row (TVs.cells [x]) T)) fun s h_1 => Sub h0 h_1 ∧
        ∃ new, slAt h_1 (Sl.mk (some (Loc.mk h.size 0)) 1 1) sz new ∧ (∀ v ∈ new, isOne v = true) ∧ vcAppend C T s2 1 new h_1 fun s_2 h => K s s_2 h := by
  have lt1 : ∀ i, In s1 i → i < h.size := fun i ⟨l, hl, hi⟩ => by have := o1.lt l hl; omega
  have lt2 : ∀ i, In s2 i → i < h.size := fun i ⟨l, hl, hi⟩ => by have := o2.lt l hl; omega
  have sub : ∀ h', Ext h h' → Sub h0 h' := fun h' e => hsub h' (.of_ext e)
  -- both rows stand, then the first slice, then the second one
  have both : ∀ {g : Heap} {p q : Nat}, Ext h g → g[p]? = some (row (TVs.cells [x]) T) → g[q]? = some (row (TVs.cells [y]) T) → h.size ≤ q →
      ∃ new, slAt g (Sl.mk (some (Loc.mk p 0)) 1 1) sz new ∧ (∀ v ∈ new, isOne v = true) ∧ vcAppend C T s1 1 new g fun s h_1 => Sub h0 h_1 ∧
        ∃ new, slAt h_1 (Sl.mk (some (Loc.mk q 0)) 1 1) sz new ∧ (∀ v ∈ new, isOne v = true) ∧ vcAppend C T s2 1 new h_1 fun s_2 h => K s s_2 h := by
    intro g p q xg vp vq hq
    have zg := xg.size
    refine app_one hsz hz hpos hs0 hb1 (o1.ext xg) vp hx hxp fun s g1 os f1 n1 => ?_
    have zg1 := f1.size
    have f01 : Only (fun i => In s1 i ∨ In s2 i) h g1 := (Only.of_ext xg).trans (f1.mono fun i hi => .inl hi)
    have o2' : Own T sz g1 s2 ts2 := (o2.ext xg).only f1 fun l hl hi => ap _ hi ⟨l, hl, rfl⟩
    have vq' : g1[q]? = some (row (TVs.cells [y]) T) := by rw [f1.same q (row_lt vq) (fun hi => by have := lt1 q hi; omega), vq]
    refine ⟨hsub g1 f01, app_one hsz hz hpos hs0 hb2 o2' vq' hy hyp fun s' g2 os' f2 n2 => ?_⟩
    have d1 : ∀ i, In s i → ¬ In s2 i := fun i hi hj => by
      rcases n1 i hi with h1 | h1
      · exact ap i h1 hj
      · have := lt2 i hj; omega
    refine hk s s' g2 (os.only f2 fun l hl hi => d1 _ ⟨l, hl, rfl⟩ hi) os' (f01.trans (f2.mono fun i hi => .inr hi)) (fun i hi => (n1 i hi).imp id (fun h => by omega)) (fun i hi => (n2 i hi).imp id (fun h => by omega)) fun i hi hj => ?_
    rcases n2 i hj with h1 | h1
    · exact d1 i hi h1
    · obtain ⟨l, hl, he⟩ := hi
      have := os.lt l hl
      omega
  have x1 := Ext.push h (row (TVs.cells [x]) T)
  have y1 := Ext.push h (row (TVs.cells [y]) T)
  have x2 := Ext.push (Array.push h (row (TVs.cells [x]) T)) (row (TVs.cells [y]) T)
  have y2 := Ext.push (Array.push h (row (TVs.cells [y]) T)) (row (TVs.cells [x]) T)
  refine ⟨⟨sub _ x1, ?_, sub _ (x1.trans x2), both (x1.trans x2) ?_ (push_get _ _) x1.size⟩, sub _ y1, sub _ (y1.trans y2), both (y1.trans y2) (push_get _ _) ?_ (Nat.le_refl _)⟩
  · have zg := x1.size
    refine app_one hsz hz hpos hs0 hb1 (o1.ext x1) (push_get _ _) hx hxp fun s g1 os f1 n1 => ?_
    have zg1 := f1.size
    have f01 : Only (fun i => In s1 i ∨ In s2 i) h g1 := (Only.of_ext x1).trans (f1.mono fun i hi => .inl hi)
    have o2' : Own T sz g1 s2 ts2 := (o2.ext x1).only f1 fun l hl hi => ap _ hi ⟨l, hl, rfl⟩
    have y3 := Ext.push g1 (row (TVs.cells [y]) T)
    have zy := y3.size
    refine ⟨hsub g1 f01, hsub _ (f01.trans (.of_ext y3)), app_one hsz hz hpos hs0 hb2 (o2'.ext y3) (push_get _ _) hy hyp fun s' g2 os' f2 n2 => ?_⟩
    have d1 : ∀ i, In s i → ¬ In s2 i := fun i hi hj => by
      rcases n1 i hi with h1 | h1
      · exact ap i h1 hj
      · have := lt2 i hj; omega
    refine hk s s' g2 ((os.ext y3).only f2 fun l hl hi => d1 _ ⟨l, hl, rfl⟩ hi) os' ((f01.trans (.of_ext y3)).trans (f2.mono fun i hi => .inr hi)) (fun i hi => (n1 i hi).imp id (fun h => by omega)) (fun i hi => (n2 i hi).imp id (fun h => by omega)) fun i hi hj => ?_
    rcases n2 i hj with h1 | h1
    · exact d1 i hi h1
    · obtain ⟨l, hl, he⟩ := hi
      have := os.lt l hl
      omega
  · exact (x2.same _ (by simp)).trans (push_get _ _)
  · exact (y2.same _ (by simp)).trans (push_get _ _)

end
end Go.Vc
end

section
/- The program's tree: a new one. -/
namespace Go.Proofs.Ytldocdpdjdekiaa.Gate
open Go Go.Vc

section
variable {R : Value → Heap → Prop} {h h' : Heap} {b r : Nat} {A : Sl} {L : List Nd} {most : Int}

def TreeCan (slot most : Int) : Prop := 1 ≤ most ∧ most ≤ 256 ∧ 0 ≤ slot ∧ slot ≤ 1073741824

theorem first_ok {root : Bs 32} {slot : Int} (hc : TreeCan slot most) : TOk [⟨root, slot, -1⟩] most := by
  have one : ∀ (i : Nat) (x : Nd), ([⟨root, slot, -1⟩] : List Nd)[i]? = some x → i = 0 ∧ x = ⟨root, slot, -1⟩ := fun i x hx => by
    cases i with
    | zero => exact ⟨rfl, by simpa using hx.symm⟩
    | succ i => simp at hx
  unfold TreeCan at hc
  exact ⟨by simp, fun x hx => by rw [(one 0 x hx).2], fun i x hx h0 => by have := (one i x hx).1; omega, by simp, fun x hx => by rw [List.mem_singleton.1 hx]; exact hc.2.2,
    fun i x y hx h0 => by have := (one i x hx).1; omega, by simp; omega, ⟨hc.1, hc.2.1⟩⟩

theorem New_spec {root : Bs 32} {slot : Int} (hr0 : ¬ TreeCan slot most → ∀ h', Ext h h' → R (TV.tup [.ptr none, .int .i64 1]).val h')
    (hr : TreeCan slot most → ∀ h' b r A, TrP h' b r A [⟨root, slot, -1⟩] most → Ext h h' → (∀ i, TrMine b r A i → h.size ≤ i) → R (TV.tup [.ptr (some ⟨b, 0⟩), .int .i64 0]).val h') :
    CallsH Try.prog F.tree_New (TVs.vals [.bytes 32 root, .int .i64 slot, .int .i64 most]) h R := by
  apply tree_New_calls
  unfold tree_New_vc
  refine newTV_in fun h1 v1 x1 s1 => ?_
  intro J HJ
  have bad : ¬ TreeCan slot most → R (TV.tup [.ptr none, .int .i64 1]).val h1 := fun hn => hr0 hn h1 x1
  refine If.dec.2 ⟨fun hh => bad (fun hc => by have := hc.1; omega), fun g1 => If.dec.2 ⟨fun hh => bad (fun hc => by have := hc.2.1; omega), fun g2 => If.dec.2 ⟨fun hh => bad (fun hc => by have := hc.2.2.1; omega), fun g3 => If.dec.2 ⟨fun hh => bad (fun hc => by have := hc.2.2.2; omega), fun g4 => ?_⟩⟩⟩⟩
  have can : TreeCan slot most := ⟨by omega, by omega, by omega, by omega⟩
  refine HJ (none, 0) h1 ?_
  clear HJ J bad hr0
  have fin : ∀ {g : Heap} {q m : Nat}, Ext h1 g → g[q]? = some (row (TVs.cells [(⟨root, slot, -1⟩ : Nd).tv]) 219) → MapG kR vI g m [(root, 0)] → q ≠ m → h1.size ≤ q → h1.size ≤ m →
      Bind (newTV g (.agg [.slice (Sl.mk (some (Loc.mk q 0)) 1 1), .map (some m), .int .i64 most]) 149) fun h_3 => R (TV.val (.tup [.ptr (some (Loc.mk g.size 0)), .int .i64 0])) h_3 := by
    intro g q m xg vq vm hqm hq hm
    refine newTV_in fun h4 v4 x4 s4 => hr can h4 g.size m _ ⟨v4, ?_, vm.ext x4, first_ok can, ⟨?_, ?_⟩⟩ ((x1.trans xg).trans x4) ?_
    · have : Own T.tree_Node 34 g (Sl.mk (some (Loc.mk q 0)) 1 1) (nds [⟨root, slot, -1⟩]) := ⟨nds_size _, rfl, Nat.le_refl _, .inr ⟨q, [], rfl, by rw [vq]; simp [nds], by simp⟩⟩
      exact this.ext x4
    · rintro ⟨l, hl, he⟩
      cases hl
      have := row_lt vq
      simp only at he
      omega
    · rintro ⟨l, hl, he⟩
      cases hl
      exact hqm he
    · rintro i (rfl | rfl | ⟨l, hl, rfl⟩)
      · have := xg.size; omega
      · omega
      · cases hl
        simp only
        omega
  have put : ∀ {g : Heap} {m : Nat} {P : Heap → Prop}, Ext h1 g → h1.size ≤ m → MapG kR vI g m [] → (∀ g1, MapG kR vI g1 m [(root, 0)] → Only (· = m) g g1 → Ext h1 g1 → g1.size = g.size → P g1) →
      ∃ es c, g[m]? = some (mapO es c) ∧ AllLike ctx (.array 32 5) es ∧ Bind (g.setIfInBounds m (mapO (putE (.bytes 32 root) (.int .i64 0) c es) (clockE (.bytes 32 root) c es))) P :=
    fun xg hm mg hp => mg.put emb_r root 0 fun g1 m1 f1 s1 => hp g1 m1 f1 (Only.cut xg f1 fun i hi => by subst hi; exact hm) s1
  refine ⟨root, v1.bytes, root, v1.bytes, ?_⟩
  have xa := Ext.push h1 (row (TVs.cells [(⟨root, slot, -1⟩ : Nd).tv]) 219)
  have xb := Ext.push h1 (mapO [] 0)
  have xc := Ext.push (h1.push (row (TVs.cells [(⟨root, slot, -1⟩ : Nd).tv]) 219)) (mapO [] 0)
  have xd := Ext.push (h1.push (mapO [] 0)) (row (TVs.cells [(⟨root, slot, -1⟩ : Nd).tv]) 219)
  refine ⟨⟨xa, xa.trans xc, put (xa.trans xc) (by simp) (MapG.new _) fun g1 m1 f1 y1 s1 => ⟨y1, fin y1 ?_ m1 (by simp) (Nat.le_refl _) (by simp)⟩⟩, xb,
    ⟨xb.trans xd, put (xb.trans xd) (Nat.le_refl _) ((MapG.new h1).ext xd) fun g1 m1 f1 y1 s1 => ⟨y1, fin y1 ?_ m1 (by simp) (by simp) (Nat.le_refl _)⟩⟩,
    put xb (Nat.le_refl _) (MapG.new h1) fun g1 m1 f1 y1 s1 => ⟨y1, y1.trans (Ext.push _ _), fin (y1.trans (Ext.push _ _)) ?_ (m1.ext (Ext.push _ _)) ?_ y1.size (Nat.le_refl _)⟩⟩
  · exact (f1.same _ (by simp; omega) (by simp)).trans ((xc.same _ (by simp)).trans (push_get _ _))
  · exact (f1.same _ (by simp) (by simp)).trans (push_get _ _)
  · exact push_get _ _
  · rw [s1]; simp

end
end Go.Proofs.Ytldocdpdjdekiaa.Gate
end

section
/- The conditions of functions, as the generator reckons them out, each with the proof that it is that. -/
namespace Go.Proofs.Ytldocdpdjdekiaa
open Go Go.Vc
set_option maxRecDepth 100000
set_option linter.unusedVariables false

def weigh_Weights_grow_vc (w : Option Go.Vc.Loc) (h : Heap) (R : Value → Heap → Prop) : Prop := Go.Vc.Loop PUnit.unit h fun (s : PUnit) (h : Array Obj) (K : PUnit → Array Obj → Prop) ↦ ∃ (h0 : Array Obj), Vc.Sub h0 h ∧ Nn w fun l ↦ ∃ (s : Sl), at1 h0 l.b (l.o + 1) (slVal s) ∧ Nn w fun l ↦ ∃ (p : Option Go.Vc.Loc), at1 h0 l.b l.o (Value.pointer (Option.map Loc.addr p)) ∧ CallsH Try.prog 41 (TVs.vals [.ptr p]) h fun v h ↦ ∃ (n : Int), v = TV.val (.int .i64 n) ∧ Vc.Sub h0 h ∧ If (decide ((↑s.len : Int) < n)) (Join (fun (s : PUnit) (h : Array Obj) ↦ ∃ (h0 : Array Obj), Vc.Sub h0 h ∧ Nn w fun l ↦ ∃ (s : Sl), at1 h0 l.b (l.o + 3) (slVal s) ∧ Nn w fun l ↦ ∃ (s_1 : Sl), at1 h0 l.b (l.o + 4) (slVal s_1) ∧ (Vc.Sub h0 (Array.push h (row (TVs.cells [.int .i64 (-1)]) 3)) ∧ (∃ (new : List Value), slAt (Array.push h (row (TVs.cells [.int .i64 (-1)]) 3)) (Sl.mk (some (Loc.mk h.size 0)) 1 1) 1 new ∧ (∀ (v : Value), v ∈ new → isOne v = true) ∧ vcAppend Ytldocdpdjdekiaa.ctxL 3 s 1 new (Array.push h (row (TVs.cells [.int .i64 (-1)]) 3)) fun s h ↦ Vc.Sub h0 h ∧ Vc.Sub h0 (Array.push h (row (TVs.cells [.int .i64 (-1)]) 3)) ∧ ∃ (new : List Value), slAt (Array.push h (row (TVs.cells [.int .i64 (-1)]) 3)) (Sl.mk (some (Loc.mk h.size 0)) 1 1) 1 new ∧ (∀ (v : Value), v ∈ new → isOne v = true) ∧ vcAppend Ytldocdpdjdekiaa.ctxL 3 s_1 1 new (Array.push h (row (TVs.cells [.int .i64 (-1)]) 3)) fun s_2 h ↦ Nn w fun l ↦ wok h l.b (l.o + 3) 1 ∧ Vc.Bind (TV.put h l.b (l.o + 3) (.slice s)) fun h ↦ Nn w fun l ↦ wok h l.b (l.o + 4) 1 ∧ Vc.Bind (TV.put h l.b (l.o + 4) (.slice s_2)) fun h ↦ K PUnit.unit h) ∧ Vc.Sub h0 (Array.push (Array.push h (row (TVs.cells [.int .i64 (-1)]) 3)) (row (TVs.cells [.int .i64 (-1)]) 3)) ∧ ∃ (new : List Value), slAt (Array.push (Array.push h (row (TVs.cells [.int .i64 (-1)]) 3)) (row (TVs.cells [.int .i64 (-1)]) 3)) (Sl.mk (some (Loc.mk h.size 0)) 1 1) 1 new ∧ (∀ (v : Value), v ∈ new → isOne v = true) ∧ vcAppend Ytldocdpdjdekiaa.ctxL 3 s 1 new (Array.push (Array.push h (row (TVs.cells [.int .i64 (-1)]) 3)) (row (TVs.cells [.int .i64 (-1)]) 3)) fun s h_1 ↦ Vc.Sub h0 h_1 ∧ ∃ (new : List Value), slAt h_1 (Sl.mk (some (Loc.mk (Array.size (Array.push h (row (TVs.cells [.int .i64 (-1)]) 3))) 0)) 1 1) 1 new ∧ (∀ (v : Value), v ∈ new → isOne v = true) ∧ vcAppend Ytldocdpdjdekiaa.ctxL 3 s_1 1 new h_1 fun s_2 h ↦ Nn w fun l ↦ wok h l.b (l.o + 3) 1 ∧ Vc.Bind (TV.put h l.b (l.o + 3) (.slice s)) fun h ↦ Nn w fun l ↦ wok h l.b (l.o + 4) 1 ∧ Vc.Bind (TV.put h l.b (l.o + 4) (.slice s_2)) fun h ↦ K PUnit.unit h) ∧ Vc.Sub h0 (Array.push h (row (TVs.cells [.int .i64 (-1)]) 3)) ∧ Vc.Sub h0 (Array.push (Array.push h (row (TVs.cells [.int .i64 (-1)]) 3)) (row (TVs.cells [.int .i64 (-1)]) 3)) ∧ ∃ (new : List Value), slAt (Array.push (Array.push h (row (TVs.cells [.int .i64 (-1)]) 3)) (row (TVs.cells [.int .i64 (-1)]) 3)) (Sl.mk (some (Loc.mk (Array.size (Array.push h (row (TVs.cells [.int .i64 (-1)]) 3))) 0)) 1 1) 1 new ∧ (∀ (v : Value), v ∈ new → isOne v = true) ∧ vcAppend Ytldocdpdjdekiaa.ctxL 3 s 1 new (Array.push (Array.push h (row (TVs.cells [.int .i64 (-1)]) 3)) (row (TVs.cells [.int .i64 (-1)]) 3)) fun s h_1 ↦ Vc.Sub h0 h_1 ∧ ∃ (new : List Value), slAt h_1 (Sl.mk (some (Loc.mk h.size 0)) 1 1) 1 new ∧ (∀ (v : Value), v ∈ new → isOne v = true) ∧ vcAppend Ytldocdpdjdekiaa.ctxL 3 s_1 1 new h_1 fun s_2 h ↦ Nn w fun l ↦ wok h l.b (l.o + 3) 1 ∧ Vc.Bind (TV.put h l.b (l.o + 3) (.slice s)) fun h ↦ Nn w fun l ↦ wok h l.b (l.o + 4) 1 ∧ Vc.Bind (TV.put h l.b (l.o + 4) (.slice s_2)) fun h ↦ K PUnit.unit h) fun (J : PUnit → Array Obj → Prop) ↦ ∃ (h0 : Array Obj), Vc.Sub h0 h ∧ Nn w fun l ↦ ∃ (s : Sl), at1 h0 l.b (l.o + 1) (slVal s) ∧ Nn w fun l ↦ ∃ (s_1 : Sl), at1 h0 l.b (l.o + 2) (slVal s_1) ∧ (Vc.Sub h0 (Array.push h (row (TVs.cells [.int .i64 0]) 3)) ∧ (∃ (new : List Value), slAt (Array.push h (row (TVs.cells [.int .i64 0]) 3)) (Sl.mk (some (Loc.mk h.size 0)) 1 1) 1 new ∧ (∀ (v : Value), v ∈ new → isOne v = true) ∧ vcAppend Ytldocdpdjdekiaa.ctxL 3 s 1 new (Array.push h (row (TVs.cells [.int .i64 0]) 3)) fun s h ↦ Vc.Sub h0 h ∧ Vc.Sub h0 (Array.push h (row (TVs.cells [.int .i64 0]) 3)) ∧ ∃ (new : List Value), slAt (Array.push h (row (TVs.cells [.int .i64 0]) 3)) (Sl.mk (some (Loc.mk h.size 0)) 1 1) 1 new ∧ (∀ (v : Value), v ∈ new → isOne v = true) ∧ vcAppend Ytldocdpdjdekiaa.ctxL 3 s_1 1 new (Array.push h (row (TVs.cells [.int .i64 0]) 3)) fun s_2 h ↦ Nn w fun l ↦ wok h l.b (l.o + 1) 1 ∧ Vc.Bind (TV.put h l.b (l.o + 1) (.slice s)) fun h ↦ Nn w fun l ↦ wok h l.b (l.o + 2) 1 ∧ Vc.Bind (TV.put h l.b (l.o + 2) (.slice s_2)) fun h ↦ J PUnit.unit h) ∧ Vc.Sub h0 (Array.push (Array.push h (row (TVs.cells [.int .i64 0]) 3)) (row (TVs.cells [.int .i64 0]) 3)) ∧ ∃ (new : List Value), slAt (Array.push (Array.push h (row (TVs.cells [.int .i64 0]) 3)) (row (TVs.cells [.int .i64 0]) 3)) (Sl.mk (some (Loc.mk h.size 0)) 1 1) 1 new ∧ (∀ (v : Value), v ∈ new → isOne v = true) ∧ vcAppend Ytldocdpdjdekiaa.ctxL 3 s 1 new (Array.push (Array.push h (row (TVs.cells [.int .i64 0]) 3)) (row (TVs.cells [.int .i64 0]) 3)) fun s h_1 ↦ Vc.Sub h0 h_1 ∧ ∃ (new : List Value), slAt h_1 (Sl.mk (some (Loc.mk (Array.size (Array.push h (row (TVs.cells [.int .i64 0]) 3))) 0)) 1 1) 1 new ∧ (∀ (v : Value), v ∈ new → isOne v = true) ∧ vcAppend Ytldocdpdjdekiaa.ctxL 3 s_1 1 new h_1 fun s_2 h ↦ Nn w fun l ↦ wok h l.b (l.o + 1) 1 ∧ Vc.Bind (TV.put h l.b (l.o + 1) (.slice s)) fun h ↦ Nn w fun l ↦ wok h l.b (l.o + 2) 1 ∧ Vc.Bind (TV.put h l.b (l.o + 2) (.slice s_2)) fun h ↦ J PUnit.unit h) ∧ Vc.Sub h0 (Array.push h (row (TVs.cells [.int .i64 0]) 3)) ∧ Vc.Sub h0 (Array.push (Array.push h (row (TVs.cells [.int .i64 0]) 3)) (row (TVs.cells [.int .i64 0]) 3)) ∧ ∃ (new : List Value), slAt (Array.push (Array.push h (row (TVs.cells [.int .i64 0]) 3)) (row (TVs.cells [.int .i64 0]) 3)) (Sl.mk (some (Loc.mk (Array.size (Array.push h (row (TVs.cells [.int .i64 0]) 3))) 0)) 1 1) 1 new ∧ (∀ (v : Value), v ∈ new → isOne v = true) ∧ vcAppend Ytldocdpdjdekiaa.ctxL 3 s 1 new (Array.push (Array.push h (row (TVs.cells [.int .i64 0]) 3)) (row (TVs.cells [.int .i64 0]) 3)) fun s h_1 ↦ Vc.Sub h0 h_1 ∧ ∃ (new : List Value), slAt h_1 (Sl.mk (some (Loc.mk h.size 0)) 1 1) 1 new ∧ (∀ (v : Value), v ∈ new → isOne v = true) ∧ vcAppend Ytldocdpdjdekiaa.ctxL 3 s_1 1 new h_1 fun s_2 h ↦ Nn w fun l ↦ wok h l.b (l.o + 1) 1 ∧ Vc.Bind (TV.put h l.b (l.o + 1) (.slice s)) fun h ↦ Nn w fun l ↦ wok h l.b (l.o + 2) 1 ∧ Vc.Bind (TV.put h l.b (l.o + 2) (.slice s_2)) fun h ↦ J PUnit.unit h) (R (TV.val (.tup [])) h)
theorem weigh_Weights_grow_calls (w : Option Go.Vc.Loc) (h : Heap) (R : Value → Heap → Prop) (H : weigh_Weights_grow_vc w h R) : CallsH Try.prog 129 (TVs.vals [.ptr w]) h R := via ctxL_ok Try.func129 (by kernel_rfl) H

end Go.Proofs.Ytldocdpdjdekiaa
end

section
/- The program's weights, in memory: places for blocks that came since. -/
namespace Go.Vc
open Go

theorem dis_new {A A' B : Sl} {n : Nat} (d : ∀ i, In A i → ¬ In B i) (hn : ∀ i, In A' i → In A i ∨ n ≤ i) (lt : ∀ i, In B i → i < n) : ∀ i, In A' i → ¬ In B i := fun i hi hb => by
  rcases hn i hi with h1 | h1
  · exact d i h1 hb
  · have := lt i hb; omega

theorem Own.In_lt {T : TypeId} {sz : Nat} {h : Heap} {s : Sl} {ts : List TV} (o : Own T sz h s ts) : ∀ i, In s i → i < h.size := fun i ⟨l, hl, hi⟩ => by have := o.lt l hl; omega
theorem Own.keep {T : TypeId} {sz : Nat} {S : Nat → Prop} {h h' : Heap} {s : Sl} {ts : List TV} (o : Own T sz h s ts) (f : Only S h h') (hs : ∀ i, In s i → ¬ S i) : Own T sz h' s ts := o.only f fun l hl => hs l.b ⟨l, hl, rfl⟩

/-- How long the slice at a place is. -/
def slLen (h : Heap) (b o : Nat) : Nat := match cel h b o with
  | some (.slice _ n _) => n
  | _ => 0
theorem slLen_at {h : Heap} {b o : Nat} {s : Sl} (a : at1 h b o (slVal s)) : slLen h b o = s.len := by
  unfold slLen
  rw [show cel h b o = some (slVal s) from a]
  rfl

end Go.Vc
namespace Go.Proofs.Ytldocdpdjdekiaa.Gate
open Go Go.Vc

abbrev nums (l : List Int) : List TV := l.map vI
theorem int_bytes : (ctxL.ti 3).bytes = 8 := by kernel_rfl
theorem int_size : (ctxL.ti 3).size = 1 := by kernel_rfl
theorem int_zsize : (ctxL.ti 3).z.size = 1 := by kernel_rfl
theorem int_pos : 0 < (ctxL.ti 3).bytes := by rw [int_bytes]; decide

section
variable {R : Value → Heap → Prop} {h h' : Heap} {w tb : Nat} {O S B G : Sl} {os ss bs fs : List Int}

/-- Weights in memory: own weights, sums, best children, leaves. -/
structure WP (h : Heap) (w tb : Nat) (O S B G : Sl) (os ss bs fs : List Int) : Prop where
  var : Var T.weigh_Weights h w (.agg [.ptr (some ⟨tb, 0⟩), .slice O, .slice S, .slice B, .slice G])
  o : Own 3 1 h O (nums os)
  s : Own 3 1 h S (nums ss)
  b : Own 3 1 h B (nums bs)
  f : Own 3 1 h G (nums fs)
  now : ¬ In O w ∧ ¬ In S w ∧ ¬ In B w ∧ ¬ In G w
  os_ : ∀ i, In O i → ¬ In S i
  ob : ∀ i, In O i → ¬ In B i
  of : ∀ i, In O i → ¬ In G i
  sb : ∀ i, In S i → ¬ In B i
  sf : ∀ i, In S i → ¬ In G i
  bf : ∀ i, In B i → ¬ In G i

def WMine (w : Nat) (O S B G : Sl) (i : Nat) : Prop := i = w ∨ In O i ∨ In S i ∨ In B i ∨ In G i

theorem WP.only {Q : Nat → Prop} (p : WP h w tb O S B G os ss bs fs) (f : Only Q h h') (hs : ∀ i, WMine w O S B G i → ¬ Q i) : WP h' w tb O S B G os ss bs fs :=
  ⟨p.var.only f (hs w (.inl rfl)), p.o.keep f fun i hi => hs i (.inr (.inl hi)), p.s.keep f fun i hi => hs i (.inr (.inr (.inl hi))), p.b.keep f fun i hi => hs i (.inr (.inr (.inr (.inl hi)))), p.f.keep f fun i hi => hs i (.inr (.inr (.inr (.inr hi)))),
    p.now, p.os_, p.ob, p.of, p.sb, p.sf, p.bf⟩
theorem WP.ext (p : WP h w tb O S B G os ss bs fs) (x : Ext h h') : WP h' w tb O S B G os ss bs fs := p.only (Q := fun _ => False) (.of_ext x) fun _ _ hf => hf
theorem WP.lt (p : WP h w tb O S B G os ss bs fs) {i : Nat} (hi : WMine w O S B G i) : i < h.size := by
  rcases hi with rfl | hi | hi | hi | hi
  · exact p.var.lt
  · exact p.o.In_lt i hi
  · exact p.s.In_lt i hi
  · exact p.b.In_lt i hi
  · exact p.f.In_lt i hi
theorem WP.lo (p : WP h w tb O S B G os ss bs fs) : os.length = O.len := by have := p.o.len; rwa [List.length_map] at this
theorem WP.ls (p : WP h w tb O S B G os ss bs fs) : ss.length = S.len := by have := p.s.len; rwa [List.length_map] at this
theorem WP.lb (p : WP h w tb O S B G os ss bs fs) : bs.length = B.len := by have := p.b.len; rwa [List.length_map] at this
theorem WP.lf (p : WP h w tb O S B G os ss bs fs) : fs.length = G.len := by have := p.f.len; rwa [List.length_map] at this

/-- A row with numbers behind it, up to a length. -/
def pad (l : List Int) (n : Nat) (v : Int) : List Int := l ++ List.replicate (n - l.length) v

theorem pad_step {l : List Int} {n : Nat} {v : Int} (h : l.length < n) : pad (l ++ [v]) n v = pad l n v := by
  unfold pad
  rw [List.append_assoc, List.length_append, List.length_singleton]
  congr 1
  obtain ⟨m, hm⟩ : ∃ m, n - l.length = m + 1 := ⟨n - l.length - 1, by omega⟩
  rw [hm, show n - (l.length + 1) = m by omega]
  rfl
theorem pad_end {l : List Int} {n : Nat} {v : Int} (h : n ≤ l.length) : pad l n v = l := by
  unfold pad
  rw [Nat.sub_eq_zero_of_le h]
  simp

set_option maxRecDepth 10000 in
theorem grow_spec {r : Nat} {A : Sl} {L : List Nd} {most : Int} (p : WP h w tb O S B G os ss bs fs) (t : TrP h tb r A L most) (ap : ∀ i, TrMine tb r A i → ¬ WMine w O S B G i)
    (l1 : ss.length = os.length) (l2 : bs.length = os.length) (l3 : fs.length = os.length) (hn : os.length ≤ L.length)
    (hr : ∀ h' O' S' B' G', WP h' w tb O' S' B' G' (pad os L.length 0) (pad ss L.length 0) (pad bs L.length (-1)) (pad fs L.length (-1)) → Step (WMine w O S B G) h (WMine w O' S' B' G') h' → R (TV.tup []).val h') :
    CallsH Try.prog F.weigh_Weights_grow (TVs.vals [.ptr (some ⟨w, 0⟩)]) h R := by
  apply weigh_Weights_grow_calls
  unfold weigh_Weights_grow_vc
  have hlen := t.ok.len
  have hmost := t.ok.most
  refine ⟨fun _ hh => ∃ O' S' B' G' os' ss' bs' fs', WP hh w tb O' S' B' G' os' ss' bs' fs' ∧ Step (WMine w O S B G) h (WMine w O' S' B' G') hh ∧ ss'.length = os'.length ∧ bs'.length = os'.length ∧ fs'.length = os'.length ∧ os'.length ≤ L.length ∧
      pad os' L.length 0 = pad os L.length 0 ∧ pad ss' L.length 0 = pad ss L.length 0 ∧ pad bs' L.length (-1) = pad bs L.length (-1) ∧ pad fs' L.length (-1) = pad fs L.length (-1),
    fun _ hh => L.length - slLen hh w 1, ⟨O, S, B, G, os, ss, bs, fs, p, .of_ext (Ext.refl _), l1, l2, l3, hn, rfl, rfl, rfl, rfl⟩, ?_⟩
  rintro _ h1 ⟨O1, S1, B1, G1, os1, ss1, bs1, fs1, p1, st1, l1, l2, l3, hn, e1, e2, e3, e4⟩
  have v1 := p1.var
  have wk : Var T.weigh_Weights (keeps (· = w) h1) w _ := v1.keeps rfl
  have t1 : TrP h1 tb r A L most := t.only st1.only ap
  refine ⟨keeps (· = w) h1, keeps_refl, O1, wk.at1 rfl, some ⟨tb, 0⟩, wk.at1 rfl, Len_spec t1 ⟨_, rfl, keeps_refl, If.dec.2 ⟨fun hlt => ?_, fun hge => ?_⟩⟩⟩
  · have lo1 := p1.lo
    have ls1 := p1.ls
    have lb1 := p1.lb
    have lf1 := p1.lf
    have small : os1.length < L.length := by omega
    have sz1 : slLen h1 w 1 = O1.len := slLen_at (v1.at1 rfl)
    have sub1 : ∀ {X Y : Sl} {g g' : Heap}, ¬ In X w → ¬ In Y w → Only (fun i => In X i ∨ In Y i) g g' → Sub (keeps (· = w) g) g' := fun hX hY f => keeps_of f fun i hi hx => by
      subst hi
      exact hx.elim hX hY
    intro J HJ
    refine ⟨keeps (· = w) h1, keeps_refl, O1, wk.at1 rfl, S1, wk.at1 rfl, two_app (C := ctxL) (T := 3) (sz := 1) (x := .int .i64 0) (y := .int .i64 0) int_size int_zsize int_pos (by decide) (by rw [int_bytes]; omega) (by rw [int_bytes]; omega)
      p1.o p1.s p1.os_ rfl rfl rfl rfl (fun h' f => sub1 p1.now.1 p1.now.2.1 f) fun O2 S2 h2 o2 s2 f2 nO nS dOS => ?_⟩
    have z2 := f2.size
    have v2 : Var T.weigh_Weights h2 w _ := v1.only f2 fun hx => hx.elim p1.now.1 p1.now.2.1
    have b2 := p1.b.keep f2 fun i hi hx => hx.elim (fun hx => p1.ob i hx hi) fun hx => p1.sb i hx hi
    have g2 := p1.f.keep f2 fun i hi hx => hx.elim (fun hx => p1.of i hx hi) fun hx => p1.sf i hx hi
    have nw : ∀ {X X' : Sl}, ¬ In X w → (∀ i, In X' i → In X i ∨ h1.size ≤ i) → ¬ In X' w := fun hX hn hx => by
      rcases hn w hx with h9 | h9
      · exact hX h9
      · have := v1.lt; omega
    refine ⟨v2.wok (o := 1) (n := 1) (by simp [TV.size, TVs.size]), ?_⟩
    refine (field_in v2 (i := 1) (t := .slice O2) rfl rfl rfl rfl fun h3 v3 f3 s3 => ?_).2
    refine ⟨v3.wok (o := 2) (n := 1) (by simp [TV.size, TVs.size]), ?_⟩
    refine (field_in v3 (i := 2) (t := .slice S2) rfl rfl rfl rfl fun h4 v4 f4 s4 => ?_).2
    have f24 : Only (· = w) h2 h4 := f3.trans f4
    have z4 := f24.size
    have nwO := nw p1.now.1 nO
    have nwS := nw p1.now.2.1 nS
    have p4 : WP h4 w tb O2 S2 B1 G1 (os1 ++ [0]) (ss1 ++ [0]) bs1 fs1 := by
      refine ⟨v4, ?_, ?_, b2.keep f24 fun i hi e => p1.now.2.2.1 (e ▸ hi), g2.keep f24 fun i hi e => p1.now.2.2.2 (e ▸ hi), ⟨nwO, nwS, p1.now.2.2⟩, dOS, dis_new p1.ob nO p1.b.In_lt, dis_new p1.of nO p1.f.In_lt, dis_new p1.sb nS p1.b.In_lt, dis_new p1.sf nS p1.f.In_lt, p1.bf⟩
      · have := o2.keep f24 fun i hi e => nwO (e ▸ hi)
        simpa [nums] using this
      · have := s2.keep f24 fun i hi e => nwS (e ▸ hi)
        simpa [nums] using this
    have st4 : Step (WMine w O1 S1 B1 G1) h1 (WMine w O2 S2 B1 G1) h4 := by
      refine ⟨(f2.mono fun i hi => ?_).trans (f24.mono fun i hi => .inl hi), fun i hi => ?_⟩
      · exact hi.elim (fun h => .inr (.inl h)) fun h => .inr (.inr (.inl h))
      · rcases hi with rfl | hi | hi | hi | hi
        · exact .inl (.inl rfl)
        · exact (nO i hi).imp (fun h => .inr (.inl h)) id
        · exact (nS i hi).imp (fun h => .inr (.inr (.inl h))) id
        · exact .inl (.inr (.inr (.inr (.inl hi))))
        · exact .inl (.inr (.inr (.inr (.inr hi))))
    refine HJ _ h4 ?_
    clear HJ J
    have w4 : Var T.weigh_Weights (keeps (· = w) h4) w _ := v4.keeps rfl
    refine ⟨keeps (· = w) h4, keeps_refl, B1, w4.at1 rfl, G1, w4.at1 rfl, two_app (C := ctxL) (T := 3) (sz := 1) (x := .int .i64 (-1)) (y := .int .i64 (-1)) int_size int_zsize int_pos (by decide) (by rw [int_bytes]; omega) (by rw [int_bytes]; omega)
      p4.b p4.f p4.bf rfl rfl rfl rfl (fun h' f => sub1 p4.now.2.2.1 p4.now.2.2.2 f) fun B5 G5 h5 b5 g5 f5 nB nF dBF => ?_⟩
    have v5 : Var T.weigh_Weights h5 w _ := v4.only f5 fun hx => hx.elim p4.now.2.2.1 p4.now.2.2.2
    have o5 := p4.o.keep f5 fun i hi hx => hx.elim (fun hx => p4.ob i hi hx) fun hx => p4.of i hi hx
    have s5 := p4.s.keep f5 fun i hi hx => hx.elim (fun hx => p4.sb i hi hx) fun hx => p4.sf i hi hx
    refine ⟨v5.wok (o := 3) (n := 1) (by simp [TV.size, TVs.size]), ?_⟩
    refine (field_in v5 (i := 3) (t := .slice B5) rfl rfl rfl rfl fun h6 v6 f6 s6 => ?_).2
    refine ⟨v6.wok (o := 4) (n := 1) (by simp [TV.size, TVs.size]), ?_⟩
    refine (field_in v6 (i := 4) (t := .slice G5) rfl rfl rfl rfl fun h7 v7 f7 s7 => ?_).2
    have f57 : Only (· = w) h5 h7 := f6.trans f7
    have nw4 : ∀ {X X' : Sl}, ¬ In X w → (∀ i, In X' i → In X i ∨ h4.size ≤ i) → ¬ In X' w := fun hX hn hx => by
      rcases hn w hx with h9 | h9
      · exact hX h9
      · have := v4.lt; omega
    have nwB := nw4 p4.now.2.2.1 nB
    have nwF := nw4 p4.now.2.2.2 nF
    have sym : ∀ {X Y : Sl}, (∀ i, In X i → ¬ In Y i) → ∀ i, In Y i → ¬ In X i := fun d i hy hx => d i hx hy
    have p7 : WP h7 w tb O2 S2 B5 G5 (os1 ++ [0]) (ss1 ++ [0]) (bs1 ++ [-1]) (fs1 ++ [-1]) := by
      refine ⟨v7, o5.keep f57 fun i hi e => nwO (e ▸ hi), s5.keep f57 fun i hi e => nwS (e ▸ hi), ?_, ?_, ⟨nwO, nwS, nwB, nwF⟩, dOS, sym (dis_new (sym p4.ob) nB p4.o.In_lt), sym (dis_new (sym p4.of) nF p4.o.In_lt), sym (dis_new (sym p4.sb) nB p4.s.In_lt), sym (dis_new (sym p4.sf) nF p4.s.In_lt), dBF⟩
      · have := b5.keep f57 fun i hi e => nwB (e ▸ hi)
        simpa [nums] using this
      · have := g5.keep f57 fun i hi e => nwF (e ▸ hi)
        simpa [nums] using this
    have st7 : Step (WMine w O2 S2 B1 G1) h4 (WMine w O2 S2 B5 G5) h7 := by
      refine ⟨(f5.mono fun i hi => ?_).trans (f57.mono fun i hi => .inl hi), fun i hi => ?_⟩
      · exact hi.elim (fun h => .inr (.inr (.inr (.inl h)))) fun h => .inr (.inr (.inr (.inr h)))
      · rcases hi with rfl | hi | hi | hi | hi
        · exact .inl (.inl rfl)
        · exact .inl (.inr (.inl hi))
        · exact .inl (.inr (.inr (.inl hi)))
        · exact (nB i hi).imp (fun h => .inr (.inr (.inr (.inl h)))) id
        · exact (nF i hi).imp (fun h => .inr (.inr (.inr (.inr h)))) id
    have sz7 : slLen h7 w 1 = O2.len := slLen_at (v7.at1 rfl)
    have lo7 := p7.lo
    simp only [List.length_append, List.length_singleton] at lo7
    refine ⟨⟨O2, S2, B5, G5, _, _, _, _, p7, (st1.trans st4).trans st7, by simp [l1], by simp [l2], by simp [l3], by simp; omega, ?_, ?_, ?_, ?_⟩, by show L.length - slLen h7 w 1 < L.length - slLen h1 w 1; omega⟩
    · rw [pad_step small, e1]
    · rw [pad_step (by omega), e2]
    · rw [pad_step (by omega), e3]
    · rw [pad_step (by omega), e4]
  · have lo1 := p1.lo
    have hh : L.length ≤ os1.length := by omega
    refine hr h1 O1 S1 B1 G1 ?_ st1
    rw [← e1, ← e2, ← e3, ← e4, pad_end hh, pad_end (by omega), pad_end (by omega), pad_end (by omega)]
    exact p1

end
end Go.Proofs.Ytldocdpdjdekiaa.Gate
end

section
/- Which of two digests comes first, in the program. -/
namespace Go.Proofs.Ytldocdpdjdekiaa.Gate
open Go Go.Vc

theorem Less_spec {R : Value → Heap → Prop} {h : Heap} {a b : Bs 32} (hr : ∀ h', Ext h h' → R (TV.bool (Op.bytesLess a.l b.l)).val h') : CallsH Try.prog F.sha_Less (TVs.vals [.bytes 32 a, .bytes 32 b]) h R := Board.less_spec hr

end Go.Proofs.Ytldocdpdjdekiaa.Gate
end

section
/- The conditions of functions, as the generator reckons them out, each with the proof that it is that. -/
namespace Go.Proofs.Ytldocdpdjdekiaa
open Go Go.Vc
set_option maxRecDepth 100000
set_option linter.unusedVariables false

def weigh_Weights_ahead_vc (w : Option Go.Vc.Loc) (i : Int) (k : Int) (h : Heap) (R : Value → Heap → Prop) : Prop := Join (fun (s : Bool) (h : Array Obj) ↦ Nn w fun l ↦ ∃ (p : Option Go.Vc.Loc), at1 h l.b l.o (Value.pointer (Option.map Loc.addr p)) ∧ CallsH Try.prog 145 (TVs.vals [.ptr p, .int .i64 i]) h fun v h ↦ ∃ (b : Bs 32), ∃ (n n_1 : Int), ∃ (b_1 : Bool), v = TV.val (.tup [.agg [.bytes 32 b, .int .i64 n, .int .i64 n_1], .bool b_1]) ∧ Vc.Bind (newTV h (.agg [.bytes 32 (Bs.zero 32), .int .i64 0, .int .i64 0]) 219) fun h_1 ↦ wok h_1 h.size 0 34 ∧ Vc.Bind (TV.put h_1 h.size 0 (.agg [.bytes 32 b, .int .i64 n, .int .i64 n_1])) fun h_2 ↦ Nn w fun l ↦ ∃ (p : Option Go.Vc.Loc), at1 h_2 l.b l.o (Value.pointer (Option.map Loc.addr p)) ∧ CallsH Try.prog 145 (TVs.vals [.ptr p, .int .i64 k]) h_2 fun v h_3 ↦ ∃ (b : Bs 32), ∃ (n n_2 : Int), ∃ (b_2 : Bool), v = TV.val (.tup [.agg [.bytes 32 b, .int .i64 n, .int .i64 n_2], .bool b_2]) ∧ Vc.Bind (newTV h_3 (.agg [.bytes 32 (Bs.zero 32), .int .i64 0, .int .i64 0]) 219) fun h_4 ↦ wok h_4 h_3.size 0 34 ∧ Vc.Bind (TV.put h_4 h_3.size 0 (.agg [.bytes 32 b, .int .i64 n, .int .i64 n_2])) fun h_5 ↦ ∃ (b : Bs 32), atBytes h_5 h_3.size 0 32 b ∧ ∃ (b_3 : Bs 32), atBytes h_5 h.size 0 32 b_3 ∧ CallsH Try.prog 117 (TVs.vals [.bytes 32 b, .bytes 32 b_3]) h_5 fun v h ↦ ∃ (b : Bool), v = TV.val (.bool b) ∧ R (TV.val (.bool b)) h) fun (J : Bool → Array Obj → Prop) ↦ Join (fun (s : Bool) (h : Array Obj) ↦ If s (If (decide (k < 0)) (R (TV.val (.bool true)) h) (Nn w fun l ↦ ∃ (s : Sl), at1 h l.b (l.o + 2) (slVal s) ∧ 0 ≤ i ∧ i < (↑s.len : Int) ∧ Nn s.a fun l ↦ ∃ (n : Int), at1 h l.b (l.o + Int.toNat i * 1) (.int .i64 n) ∧ Nn w fun l ↦ ∃ (s : Sl), at1 h l.b (l.o + 2) (slVal s) ∧ 0 ≤ k ∧ k < (↑s.len : Int) ∧ Nn s.a fun l ↦ ∃ (n_1 : Int), at1 h l.b (l.o + Int.toNat k * 1) (.int .i64 n_1) ∧ R (TV.val (.bool (decide (n_1 < n)))) h)) (J false h)) fun (J : Bool → Array Obj → Prop) ↦ If (decide (k < 0)) (J true h) (Nn w fun l ↦ ∃ (s : Sl), at1 h l.b (l.o + 2) (slVal s) ∧ 0 ≤ i ∧ i < (↑s.len : Int) ∧ Nn s.a fun l ↦ ∃ (n : Int), at1 h l.b (l.o + Int.toNat i * 1) (.int .i64 n) ∧ Nn w fun l ↦ ∃ (s : Sl), at1 h l.b (l.o + 2) (slVal s) ∧ 0 ≤ k ∧ k < (↑s.len : Int) ∧ Nn s.a fun l ↦ ∃ (n_1 : Int), at1 h l.b (l.o + Int.toNat k * 1) (.int .i64 n_1) ∧ J (!decide (n = n_1)) h)
theorem weigh_Weights_ahead_calls (w : Option Go.Vc.Loc) (i : Int) (k : Int) (h : Heap) (R : Value → Heap → Prop) (H : weigh_Weights_ahead_vc w i k h R) : CallsH Try.prog 146 (TVs.vals [.ptr w, .int .i64 i, .int .i64 k]) h R := via ctx_ok Try.func146 (by kernel_rfl) H

def weigh_Weights_rank_vc (w : Option Go.Vc.Loc) (h : Heap) (R : Value → Heap → Prop) : Prop := Nn w fun l ↦ ∃ (s : Sl), at1 h l.b (l.o + 3) (slVal s) ∧ Go.Vc.Loop (0 : Int) h fun (s_1 : Int) (h : Array Obj) (K : Int → Array Obj → Prop) ↦ If (decide (s_1 < (↑s.len : Int))) (Nn w fun l ↦ ∃ (s : Sl), at1 h l.b (l.o + 3) (slVal s) ∧ Nn w fun l ↦ ∃ (s_2 : Sl), at1 h l.b (l.o + 4) (slVal s_2) ∧ 0 ≤ s_1 ∧ s_1 < (↑s.len : Int) ∧ Nn s.a fun l ↦ wok h l.b (l.o + Int.toNat s_1 * 1) 1 ∧ Vc.Bind (TV.put h l.b (l.o + Int.toNat s_1 * 1) (.int .i64 (-1))) fun h ↦ 0 ≤ s_1 ∧ s_1 < (↑s_2.len : Int) ∧ Nn s_2.a fun l ↦ wok h l.b (l.o + Int.toNat s_1 * 1) 1 ∧ Vc.Bind (TV.put h l.b (l.o + Int.toNat s_1 * 1) (.int .i64 s_1)) fun h ↦ K (IntKind.wrap .i64 (s_1 + 1)) h) (Nn w fun l ↦ ∃ (s : Sl), at1 h l.b (l.o + 3) (slVal s) ∧ Go.Vc.Loop (IntKind.wrap .i64 ((↑s.len : Int) - 1)) h fun (s : Int) (h : Array Obj) (K : Int → Array Obj → Prop) ↦ If (decide (0 < s)) (Nn w fun l ↦ ∃ (p : Option Go.Vc.Loc), at1 h l.b l.o (Value.pointer (Option.map Loc.addr p)) ∧ CallsH Try.prog 145 (TVs.vals [.ptr p, .int .i64 s]) h fun v h ↦ ∃ (b : Bs 32), ∃ (n n_1 : Int), ∃ (b_1 : Bool), v = TV.val (.tup [.agg [.bytes 32 b, .int .i64 n, .int .i64 n_1], .bool b_1]) ∧ Vc.Bind (newTV h (.agg [.bytes 32 (Bs.zero 32), .int .i64 0, .int .i64 0]) 219) fun h_1 ↦ wok h_1 h.size 0 34 ∧ Vc.Bind (TV.put h_1 h.size 0 (.agg [.bytes 32 b, .int .i64 n, .int .i64 n_1])) fun h_2 ↦ Nn w fun l ↦ ∃ (s_2 : Sl), at1 h_2 l.b (l.o + 3) (slVal s_2) ∧ ∃ (n : Int), at1 h_2 h.size 33 (.int .i64 n) ∧ 0 ≤ n ∧ n < (↑s_2.len : Int) ∧ Nn s_2.a fun l ↦ ∃ (n_2 : Int), at1 h_2 l.b (l.o + Int.toNat n * 1) (.int .i64 n_2) ∧ CallsH Try.prog 146 (TVs.vals [.ptr w, .int .i64 s, .int .i64 n_2]) h_2 fun v h_3 ↦ ∃ (b : Bool), v = TV.val (.bool b) ∧ If b (Nn w fun l ↦ ∃ (s_3 : Sl), at1 h_3 l.b (l.o + 3) (slVal s_3) ∧ ∃ (n : Int), at1 h_3 h.size 33 (.int .i64 n) ∧ 0 ≤ n ∧ n < (↑s_3.len : Int) ∧ Nn s_3.a fun l ↦ wok h_3 l.b (l.o + Int.toNat n * 1) 1 ∧ Vc.Bind (TV.put h_3 l.b (l.o + Int.toNat n * 1) (.int .i64 s)) fun h ↦ K (IntKind.wrap .i64 (s - 1)) h) (K (IntKind.wrap .i64 (s - 1)) h_3)) (Nn w fun l ↦ ∃ (s : Sl), at1 h l.b (l.o + 3) (slVal s) ∧ Go.Vc.Loop (IntKind.wrap .i64 ((↑s.len : Int) - 1)) h fun (s : Int) (h : Array Obj) (K : Int → Array Obj → Prop) ↦ If (decide (0 ≤ s)) (Nn w fun l ↦ ∃ (s_2 : Sl), at1 h l.b (l.o + 3) (slVal s_2) ∧ 0 ≤ s ∧ s < (↑s_2.len : Int) ∧ Nn s_2.a fun l ↦ ∃ (n : Int), at1 h l.b (l.o + Int.toNat s * 1) (.int .i64 n) ∧ If (decide (0 ≤ n)) (Nn w fun l ↦ ∃ (s_3 : Sl), at1 h l.b (l.o + 4) (slVal s_3) ∧ Nn w fun l ↦ ∃ (s_4 : Sl), at1 h l.b (l.o + 4) (slVal s_4) ∧ 0 ≤ n ∧ n < (↑s_4.len : Int) ∧ Nn s_4.a fun l ↦ ∃ (n_1 : Int), at1 h l.b (l.o + Int.toNat n * 1) (.int .i64 n_1) ∧ 0 ≤ s ∧ s < (↑s_3.len : Int) ∧ Nn s_3.a fun l ↦ wok h l.b (l.o + Int.toNat s * 1) 1 ∧ Vc.Bind (TV.put h l.b (l.o + Int.toNat s * 1) (.int .i64 n_1)) fun h ↦ K (IntKind.wrap .i64 (s - 1)) h) (K (IntKind.wrap .i64 (s - 1)) h)) (R (TV.val (.tup [])) h)))
theorem weigh_Weights_rank_calls (w : Option Go.Vc.Loc) (h : Heap) (R : Value → Heap → Prop) (H : weigh_Weights_rank_vc w h R) : CallsH Try.prog 130 (TVs.vals [.ptr w]) h R := via ctx_ok Try.func130 (by kernel_rfl) H

end Go.Proofs.Ytldocdpdjdekiaa
end

section
/- The program ranks: best children and leaves. -/
namespace Go.Proofs.Ytldocdpdjdekiaa.Gate
open Go Go.Vc

abbrev lst (n : Nat) (f : Nat → Int) : List Int := (List.range n).map f

theorem lst_len (n : Nat) (f : Nat → Int) : (lst n f).length = n := by simp
theorem lst_at {n i : Nat} (f : Nat → Int) (h : i < n) : (lst n f)[i]? = some (f i) := by simp [h]
theorem lst_set (n i : Nat) (f : Nat → Int) (v : Int) : (lst n f).set i v = lst n fun k => if k = i then v else f k := by
  apply List.ext_getElem?
  intro j
  rw [List.getElem?_set]
  simp only [lst, List.length_map, List.length_range, List.getElem?_map]
  by_cases hj : j < n
  · by_cases hi : i = j
    · subst hi; simp [hj]
    · have : ¬ j = i := fun e => hi e.symm
      simp [hj, hi, this]
  · have : (List.range n)[j]? = none := by simp; omega
    rw [this]
    by_cases hi : i = j
    · subst hi; simp [hj]
    · simp [hi]
theorem lst_of {l : List Int} {n : Nat} (h : l.length = n) : l = lst n fun k => l.getD k 0 := by
  apply List.ext_getElem
  · simp [h]
  · intro i h1 h2; simp [h1]
theorem lst_congr {n : Nat} {f g : Nat → Int} (h : ∀ k, k < n → f k = g k) : lst n f = lst n g := List.map_congr_left fun k hk => h k (List.mem_range.1 hk)

def optI : Option Nat → Int
  | some b => b
  | none => -1

theorem nums_at {h : Heap} {A : Sl} {l : List Int} (o : Own 3 1 h A (nums l)) {i : Int} (h0 : 0 ≤ i) {v : Int} (hv : l[i.toNat]? = some v) {K : Int → Prop} (hk : K v) :
    0 ≤ i ∧ i < (A.len : Int) ∧ Nn A.a fun p => ∃ n, at1 h p.b (p.o + i.toNat * 1) (.int .i64 n) ∧ K n := by
  have hl := o.len
  have := (List.getElem?_eq_some_iff.1 hv).1
  rw [List.length_map] at hl
  refine o.elems.read h0 (by omega) fun p t _ ht hat => ?_
  rw [List.getElem?_map, hv] at ht
  cases ht
  exact ⟨v, hat, hk⟩

section
variable {R : Value → Heap → Prop} {h h' : Heap} {w tb r : Nat} {O S B G A : Sl} {os ss bs fs : List Int} {L : List Nd} {most : Int} {n : Nat}

theorem WP.putB {bf : Nat → Int} (p : WP h w tb O S B G os ss (lst n bf) fs) {i v : Int} (h0 : 0 ≤ i) (h1 : i < n) {K : Heap → Prop}
    (hk : ∀ h1, WP h1 w tb O S B G os ss (lst n fun k => if k = i.toNat then v else bf k) fs → Only (In B) h h1 → h1.size = h.size → K h1) :
    0 ≤ i ∧ i < (B.len : Int) ∧ Nn B.a fun l => wok h l.b (l.o + i.toNat * 1) 1 ∧ Bind ((TV.int .i64 v).put h l.b (l.o + i.toNat * 1)) K :=
  p.b.put_in (sz := 1) (n := 1) (t := .int .i64 v) h0 (by simp; omega) rfl rfl fun h2 o2 f2 s2 => hk h2 ⟨p.var.only f2 p.now.2.2.1, p.o.keep f2 p.ob, p.s.keep f2 p.sb, by rw [← lst_set]; simpa [nums, List.map_set] using o2, p.f.keep f2 fun i hi hx => p.bf i hx hi, p.now, p.os_, p.ob, p.of, p.sb, p.sf, p.bf⟩ f2 s2
theorem WP.putG {ff : Nat → Int} (p : WP h w tb O S B G os ss bs (lst n ff)) {i v : Int} (h0 : 0 ≤ i) (h1 : i < n) {K : Heap → Prop}
    (hk : ∀ h1, WP h1 w tb O S B G os ss bs (lst n fun k => if k = i.toNat then v else ff k) → Only (In G) h h1 → h1.size = h.size → K h1) :
    0 ≤ i ∧ i < (G.len : Int) ∧ Nn G.a fun l => wok h l.b (l.o + i.toNat * 1) 1 ∧ Bind ((TV.int .i64 v).put h l.b (l.o + i.toNat * 1)) K :=
  p.f.put_in (sz := 1) (n := 1) (t := .int .i64 v) h0 (by simp; omega) rfl rfl fun h2 o2 f2 s2 => hk h2 ⟨p.var.only f2 p.now.2.2.2, p.o.keep f2 p.of, p.s.keep f2 p.sf, p.b.keep f2 p.bf, by rw [← lst_set]; simpa [nums, List.map_set] using o2, p.now, p.os_, p.ob, p.of, p.sb, p.sf, p.bf⟩ f2 s2

theorem nodeR_at {i : Int} {x : Nd} (h0 : 0 ≤ i) (hx : L[i.toNat]? = some x) : nodeR L i = (x, true) := by
  unfold nodeR nodeAt
  rw [if_pos h0, hx]

/-- Whether a place is a better child than another one, or than none. -/
def ahdO (s : Nat → Int) (r : Nat → List UInt8) (i : Nat) : Option Nat → Bool
  | none => true
  | some b => ahd s r i b

theorem ahead_spec {s : Nat → Int} (p : WP h w tb O S B G os (lst n s) bs fs) (t : TrP h tb r A L most) (hn : L.length = n) {i : Nat} {k : Option Nat} (hi : i < n) (hk : ∀ b, k = some b → b < n)
    (hr : ∀ h', Ext h h' → R (TV.bool (ahdO s (rootN L) i k)).val h') :
    CallsH Try.prog F.weigh_Weights_ahead (TVs.vals [.ptr (some ⟨w, 0⟩), .int .i64 (i : Int), .int .i64 (optI k)]) h R := by
  apply weigh_Weights_ahead_calls
  unfold weigh_Weights_ahead_vc
  intro J HJ
  intro J2 HJ2
  cases k with
  | none =>
    refine If.dec.2 ⟨fun _ => ?_, fun hh => absurd (by decide) hh⟩
    exact HJ2 true h (If.yes (If.dec.2 ⟨fun _ => hr h (Ext.refl h), fun hh => absurd (by decide) hh⟩))
  | some b =>
    have hb := hk b rfl
    have eb : ¬ (optI (some b) < 0) := by simp only [optI]; omega
    have ti : ((i : Int)).toNat = i := rfl
    have tk : (optI (some b)).toNat = b := rfl
    refine If.dec.2 ⟨fun hh => absurd hh eb, fun _ => ?_⟩
    refine ⟨S, p.var.at1 rfl, nums_at p.s (by omega) (v := s i) (by rw [ti]; exact lst_at s hi) ⟨S, p.var.at1 rfl, nums_at p.s (by simp only [optI]; omega) (v := s b) (by rw [tk]; exact lst_at s hb) ?_⟩⟩
    refine HJ2 _ h (If.split (fun hne => If.dec.2 ⟨fun hh => absurd hh eb, fun _ => ?_⟩) fun he => ?_)
    · refine ⟨S, p.var.at1 rfl, nums_at p.s (by omega) (v := s i) (by rw [ti]; exact lst_at s hi) ⟨S, p.var.at1 rfl, nums_at p.s (by simp only [optI]; omega) (v := s b) (by rw [tk]; exact lst_at s hb) ?_⟩⟩
      have hne : ¬ s i = s b := by simpa using hne
      have := hr h (Ext.refl h)
      simp only [ahdO, ahd, hne, decide_false, Bool.false_and, Bool.or_false] at this
      exact this
    · have he : s i = s b := by simpa using he
      refine HJ false h ?_
      have hx : L[i]? = some L[i] := List.getElem?_eq_getElem (by omega)
      have hy : L[b]? = some L[b] := List.getElem?_eq_getElem (by omega)
      refine ⟨some ⟨tb, 0⟩, p.var.at1 rfl, Node_spec t fun h1 x1 => ⟨_, _, _, _, rfl, ?_⟩⟩
      rw [nodeR_at (i := (i : Int)) (by omega) hx]
      refine newTV_in fun h2 v2 x2 s2 => put_in v2 (t := L[i].tv) rfl fun h3 v3 f3 s3 => ?_
      have x13 : Ext h1 h3 := Only.cut x2 f3 fun i hi => by omega
      have x03 := x1.trans x13
      refine ⟨some ⟨tb, 0⟩, (p.var.ext x03).at1 rfl, Node_spec (t.ext x03) fun h4 x4 => ⟨_, _, _, _, rfl, ?_⟩⟩
      rw [nodeR_at (i := optI (some b)) (by simp only [optI]; omega) (by rw [tk]; exact hy)]
      refine newTV_in fun h5 v5 x5 s5 => put_in v5 (t := L[b].tv) rfl fun h6 v6 f6 s6 => ?_
      have x46 : Ext h4 h6 := Only.cut x5 f6 fun i hi => by omega
      refine ⟨_, v6.at.1, _, ((Var.ext (t := L[i].tv) v3 x4).ext x46).at.1, Less_spec fun h7 x7 => ⟨_, rfl, ?_⟩⟩
      have := hr h7 (((x03.trans x4).trans x46).trans x7)
      have hlt : ¬ s b < s i := by omega
      simp only [ahdO, ahd, he, decide_true, Bool.true_and, rootN_at hx, rootN_at hy] at this
      simpa using this

set_option maxRecDepth 10000 in
theorem rank_spec {s : Nat → Int} (p : WP h w tb O S B G os (lst n s) bs fs) (t : TrP h tb r A L most) (ap : ∀ i, TrMine tb r A i → ¬ WMine w O S B G i) (hn : L.length = n) (l2 : bs.length = n) (l3 : fs.length = n)
    (hr : ∀ h', WP h' w tb O S B G os (lst n s) (lst n fun k => optI (bestK n (parN L) s (rootN L) k)) (lst n fun k => (leafP n (parN L) s (rootN L) k : Int)) → Only (fun i => In B i ∨ In G i) h h' → R (TV.tup []).val h') :
    CallsH Try.prog F.weigh_Weights_rank (TVs.vals [.ptr (some ⟨w, 0⟩)]) h R := by
  apply weigh_Weights_rank_calls
  unfold weigh_Weights_rank_vc
  have up : Up n (parN L) := hn ▸ t.ok.tree
  have nm : Names n (rootN L) := hn ▸ t.ok.names
  have hlen := t.ok.len
  have hmost := t.ok.most
  have n0 : 0 < n := by have := t.ok.len1; omega
  have lb := p.lb
  have keepT : ∀ {hh : Heap}, Only (fun i => In B i ∨ In G i) h hh → TrP hh tb r A L most := fun f => t.only f fun i hi hx => ap i hi (hx.elim (fun h => .inr (.inr (.inr (.inl h)))) fun h => .inr (.inr (.inr (.inr h))))
  rw [lst_of l2, lst_of l3] at p
  refine ⟨B, p.var.at1 rfl, fun σ hh => 0 ≤ σ ∧ σ ≤ n ∧ ∃ bf ff, WP hh w tb O S B G os (lst n s) (lst n bf) (lst n ff) ∧ (∀ k : Nat, (k : Int) < σ → bf k = -1 ∧ ff k = k) ∧ Only (fun i => In B i ∨ In G i) h hh,
    fun σ _ => ((n : Int) - σ).toNat, ⟨Int.le_refl 0, by omega, _, _, p, fun k hk => by omega, Only.refl _ _⟩, ?_⟩
  rintro σ h1 ⟨a0, a1, bf, ff, p1, e1, f1⟩
  refine If.dec.2 ⟨fun hlt => ?_, fun hge => ?_⟩
  · refine ⟨B, p1.var.at1 rfl, G, p1.var.at1 rfl, p1.putB a0 (by omega) fun h2 p2 f2 s2 => p2.putG a0 (by omega) fun h3 p3 f3 s3 => ?_⟩
    rw [wrap_i64 (n := σ + 1) (by omega) (by omega)]
    refine ⟨⟨by omega, by omega, _, _, p3, fun k hk => ?_, (f1.trans (f2.mono fun i hi => .inl hi)).trans (f3.mono fun i hi => .inr hi)⟩, by show ((n : Int) - (σ + 1)).toNat < ((n : Int) - σ).toNat; omega⟩
    by_cases hk2 : k = σ.toNat
    · rw [if_pos hk2, if_pos hk2]; exact ⟨rfl, by omega⟩
    · rw [if_neg hk2, if_neg hk2]; exact e1 k (by omega)
  have hσ : σ = n := by omega
  have e0 : lst n bf = lst n fun k => optI ((fun _ => none : Nat → Option Nat) k) := lst_congr fun k hk => (e1 k (by omega)).1
  have e0' : lst n ff = lst n fun k => (k : Int) := lst_congr fun k hk => (e1 k (by omega)).2
  rw [e0, e0'] at p1
  refine ⟨B, p1.var.at1 rfl, ?_⟩
  rw [← lb, l2, wrap_i64 (n := (n : Int) - 1) (by omega) (by omega)]
  refine ⟨fun σ hh => 0 ≤ σ ∧ σ < n ∧ ∃ best : Nat → Option Nat, WP hh w tb O S B G os (lst n s) (lst n fun k => optI (best k)) (lst n fun k => (k : Int)) ∧ Ranked n (parN L) s (rootN L) (σ.toNat + 1) best ∧ Only (fun i => In B i ∨ In G i) h hh,
    fun σ _ => σ.toNat, ⟨by omega, by omega, _, p1, ?_, f1⟩, ?_⟩
  · have : ((n : Int) - 1).toNat + 1 = n := by omega
    rw [this]
    exact ranked_end _ fun _ => rfl
  rintro τ h2 ⟨b0, b1, best, p2, rk, f2⟩
  have t2 := keepT f2
  refine If.dec.2 ⟨fun hgt => ?_, fun hle => ?_⟩
  · have hx : L[τ.toNat]? = some L[τ.toNat] := List.getElem?_eq_getElem (by omega)
    obtain ⟨x, hxe⟩ : ∃ x, x = L[τ.toNat] := ⟨_, rfl⟩
    rw [← hxe] at hx
    have hu := t.ok.up _ x hx (by omega)
    have hp := parN_at hx
    refine ⟨some ⟨tb, 0⟩, p2.var.at1 rfl, Node_spec t2 fun h3 x3 => ⟨_, _, _, _, rfl, ?_⟩⟩
    rw [nodeR_at b0 hx]
    refine newTV_in fun h4 v4 x4 s4 => put_in v4 (t := x.tv) rfl fun h5 v5 f5 s5 => ?_
    have x35 : Ext h3 h5 := Only.cut x4 f5 fun i hi => by omega
    have x25 := x3.trans x35
    have p5 := p2.ext x25
    have pb : optI (best (parN L τ.toNat)) = (fun k => optI (best k)) x.par.toNat := by rw [hp]
    refine ⟨B, p5.var.at1 rfl, x.par, v5.at.2.2, nums_at p5.b hu.1 (lst_at _ (by omega)) ?_⟩
    have eτ : τ = ((τ.toNat : Nat) : Int) := by omega
    rw [eτ]
    have bl : ∀ b, best x.par.toNat = some b → b < n := fun b hb => by
      have h9 := rk x.par.toNat (by omega)
      rw [hb] at h9
      exact (mem_kids.1 (mem_kidsFrom.1 h9.1).1).2.1
    refine ahead_spec p5 (t2.ext x25) hn (by omega) bl fun h6 x6 => ⟨_, rfl, ?_⟩
    have p6 := p5.ext x6
    have f6 := f2.trans (Only.of_ext (S := fun i => In B i ∨ In G i) (x25.trans x6))
    have step := ranked_step nm (i := τ.toNat) (by omega) (by omega) rk
    rw [wrap_i64 (n := ((τ.toNat : Nat) : Int) - 1) (by omega) (by omega)]
    have e9 : ((((τ.toNat : Nat) : Int) - 1).toNat) + 1 = τ.toNat := by omega
    have v6 : Var T.tree_Node h6 h3.size x.tv := Var.ext (t := x.tv) v5 x6
    refine If.split (fun hy => ?_) fun hn' => ?_
    · refine ⟨B, p6.var.at1 rfl, x.par, v6.at.2.2, p6.putB hu.1 (by omega) fun h7 p7 f7 s7 => ?_⟩
      refine ⟨⟨by omega, by omega, _, ?_, by rw [e9]; exact step, f6.trans (f7.mono fun i hi => .inl hi)⟩, by dsimp only; omega⟩
      rw [show (lst n fun k => if k = x.par.toNat then ((τ.toNat : Nat) : Int) else optI (best k)) = lst n fun k => optI (if k = parN L τ.toNat then bestStep s (rootN L) (best k) τ.toNat else best k) from lst_congr fun k _ => ?_] at p7
      · exact p7
      · rw [hp]
        by_cases hk : k = x.par.toNat
        · rw [if_pos hk, if_pos hk, hk]
          unfold bestStep
          cases hb : best x.par.toNat with
          | none => rfl
          | some y =>
            rw [hb] at hy
            simp only [ahdO] at hy
            simp only [hy, if_true]
            rfl
        · rw [if_neg hk, if_neg hk]
    · refine ⟨⟨by omega, by omega, _, ?_, by rw [e9]; exact step, f6⟩, by dsimp only; omega⟩
      rw [show (lst n fun k => optI (best k)) = lst n fun k => optI (if k = parN L τ.toNat then bestStep s (rootN L) (best k) τ.toNat else best k) from lst_congr fun k _ => ?_] at p6
      · exact p6
      · rw [hp]
        by_cases hk : k = x.par.toNat
        · rw [if_pos hk, hk]
          unfold bestStep
          cases hb : best x.par.toNat with
          | none => rw [hb] at hn'; cases hn'
          | some y =>
            rw [hb] at hn'
            simp only [ahdO] at hn'
            simp [hn']
        · rw [if_neg hk]
  have eb : (lst n fun k => optI (best k)) = lst n fun k => optI (bestK n (parN L) s (rootN L) k) := lst_congr fun k hk => by rw [ranked_all nm (by omega) rk hk]
  rw [eb] at p2
  refine ⟨B, p2.var.at1 rfl, ?_⟩
  rw [← lb, l2, wrap_i64 (n := (n : Int) - 1) (by omega) (by omega)]
  refine ⟨fun σ hh => -1 ≤ σ ∧ σ < n ∧ ∃ ff : Nat → Int, WP hh w tb O S B G os (lst n s) (lst n fun k => optI (bestK n (parN L) s (rootN L) k)) (lst n ff) ∧ (∀ k : Nat, k < n → if σ < (k : Int) then ff k = leafP n (parN L) s (rootN L) k else ff k = k) ∧ Only (fun i => In B i ∨ In G i) h hh,
    fun σ _ => (σ + 1).toNat, ⟨by omega, by omega, _, p2, fun k hk => by rw [if_neg (by omega)], f2⟩, ?_⟩
  rintro ρ h3 ⟨c0, c1, ff, p3, e3, f3⟩
  refine If.dec.2 ⟨fun hge => ?_, fun hlt => ?_⟩
  · refine ⟨B, p3.var.at1 rfl, nums_at p3.b hge (lst_at _ (by omega)) ?_⟩
    have hρn : ρ.toNat < n := by omega
    have ls := leaf_step up nm (s := s) hρn
    rw [wrap_i64 (n := ρ - 1) (by omega) (by omega)]
    cases hb : bestK n (parN L) s (rootN L) ρ.toNat with
    | none =>
      rw [hb] at ls
      refine If.dec.2 ⟨fun hh => absurd hh (by decide), fun _ => ?_⟩
      refine ⟨⟨by omega, by omega, ff, p3, fun k hk => ?_, f3⟩, by dsimp only; omega⟩
      have := e3 k hk
      by_cases hk2 : ρ < (k : Int)
      · rw [if_pos hk2] at this; rw [if_pos (by omega)]; exact this
      · rw [if_neg hk2] at this
        by_cases hk3 : k = ρ.toNat
        · rw [if_pos (by omega), this, hk3, ls]
        · rw [if_neg (by omega)]; exact this
    | some b =>
      rw [hb] at ls
      have hbu := bestK_up up nm hb
      refine If.dec.2 ⟨fun _ => ?_, fun hh => absurd (by simp only [optI]; omega) hh⟩
      have tk : (optI (some b)).toNat = b := rfl
      refine ⟨G, p3.var.at1 rfl, G, p3.var.at1 rfl, nums_at p3.f (by simp only [optI]; omega) (v := ff b) (by rw [tk]; exact lst_at ff hbu.2.1) (p3.putG hge (by omega) fun h4 p4 f4 s4 => ?_)⟩
      refine ⟨⟨by omega, by omega, _, p4, fun k hk => ?_, f3.trans (f4.mono fun i hi => .inr hi)⟩, by dsimp only; omega⟩
      have h9 := e3 b hbu.2.1
      rw [if_pos (by omega)] at h9
      have := e3 k hk
      by_cases hk3 : k = ρ.toNat
      · rw [if_pos (by omega), if_pos hk3, hk3, ls, h9]
      · rw [if_neg hk3]
        by_cases hk2 : ρ < (k : Int)
        · rw [if_pos hk2] at this; rw [if_pos (by omega)]; exact this
        · rw [if_neg hk2] at this; rw [if_neg (by omega)]; exact this
  · rw [show lst n ff = lst n fun k => (leafP n (parN L) s (rootN L) k : Int) from lst_congr fun k hk => by have := e3 k hk; rw [if_pos (by omega)] at this; exact this] at p3
    exact hr h3 p3 f3

end
end Go.Proofs.Ytldocdpdjdekiaa.Gate
end

section
/- Sums over trees of numbers, continued: each place counts for all that stands above it; the way up. -/
namespace Go.Proofs.Ytldocdpdjdekiaa.Gate
open Go Go.Vc

section
variable {n : Nat} {par : Nat → Nat}

def tot (n : Nat) (f : Nat → Int) : Int := ((List.range n).map f).sum

theorem wt_zero (f k : Nat) : wt n par (fun _ => 0) f k = 0 := by
  have : ∀ f k, wt n par (fun _ => 0) f k = 0 := by
    intro f
    induction f with
    | zero => intro k; rfl
    | succ f ih =>
      intro k
      unfold wt
      rw [sum_zero fun x _ => ih x]
      rfl
  exact this f k

theorem sumW_zero (k : Nat) : sumW n par (fun _ => 0) k = 0 := wt_zero n k

end
end Go.Proofs.Ytldocdpdjdekiaa.Gate
end

section
/- The conditions of functions, as the generator reckons them out, each with the proof that it is that. -/
namespace Go.Proofs.Ytldocdpdjdekiaa
open Go Go.Vc
set_option maxRecDepth 100000
set_option linter.unusedVariables false

def weigh_New_vc (t : Option Go.Vc.Loc) (h : Heap) (R : Value → Heap → Prop) : Prop := CallsH Try.prog 41 (TVs.vals [.ptr t]) h fun (v : Value) (h : Heap) ↦ ∃ (n : Int), v = TV.val (.int .i64 n) ∧ If (decide (n = 0)) (R (TV.val (.ptr none)) h) (Vc.Bind (newTV h (.agg [.ptr t, .slice Sl.nil, .slice Sl.nil, .slice Sl.nil, .slice Sl.nil]) 222) fun h_1 ↦ CallsH Try.prog 129 (TVs.vals [.ptr (some (Loc.mk h.size 0))]) h_1 fun v h_2 ↦ v = TV.val (.tup []) ∧ CallsH Try.prog 130 (TVs.vals [.ptr (some (Loc.mk h.size 0))]) h_2 fun v h_3 ↦ v = TV.val (.tup []) ∧ R (TV.val (.ptr (some (Loc.mk h.size 0)))) h_3)
theorem weigh_New_calls (t : Option Go.Vc.Loc) (h : Heap) (R : Value → Heap → Prop) (H : weigh_New_vc t h R) : CallsH Try.prog 105 (TVs.vals [.ptr t]) h R := via ctx_ok Try.func105 (by kernel_rfl) H

end Go.Proofs.Ytldocdpdjdekiaa
end

section
/- The program's weights: new ones, and own weights with some more. -/
namespace Go.Proofs.Ytldocdpdjdekiaa.Gate
open Go Go.Vc

def sumL (L : List Nd) (own : Nat → Int) : Nat → Int := sumW L.length (parN L) own
def bestLf (L : List Nd) (own : Nat → Int) (k : Nat) : Int := optI (bestK L.length (parN L) (sumL L own) (rootN L) k)
def leafLf (L : List Nd) (own : Nat → Int) (k : Nat) : Int := (leafP L.length (parN L) (sumL L own) (rootN L) k : Int)

section
variable {R : Value → Heap → Prop} {h h' : Heap} {w tb r : Nat} {O S B G A : Sl} {L : List Nd} {most : Int} {own : Nat → Int}

/-- Weights in memory that are those of a tree's blocks. -/
abbrev WT (h : Heap) (w tb : Nat) (O S B G : Sl) (L : List Nd) (own : Nat → Int) : Prop := WP h w tb O S B G (lst L.length own) (lst L.length (sumL L own)) (lst L.length (bestLf L own)) (lst L.length (leafLf L own))

theorem no_In {i : Nat} (hi : In Sl.nil i) : False := by obtain ⟨l, hl, _⟩ := hi; cases hl

theorem pad_nil (n : Nat) (v : Int) : pad [] n v = lst n fun _ => v := by
  unfold pad lst
  rw [List.map_const', List.length_range]
  rfl

theorem WNew_spec (t : TrP h tb r A L most) (hr : ∀ h' w O S B G, WT h' w tb O S B G L (fun _ => 0) → Ext h h' → (∀ i, WMine w O S B G i → h.size ≤ i ∧ i < h'.size) → R (TV.ptr (some ⟨w, 0⟩)).val h') :
    CallsH Try.prog F.weigh_New (TVs.vals [.ptr (some ⟨tb, 0⟩)]) h R := by
  apply weigh_New_calls
  unfold weigh_New_vc
  have l1 := t.ok.len1
  refine Len_spec t ⟨_, rfl, If.dec.2 ⟨fun h0 => by omega, fun _ => newTV_in fun h1 v1 x1 s1 => ?_⟩⟩
  have nn : ∀ i, ¬ In Sl.nil i := fun i hi => no_In hi
  have p1 : WP h1 h.size tb Sl.nil Sl.nil Sl.nil Sl.nil [] [] [] [] := ⟨v1, Own.nil .., Own.nil .., Own.nil .., Own.nil .., ⟨nn _, nn _, nn _, nn _⟩, fun i hi => (nn i hi).elim, fun i hi => (nn i hi).elim, fun i hi => (nn i hi).elim, fun i hi => (nn i hi).elim, fun i hi => (nn i hi).elim, fun i hi => (nn i hi).elim⟩
  have mine1 : ∀ i, WMine h.size Sl.nil Sl.nil Sl.nil Sl.nil i → i = h.size := fun i hi => by
    rcases hi with hi | hi | hi | hi | hi
    · exact hi
    all_goals exact (nn i hi).elim
  have t1 := t.ext x1
  refine grow_spec p1 t1 (fun i hi hx => by have := mine1 i hx; have := t.lt hi; omega) rfl rfl rfl (Nat.zero_le _) fun h2 O S B G p2 st2 => ⟨rfl, ?_⟩
  rw [pad_nil, pad_nil] at p2
  have ap2 : ∀ i, TrMine tb r A i → ¬ WMine h.size O S B G i := fun i hi hx => by
    have := t.lt hi
    rcases st2.new i hx with h9 | h9
    · have := mine1 i h9; omega
    · have := x1.size; omega
  have t2 := t1.only st2.only fun i hi hx => by have := mine1 i hx; have := t.lt hi; omega
  have e : lst L.length (fun _ => 0) = lst L.length (sumL L fun _ => 0) := lst_congr fun k _ => (sumW_zero k).symm
  have p2' : WP h2 h.size tb O S B G (lst L.length fun _ => 0) (lst L.length (sumL L fun _ => 0)) (lst L.length fun _ => -1) (lst L.length fun _ => -1) := by rw [← e]; exact p2
  refine rank_spec p2' t2 ap2 rfl (lst_len _ _) (lst_len _ _) fun h3 p3 f3 => ⟨rfl, ?_⟩
  refine hr h3 h.size O S B G p3 (Only.cut (S := fun i => i = h.size ∨ WMine h.size O S B G i) x1 ((st2.only.mono fun i hi => .inl (mine1 i hi)).trans (f3.mono fun i hi => .inr (hi.elim (fun h => .inr (.inr (.inr (.inl h)))) fun h => .inr (.inr (.inr (.inr h)))))) fun i hi => ?_) fun i hi => ⟨?_, p3.lt hi⟩
  · rcases hi with rfl | hi
    · exact Nat.le_refl _
    · rcases st2.new i hi with h9 | h9
      · have := mine1 i h9; omega
      · have := x1.size; omega
  · rcases st2.new i hi with h9 | h9
    · have := mine1 i h9; omega
    · have := x1.size; omega

end
end Go.Proofs.Ytldocdpdjdekiaa.Gate
end

section
/- The program's weights: some more are laid on; what is told of them. -/
namespace Go.Proofs.Ytldocdpdjdekiaa.Gate
open Go Go.Vc

section
variable {R : Value → Heap → Prop} {h h' : Heap} {w tb r : Nat} {O S B G A D : Sl} {L : List Nd} {most : Int} {own : Nat → Int} {n : Nat} {par : Nat → Nat}

end
end Go.Proofs.Ytldocdpdjdekiaa.Gate
end

section
/- The conditions of functions, as the generator reckons them out, each with the proof that it is that. -/
namespace Go.Proofs.Ytldocdpdjdekiaa
open Go Go.Vc
set_option maxRecDepth 100000
set_option linter.unusedVariables false

def table_Table_is_vc (t : Option Go.Vc.Loc) (who : Int) (h : Heap) (R : Value → Heap → Prop) : Prop := If (!Option.isNone t) (If (decide (0 ≤ who)) (Nn t fun l ↦ ∃ (s : Sl), at1 h l.b (l.o + 1) (slVal s) ∧ R (TV.val (.bool (decide (who < (↑s.len : Int))))) h) (R (TV.val (.bool false)) h)) (R (TV.val (.bool false)) h)
theorem table_Table_is_calls (t : Option Go.Vc.Loc) (who : Int) (h : Heap) (R : Value → Heap → Prop) (H : table_Table_is_vc t who h R) : CallsH Try.prog 78 (TVs.vals [.ptr t, .int .i64 who]) h R := via ctx_ok Try.func78 (by kernel_rfl) H

def table_Table_Vote_vc (t : Option Go.Vc.Loc) (who : Int) (h : Heap) (R : Value → Heap → Prop) : Prop := Vc.Bind (newTV h (.agg [.int .i64 0, .int .i64 0, .bytes 32 (Bs.zero 32)]) 95) fun h_1 ↦ CallsH Try.prog 78 (TVs.vals [.ptr t, .int .i64 who]) h_1 fun v h_2 ↦ ∃ (b : Bool), v = TV.val (.bool b) ∧ If (!b) (wok h_2 h.size 0 34 ∧ Vc.Bind (TV.put h_2 h.size 0 (.agg [.int .i64 0, .int .i64 0, .bytes 32 (Bs.zero 32)])) fun h_3 ↦ ∃ (n n_1 : Int), ∃ (b : Bs 32), (at1 h_3 h.size 0 (.int .i64 n) ∧ at1 h_3 h.size 1 (.int .i64 n_1) ∧ atBytes h_3 h.size 2 32 b) ∧ R (TV.val (.tup [.agg [.int .i64 n, .int .i64 n_1, .bytes 32 b], .bool false])) h_3) (Nn t fun l ↦ ∃ (s : Sl), at1 h_2 l.b (l.o + 1) (slVal s) ∧ 0 ≤ who ∧ who < (↑s.len : Int) ∧ Nn s.a fun l ↦ ∃ (p : Option Go.Vc.Loc), at1 h_2 l.b (l.o + Int.toNat who * 1) (Value.pointer (Option.map Loc.addr p)) ∧ If (Option.isNone p) (wok h_2 h.size 0 34 ∧ Vc.Bind (TV.put h_2 h.size 0 (.agg [.int .i64 0, .int .i64 0, .bytes 32 (Bs.zero 32)])) fun h_3 ↦ ∃ (n n_1 : Int), ∃ (b : Bs 32), (at1 h_3 h.size 0 (.int .i64 n) ∧ at1 h_3 h.size 1 (.int .i64 n_1) ∧ atBytes h_3 h.size 2 32 b) ∧ R (TV.val (.tup [.agg [.int .i64 n, .int .i64 n_1, .bytes 32 b], .bool false])) h_3) (Nn t fun l ↦ ∃ (s : Sl), at1 h_2 l.b (l.o + 1) (slVal s) ∧ 0 ≤ who ∧ who < (↑s.len : Int) ∧ Nn s.a fun l ↦ ∃ (p : Option Go.Vc.Loc), at1 h_2 l.b (l.o + Int.toNat who * 1) (Value.pointer (Option.map Loc.addr p)) ∧ Nn p fun l ↦ ∃ (n n_1 : Int), ∃ (b : Bs 32), (at1 h_2 l.b l.o (.int .i64 n) ∧ at1 h_2 l.b (l.o + 1) (.int .i64 n_1) ∧ atBytes h_2 l.b (l.o + 1 + 1) 32 b) ∧ wok h_2 h.size 0 34 ∧ Vc.Bind (TV.put h_2 h.size 0 (.agg [.int .i64 n, .int .i64 n_1, .bytes 32 b])) fun h_3 ↦ ∃ (n n_2 : Int), ∃ (b : Bs 32), (at1 h_3 h.size 0 (.int .i64 n) ∧ at1 h_3 h.size 1 (.int .i64 n_2) ∧ atBytes h_3 h.size 2 32 b) ∧ R (TV.val (.tup [.agg [.int .i64 n, .int .i64 n_2, .bytes 32 b], .bool true])) h_3))
theorem table_Table_Vote_calls (t : Option Go.Vc.Loc) (who : Int) (h : Heap) (R : Value → Heap → Prop) (H : table_Table_Vote_vc t who h R) : CallsH Try.prog 49 (TVs.vals [.ptr t, .int .i64 who]) h R := via ctx_ok Try.func49 (by kernel_rfl) H

def table_Table_Marks_vc (t : Option Go.Vc.Loc) (h : Heap) (R : Value → Heap → Prop) : Prop := If (Option.isNone t) (R (TV.val (.int .i64 0)) h) (Nn t fun l ↦ ∃ (r : Option Nat), at1 h l.b (l.o + 3) (Value.map r) ∧ MapAt h r fun (es : List (TV × TV × Nat)) (c : Nat) ↦ R (TV.val (.int .i64 (↑(List.length es) : Int))) h)
theorem table_Table_Marks_calls (t : Option Go.Vc.Loc) (h : Heap) (R : Value → Heap → Prop) (H : table_Table_Marks_vc t h R) : CallsH Try.prog 48 (TVs.vals [.ptr t]) h R := via ctx_ok Try.func48 (by kernel_rfl) H

end Go.Proofs.Ytldocdpdjdekiaa
end

section
/- The program's table of votes, in memory. -/
namespace Go.Proofs.Ytldocdpdjdekiaa.Gate
open Go Go.Vc

open Board (Vt)

def zeroVt : Vt := ⟨0, 0, Bs.zero 32⟩

abbrev kM (k : Int × Int) : TV := .agg [.int .i64 k.1, .int .i64 k.2]

/-- A pointer to a vote. -/
def VAt (h : Heap) : Option Nat → Option Vt → Prop
  | none, none => True
  | some q, some v => Var T.api_Vote h q v.tv
  | _, _ => False

inductive VAts (h : Heap) : List (Option Nat) → List (Option Vt) → Prop
  | nil : VAts h [] []
  | cons {p v ps vs} : VAt h p v → VAts h ps vs → VAts h (p :: ps) (v :: vs)

theorem VAts.len {h : Heap} {ps : List (Option Nat)} {vs : List (Option Vt)} (a : VAts h ps vs) : ps.length = vs.length := by
  induction a with
  | nil => rfl
  | cons _ _ ih => simp [ih]

theorem VAts.get {h : Heap} {ps : List (Option Nat)} {vs : List (Option Vt)} (a : VAts h ps vs) : ∀ {i : Nat} {v : Option Vt}, vs[i]? = some v → ∃ p, ps[i]? = some p ∧ VAt h p v := by
  induction a with
  | nil => intro i v hv; simp at hv
  | cons h1 _ ih =>
    intro i v hv
    cases i with
    | zero => cases hv; exact ⟨_, rfl, h1⟩
    | succ i => obtain ⟨p, e, hp⟩ := ih (by simpa using hv); exact ⟨p, by simpa using e, hp⟩

theorem VAts.set {h : Heap} {ps : List (Option Nat)} {vs : List (Option Vt)} (a : VAts h ps vs) {p : Option Nat} {v : Option Vt} (hv : VAt h p v) : ∀ i : Nat, VAts h (ps.set i p) (vs.set i v) := by
  induction a with
  | nil => intro i; exact .nil
  | cons h1 a ih =>
    intro i
    cases i with
    | zero => exact .cons hv a
    | succ i => exact .cons h1 (ih i)

theorem VAt.only {S : Nat → Prop} {h h' : Heap} (f : Only S h h') {p : Option Nat} {v : Option Vt} (hs : ∀ q, p = some q → ¬ S q) (a : VAt h p v) : VAt h' p v := by
  cases p with
  | none => cases v with
    | none => trivial
    | some v => exact a
  | some q => cases v with
    | none => exact a
    | some v => exact Var.only a f (hs q rfl)

theorem VAts.only {S : Nat → Prop} {h h' : Heap} (f : Only S h h') {ps : List (Option Nat)} {vs : List (Option Vt)} (a : VAts h ps vs) : (∀ q, some q ∈ ps → ¬ S q) → VAts h' ps vs := by
  induction a with
  | nil => intro _; exact .nil
  | cons h1 a ih => intro hs; exact .cons (h1.only f fun q hq => hs q (by simp [hq])) (ih fun q hq => hs q (List.mem_cons_of_mem _ hq))

theorem VAts.lt {h : Heap} {ps : List (Option Nat)} {vs : List (Option Vt)} (a : VAts h ps vs) : ∀ q, some q ∈ ps → q < h.size := by
  induction a with
  | nil => intro q hq; cases hq
  | @cons p v ps vs h1 a ih =>
    intro q hq
    rcases List.mem_cons.1 hq with hq | hq
    · subst hq
      cases v with
      | none => exact absurd h1 (by simp [VAt])
      | some v => exact Var.lt h1
    · exact ih q hq

abbrev ptrs (ps : List (Option Nat)) : List TV := ps.map fun p => TV.ptr (p.map fun q => ⟨q, 0⟩)
abbrev bls (l : List Bool) : List TV := l.map TV.bool

section
variable {R : Value → Heap → Prop} {h h' : Heap} {b r n : Nat} {La Ou : Sl} {ps : List (Option Nat)} {t : Tb}

/-- A table in memory. -/
structure TbP (h : Heap) (b r : Nat) (La Ou : Sl) (ps : List (Option Nat)) (t : Tb) (n : Nat) : Prop where
  var : Var T.table_Table h b (.agg [.int .i64 t.slots, .slice La, .slice Ou, .map (some r)])
  la : Own T.p_api_Vote 1 h La (ptrs ps)
  vs : VAts h ps t.latest
  ou : Own 4 1 h Ou (bls t.out)
  map : MapG kM kR h r t.first
  ok : TbOk t n
  nla : ¬ In La b ∧ ¬ In La r
  nou : ¬ In Ou b ∧ ¬ In Ou r
  lo : ∀ i, In La i → ¬ In Ou i
  nv : ∀ q, some q ∈ ps → q ≠ b ∧ q ≠ r ∧ ¬ In La q ∧ ¬ In Ou q

def TbMine (b r : Nat) (La Ou : Sl) (ps : List (Option Nat)) (i : Nat) : Prop := i = b ∨ i = r ∨ In La i ∨ In Ou i ∨ some i ∈ ps

theorem TbP.only {S : Nat → Prop} (p : TbP h b r La Ou ps t n) (f : Only S h h') (hs : ∀ i, TbMine b r La Ou ps i → ¬ S i) : TbP h' b r La Ou ps t n :=
  ⟨p.var.only f (hs b (.inl rfl)), p.la.keep f fun i hi => hs i (.inr (.inr (.inl hi))), p.vs.only f fun q hq => hs q (.inr (.inr (.inr (.inr hq)))), p.ou.keep f fun i hi => hs i (.inr (.inr (.inr (.inl hi)))),
    p.map.only f (hs r (.inr (.inl rfl))), p.ok, p.nla, p.nou, p.lo, p.nv⟩
theorem TbP.ext (p : TbP h b r La Ou ps t n) (x : Ext h h') : TbP h' b r La Ou ps t n := p.only (S := fun _ => False) (.of_ext x) fun _ _ hf => hf
theorem TbP.lt (p : TbP h b r La Ou ps t n) {i : Nat} (hi : TbMine b r La Ou ps i) : i < h.size := by
  rcases hi with rfl | rfl | hi | hi | hi
  · exact p.var.lt
  · exact p.map.lt
  · exact p.la.In_lt i hi
  · exact p.ou.In_lt i hi
  · exact p.vs.lt i hi
theorem TbP.ll (p : TbP h b r La Ou ps t n) : La.len = n := by have := p.la.len; rw [List.length_map, p.vs.len, p.ok.llen] at this; exact this.symm

def isT (n : Nat) (who : Int) : Bool := decide (0 ≤ who ∧ who < n)

theorem Is_spec (p : TbP h b r La Ou ps t n) {who : Int} (hr : R (TV.bool (isT n who)).val h) : CallsH Try.prog F.table_Table_is (TVs.vals [.ptr (some ⟨b, 0⟩), .int .i64 who]) h R := by
  apply table_Table_is_calls
  have l := p.ll
  refine If.yes (If.dec.2 ⟨fun h0 => ⟨La, p.var.at1 rfl, ?_⟩, fun h0 => ?_⟩)
  · rw [show isT n who = decide (who < (La.len : Int)) from decide_eq_decide.2 ⟨fun h => by omega, fun h => by omega⟩] at hr
    exact hr
  · rw [show isT n who = false from decide_eq_false fun h => h0 h.1] at hr
    exact hr

theorem Is_nil {who : Int} (hr : R (TV.bool false).val h) : CallsH Try.prog F.table_Table_is (TVs.vals [.ptr none, .int .i64 who]) h R := by
  apply table_Table_is_calls
  exact If.no hr

/-- What is told of a validator's latest vote. -/
def voteR (t : Tb) (who : Int) : Vt × Bool := match latestOf t who with
  | some v => (v, true)
  | none => (zeroVt, false)

theorem vt_at {T : TypeId} {b : Nat} {x : Vt} (v : Var T h b x.tv) {K : Int → Int → Bs 32 → Prop} (hk : K x.who x.slot x.target) :
    ∃ (n m : Int), ∃ (k : Bs 32), (at1 h b 0 (.int .i64 n) ∧ at1 h b 1 (.int .i64 m) ∧ atBytes h b 2 32 k) ∧ K n m k := ⟨_, _, _, v.at, hk⟩

theorem ptr_at {A : Sl} (o : Own T.p_api_Vote 1 h A (ptrs ps)) {i : Int} (h0 : 0 ≤ i) {p : Option Nat} (hv : ps[i.toNat]? = some p) {K : Option Vc.Loc → Prop} (hk : K (p.map fun q => ⟨q, 0⟩)) :
    0 ≤ i ∧ i < (A.len : Int) ∧ Nn A.a fun l => ∃ q : Option Vc.Loc, at1 h l.b (l.o + i.toNat * 1) (Value.pointer (Option.map Loc.addr q)) ∧ K q := by
  have hl := o.len
  have := (List.getElem?_eq_some_iff.1 hv).1
  rw [List.length_map] at hl
  refine o.elems.read h0 (by omega) fun l t _ ht hat => ?_
  rw [List.getElem?_map, hv] at ht
  cases ht
  exact ⟨_, hat, hk⟩

theorem nil_vote {g : Heap} {q : Nat} (x : Ext h g) (v : Var T.api_Vote g q zeroVt.tv) (hq : h.size ≤ q) (hr : ∀ h', Ext h h' → R (TV.tup [zeroVt.tv, .bool false]).val h') :
    wok g q 0 34 ∧ Bind (TV.put g q 0 zeroVt.tv) fun h_2 => ∃ (n m : Int), ∃ (k : Bs 32), (at1 h_2 q 0 (.int .i64 n) ∧ at1 h_2 q 1 (.int .i64 m) ∧ atBytes h_2 q 2 32 k) ∧ R (TV.val (.tup [.agg [.int .i64 n, .int .i64 m, .bytes 32 k], .bool false])) h_2 :=
  put_in v (t := zeroVt.tv) rfl fun h2 v2 f2 _ => vt_at v2 (hr h2 (Only.cut x f2 fun i hi => by omega))

theorem Vote_nil {who : Int} (hr : ∀ h', Ext h h' → R (TV.tup [zeroVt.tv, .bool false]).val h') : CallsH Try.prog F.table_Table_Vote (TVs.vals [.ptr none, .int .i64 who]) h R := by
  apply table_Table_Vote_calls
  unfold table_Table_Vote_vc
  exact newTV_in fun h1 v1 x1 s1 => Is_nil ⟨_, rfl, If.yes (nil_vote x1 v1 (Nat.le_refl _) hr)⟩

theorem latest_at {i : Int} (o : TbOk t n) (h0 : 0 ≤ i) (h1 : i < n) : ∃ v, t.latest[i.toNat]? = some v ∧ latestOf t i = v := by
  have hl := o.llen
  have : t.latest[i.toNat]? = some (t.latest[i.toNat]'(by omega)) := List.getElem?_eq_getElem (by omega)
  refine ⟨_, this, ?_⟩
  unfold latestOf
  rw [if_pos h0, List.getD_eq_getElem?_getD, this]
  rfl

theorem latest_out {i : Int} (o : TbOk t n) (h : ¬ (0 ≤ i ∧ i < n)) : latestOf t i = none := by
  have hl := o.llen
  unfold latestOf
  split
  · rw [List.getD_eq_getElem?_getD, List.getElem?_eq_none (by omega)]
    rfl
  · rfl

theorem Vote_spec (p : TbP h b r La Ou ps t n) {who : Int} (hr : ∀ h', Ext h h' → R (TV.tup [(voteR t who).1.tv, .bool (voteR t who).2]).val h') : CallsH Try.prog F.table_Table_Vote (TVs.vals [.ptr (some ⟨b, 0⟩), .int .i64 who]) h R := by
  apply table_Table_Vote_calls
  unfold table_Table_Vote_vc
  refine newTV_in fun h1 v1 x1 s1 => Is_spec (p.ext x1) ⟨_, rfl, If.split (fun hn => ?_) fun hy => ?_⟩
  · have hn : ¬ (0 ≤ who ∧ who < n) := of_decide_eq_false (show isT n who = false by simpa using hn)
    unfold voteR at hr
    rw [latest_out p.ok hn] at hr
    exact nil_vote x1 v1 (Nat.le_refl _) hr
  · have hy : 0 ≤ who ∧ who < n := of_decide_eq_true (show isT n who = true by simpa using hy)
    obtain ⟨v, hv, hl⟩ := latest_at p.ok hy.1 hy.2
    obtain ⟨q, hq, hat⟩ := (p.ext x1).vs.get hv
    unfold voteR at hr
    rw [hl] at hr
    refine ⟨La, (p.var.ext x1).at1 rfl, ptr_at (p.ext x1).la hy.1 hq ?_⟩
    cases q with
    | none =>
      cases v with
      | some v => exact absurd hat (by simp [VAt])
      | none => exact If.yes (nil_vote x1 v1 (Nat.le_refl _) hr)
    | some q =>
      cases v with
      | none => exact absurd hat (by simp [VAt])
      | some v =>
        have hat : Var T.api_Vote h1 q v.tv := hat
        refine If.no ⟨La, (p.var.ext x1).at1 rfl, ptr_at (p.ext x1).la hy.1 hq (vt_at hat (put_in v1 (t := v.tv) rfl fun h2 v2 f2 _ => vt_at v2 ?_))⟩
        exact hr h2 (Only.cut x1 f2 fun i hi => by omega)

theorem Marks_spec (p : TbP h b r La Ou ps t n) (hr : R (TV.int .i64 (t.first.length : Int)).val h) : CallsH Try.prog F.table_Table_Marks (TVs.vals [.ptr (some ⟨b, 0⟩)]) h R := by
  apply table_Table_Marks_calls
  exact If.no ⟨some r, p.var.at1 rfl, p.map.len (P := fun m => R (TV.int .i64 (m : Int)).val h) hr⟩

theorem Marks_nil (hr : R (TV.int .i64 0).val h) : CallsH Try.prog F.table_Table_Marks (TVs.vals [.ptr none]) h R := by
  apply table_Table_Marks_calls
  exact If.yes hr

end
end Go.Proofs.Ytldocdpdjdekiaa.Gate
end

section
/- The conditions of functions, as the generator reckons them out, each with the proof that it is that. -/
namespace Go.Proofs.Ytldocdpdjdekiaa
open Go Go.Vc
set_option maxRecDepth 100000
set_option linter.unusedVariables false

def table_New_vc (validators : Int) (slots : Int) (h : Heap) (R : Value → Heap → Prop) : Prop := If (decide (validators < 1)) (R (TV.val (.ptr none)) h) (If (decide (64 < validators)) (R (TV.val (.ptr none)) h) (If (decide (slots < 1)) (R (TV.val (.ptr none)) h) (If (decide (32 < slots)) (R (TV.val (.ptr none)) h) ((0 ≤ validators ∧ validators ≤ validators ∧ (↑8 : Int) * validators ≤ 281474976710656 ∧ validators < 9223372036854775808 ∧ (0 ≤ validators ∧ validators ≤ validators ∧ (↑1 : Int) * validators ≤ 281474976710656 ∧ validators < 9223372036854775808 ∧ Vc.Bind (newTV (Array.push (Array.push (Array.push h (row (zeros (.ptr none) (Int.toNat validators)) 162)) (row (zeros (.bool false) (Int.toNat validators)) 4)) (mapO [] 0)) (.agg [.int .i64 slots, .slice (Sl.mk (some (Loc.mk h.size 0)) (Int.toNat validators) (Int.toNat validators)), .slice (Sl.mk (some (Loc.mk (Array.size (Array.push h (row (zeros (.ptr none) (Int.toNat validators)) 162))) 0)) (Int.toNat validators) (Int.toNat validators)), .map (some (Array.size (Array.push (Array.push h (row (zeros (.ptr none) (Int.toNat validators)) 162)) (row (zeros (.bool false) (Int.toNat validators)) 4))))]) 160) fun h_1 ↦ R (TV.val (.ptr (some (Loc.mk (Array.size (Array.push (Array.push (Array.push h (row (zeros (.ptr none) (Int.toNat validators)) 162)) (row (zeros (.bool false) (Int.toNat validators)) 4)) (mapO [] 0))) 0)))) h_1) ∧ 0 ≤ validators ∧ validators ≤ validators ∧ (↑1 : Int) * validators ≤ 281474976710656 ∧ validators < 9223372036854775808 ∧ Vc.Bind (newTV (Array.push (Array.push (Array.push h (row (zeros (.ptr none) (Int.toNat validators)) 162)) (mapO [] 0)) (row (zeros (.bool false) (Int.toNat validators)) 4)) (.agg [.int .i64 slots, .slice (Sl.mk (some (Loc.mk h.size 0)) (Int.toNat validators) (Int.toNat validators)), .slice (Sl.mk (some (Loc.mk (Array.size (Array.push (Array.push h (row (zeros (.ptr none) (Int.toNat validators)) 162)) (mapO [] 0))) 0)) (Int.toNat validators) (Int.toNat validators)), .map (some (Array.size (Array.push h (row (zeros (.ptr none) (Int.toNat validators)) 162))))]) 160) fun h_1 ↦ R (TV.val (.ptr (some (Loc.mk (Array.size (Array.push (Array.push (Array.push h (row (zeros (.ptr none) (Int.toNat validators)) 162)) (mapO [] 0)) (row (zeros (.bool false) (Int.toNat validators)) 4))) 0)))) h_1) ∧ (0 ≤ validators ∧ validators ≤ validators ∧ (↑1 : Int) * validators ≤ 281474976710656 ∧ validators < 9223372036854775808 ∧ (0 ≤ validators ∧ validators ≤ validators ∧ (↑8 : Int) * validators ≤ 281474976710656 ∧ validators < 9223372036854775808 ∧ Vc.Bind (newTV (Array.push (Array.push (Array.push h (row (zeros (.bool false) (Int.toNat validators)) 4)) (row (zeros (.ptr none) (Int.toNat validators)) 162)) (mapO [] 0)) (.agg [.int .i64 slots, .slice (Sl.mk (some (Loc.mk (Array.size (Array.push h (row (zeros (.bool false) (Int.toNat validators)) 4))) 0)) (Int.toNat validators) (Int.toNat validators)), .slice (Sl.mk (some (Loc.mk h.size 0)) (Int.toNat validators) (Int.toNat validators)), .map (some (Array.size (Array.push (Array.push h (row (zeros (.bool false) (Int.toNat validators)) 4)) (row (zeros (.ptr none) (Int.toNat validators)) 162))))]) 160) fun h_1 ↦ R (TV.val (.ptr (some (Loc.mk (Array.size (Array.push (Array.push (Array.push h (row (zeros (.bool false) (Int.toNat validators)) 4)) (row (zeros (.ptr none) (Int.toNat validators)) 162)) (mapO [] 0))) 0)))) h_1) ∧ 0 ≤ validators ∧ validators ≤ validators ∧ (↑8 : Int) * validators ≤ 281474976710656 ∧ validators < 9223372036854775808 ∧ Vc.Bind (newTV (Array.push (Array.push (Array.push h (row (zeros (.bool false) (Int.toNat validators)) 4)) (mapO [] 0)) (row (zeros (.ptr none) (Int.toNat validators)) 162)) (.agg [.int .i64 slots, .slice (Sl.mk (some (Loc.mk (Array.size (Array.push (Array.push h (row (zeros (.bool false) (Int.toNat validators)) 4)) (mapO [] 0))) 0)) (Int.toNat validators) (Int.toNat validators)), .slice (Sl.mk (some (Loc.mk h.size 0)) (Int.toNat validators) (Int.toNat validators)), .map (some (Array.size (Array.push h (row (zeros (.bool false) (Int.toNat validators)) 4))))]) 160) fun h_1 ↦ R (TV.val (.ptr (some (Loc.mk (Array.size (Array.push (Array.push (Array.push h (row (zeros (.bool false) (Int.toNat validators)) 4)) (mapO [] 0)) (row (zeros (.ptr none) (Int.toNat validators)) 162))) 0)))) h_1) ∧ (0 ≤ validators ∧ validators ≤ validators ∧ (↑8 : Int) * validators ≤ 281474976710656 ∧ validators < 9223372036854775808 ∧ 0 ≤ validators ∧ validators ≤ validators ∧ (↑1 : Int) * validators ≤ 281474976710656 ∧ validators < 9223372036854775808 ∧ Vc.Bind (newTV (Array.push (Array.push (Array.push h (mapO [] 0)) (row (zeros (.ptr none) (Int.toNat validators)) 162)) (row (zeros (.bool false) (Int.toNat validators)) 4)) (.agg [.int .i64 slots, .slice (Sl.mk (some (Loc.mk (Array.size (Array.push h (mapO [] 0))) 0)) (Int.toNat validators) (Int.toNat validators)), .slice (Sl.mk (some (Loc.mk (Array.size (Array.push (Array.push h (mapO [] 0)) (row (zeros (.ptr none) (Int.toNat validators)) 162))) 0)) (Int.toNat validators) (Int.toNat validators)), .map (some h.size)]) 160) fun h_1 ↦ R (TV.val (.ptr (some (Loc.mk (Array.size (Array.push (Array.push (Array.push h (mapO [] 0)) (row (zeros (.ptr none) (Int.toNat validators)) 162)) (row (zeros (.bool false) (Int.toNat validators)) 4))) 0)))) h_1) ∧ 0 ≤ validators ∧ validators ≤ validators ∧ (↑1 : Int) * validators ≤ 281474976710656 ∧ validators < 9223372036854775808 ∧ 0 ≤ validators ∧ validators ≤ validators ∧ (↑8 : Int) * validators ≤ 281474976710656 ∧ validators < 9223372036854775808 ∧ Vc.Bind (newTV (Array.push (Array.push (Array.push h (mapO [] 0)) (row (zeros (.bool false) (Int.toNat validators)) 4)) (row (zeros (.ptr none) (Int.toNat validators)) 162)) (.agg [.int .i64 slots, .slice (Sl.mk (some (Loc.mk (Array.size (Array.push (Array.push h (mapO [] 0)) (row (zeros (.bool false) (Int.toNat validators)) 4))) 0)) (Int.toNat validators) (Int.toNat validators)), .slice (Sl.mk (some (Loc.mk (Array.size (Array.push h (mapO [] 0))) 0)) (Int.toNat validators) (Int.toNat validators)), .map (some h.size)]) 160) fun h_1 ↦ R (TV.val (.ptr (some (Loc.mk (Array.size (Array.push (Array.push (Array.push h (mapO [] 0)) (row (zeros (.bool false) (Int.toNat validators)) 4)) (row (zeros (.ptr none) (Int.toNat validators)) 162))) 0)))) h_1))))
theorem table_New_calls (validators : Int) (slots : Int) (h : Heap) (R : Value → Heap → Prop) (H : table_New_vc validators slots h R) : CallsH Try.prog 106 (TVs.vals [.int .i64 validators, .int .i64 slots]) h R := via ctx_ok Try.func106 (by kernel_rfl) H

end Go.Proofs.Ytldocdpdjdekiaa
end

section
/- The program's table: a new one. -/
namespace Go.Proofs.Ytldocdpdjdekiaa.Gate
open Go Go.Vc

open Board (Vt)

theorem zeros_rep (z : TV) : ∀ n, zeros z n = TVs.cells (List.replicate n z)
  | 0 => rfl
  | n + 1 => by rw [List.replicate_succ]; simp only [zeros, TVs.cells, zeros_rep z n]

theorem vats_new (h : Heap) : ∀ n, VAts h (List.replicate n none) (List.replicate n none)
  | 0 => .nil
  | n + 1 => .cons trivial (vats_new h n)

section
variable {R : Value → Heap → Prop} {h h' : Heap}

def TableCan (v slots : Int) : Prop := 1 ≤ v ∧ v ≤ 64 ∧ 1 ≤ slots ∧ slots ≤ 32

theorem TNew_spec {v slots : Int} (hr0 : ¬ TableCan v slots → R (TV.ptr none).val h)
    (hr : TableCan v slots → ∀ h' b r La Ou ps, TbP h' b r La Ou ps (newTb v.toNat slots) v.toNat → Ext h h' → (∀ i, TbMine b r La Ou ps i → h.size ≤ i) → R (TV.ptr (some ⟨b, 0⟩)).val h') :
    CallsH Try.prog F.table_New (TVs.vals [.int .i64 v, .int .i64 slots]) h R := by
  apply table_New_calls
  unfold table_New_vc
  refine If.dec.2 ⟨fun hh => hr0 (fun hc => by have := hc.1; omega), fun g1 => If.dec.2 ⟨fun hh => hr0 (fun hc => by have := hc.2.1; omega), fun g2 => If.dec.2 ⟨fun hh => hr0 (fun hc => by have := hc.2.2.1; omega), fun g3 => If.dec.2 ⟨fun hh => hr0 (fun hc => by have := hc.2.2.2; omega), fun g4 => ?_⟩⟩⟩⟩
  have can : TableCan v slots := ⟨by omega, by omega, by omega, by omega⟩
  have fin : ∀ (g : Heap) (ql qo qm : Nat), Ext h g → g[ql]? = some (row (zeros (TV.ptr none) v.toNat) T.p_api_Vote) → g[qo]? = some (row (zeros (TV.bool false) v.toNat) 4) → g[qm]? = some (mapO [] 0) → h.size ≤ ql ∧ h.size ≤ qo ∧ h.size ≤ qm ∧ ql ≠ qo ∧ ql ≠ qm ∧ qo ≠ qm →
      Bind (newTV g (.agg [.int .i64 slots, .slice (Sl.mk (some (Loc.mk ql 0)) v.toNat v.toNat), .slice (Sl.mk (some (Loc.mk qo 0)) v.toNat v.toNat), .map (some qm)]) T.table_Table) fun h_1 => R (TV.val (.ptr (some (Loc.mk g.size 0)))) h_1 := by
    rintro g ql qo qm xg e1 e2 e3 ⟨n1, n2, n3, n4, n5, n6⟩
    have l1 := row_lt e1
    have l2 := row_lt e2
    have l3 := (Array.getElem?_eq_some_iff.1 e3).1
    refine newTV_in fun h4 v4 x4 s4 => ?_
    have la : Own T.p_api_Vote 1 g (Sl.mk (some (Loc.mk ql 0)) v.toNat v.toNat) (ptrs (List.replicate v.toNat none)) :=
      ⟨fun t ht => by obtain ⟨x, _, rfl⟩ := List.mem_map.1 ht; rfl, by simp, Nat.le_refl _, .inr ⟨ql, [], rfl, by rw [e1, zeros_rep]; simp [ptrs], by simp⟩⟩
    have lo : Own 4 1 g (Sl.mk (some (Loc.mk qo 0)) v.toNat v.toNat) (bls (List.replicate v.toNat false)) :=
      ⟨fun t ht => by obtain ⟨x, _, rfl⟩ := List.mem_map.1 ht; rfl, by simp, Nat.le_refl _, .inr ⟨qo, [], rfl, by rw [e2, zeros_rep]; simp [bls], by simp⟩⟩
    have mg : MapG kM kR g qm [] := ⟨[], 0, by rw [e3]; simp [encG], rfl, (fun e he => by cases he), List.nodup_nil⟩
    have inl : ∀ i, In (Sl.mk (some (Loc.mk ql 0)) v.toNat v.toNat) i → i = ql := fun i ⟨l, hl, hi⟩ => by cases hl; exact hi.symm
    have ino : ∀ i, In (Sl.mk (some (Loc.mk qo 0)) v.toNat v.toNat) i → i = qo := fun i ⟨l, hl, hi⟩ => by cases hl; exact hi.symm
    have nop : ∀ q, some q ∉ List.replicate v.toNat (none : Option Nat) := fun q hq => by simp [List.mem_replicate] at hq
    refine hr can h4 g.size qm _ _ (List.replicate v.toNat none) ⟨v4, la.ext x4, vats_new _ _, lo.ext x4, mg.ext x4, newTb_ok ⟨by omega, by omega⟩ ⟨by omega, by omega⟩, ⟨fun hi => ?_, fun hi => ?_⟩, ⟨fun hi => ?_, fun hi => ?_⟩, fun i hi hj => ?_, fun q hq => absurd hq (nop q)⟩ (xg.trans x4) ?_
    · have := inl _ hi; omega
    · exact n5 (inl _ hi).symm
    · have := ino _ hi; omega
    · exact n6 (ino _ hi).symm
    · exact n4 ((inl i hi).symm.trans (ino i hj))
    · rintro i (rfl | rfl | hi | hi | hi)
      · exact xg.size
      · exact n3
      · rw [inl i hi]; exact n1
      · rw [ino i hi]; exact n2
      · exact absurd hi (nop i)
  have ext3 : ∀ x y z : Obj, Ext h (((h.push x).push y).push z) := fun x y z => ((Ext.push h x).trans (Ext.push _ y)).trans (Ext.push _ z)
  have g2 : ∀ x y z : Obj, (((h.push x).push y).push z)[((h.push x).push y).size]? = some z := fun x y z => push_get _ _
  have g1 : ∀ x y z : Obj, (((h.push x).push y).push z)[(h.push x).size]? = some y := fun x y z => ((Ext.push ((h.push x).push y) z).same _ (by simp)).trans (push_get _ _)
  have g0 : ∀ x y z : Obj, (((h.push x).push y).push z)[h.size]? = some x := fun x y z => ((Ext.push ((h.push x).push y) z).same _ (by simp; omega)).trans (((Ext.push (h.push x) y).same _ (by simp)).trans (push_get _ _))
  repeat' apply And.intro
  all_goals first
    | omega
    | (refine fin _ _ _ _ (ext3 _ _ _) ?_ ?_ ?_ ?_ <;> first | exact g0 _ _ _ | exact g1 _ _ _ | exact g2 _ _ _ | (simp only [Array.size_push]; omega))

end
end Go.Proofs.Ytldocdpdjdekiaa.Gate
end

section
/- The program's table: a vote is taken. -/
namespace Go.Proofs.Ytldocdpdjdekiaa.Gate
open Go Go.Vc

open Board (Vt)

section
variable {R : Value → Heap → Prop} {h h' : Heap} {b r n : Nat} {La Ou : Sl} {ps : List (Option Nat)} {t : Tb}

end
end Go.Proofs.Ytldocdpdjdekiaa.Gate
end

section
/- Tags: a key as 64 bytes, the tag of texts by a key, tags joined. -/
namespace Go.Proofs.Ytldocdpdjdekiaa.Board
open Go Go.Vc

section
variable {R : Value → Heap → Prop} {h : Heap}

/-! ### The tag of texts by a key -/

/-! ### Tags joined -/

end
end Go.Proofs.Ytldocdpdjdekiaa.Board
end

section
/- Messages as bytes: rows of bits, whether a message can be, its bytes, what one speaker's tag is of. -/
namespace Go.Proofs.Ytldocdpdjdekiaa.Board
open Go Go.Vc
section
variable {R : Value → Heap → Prop} {h : Heap}

/-- A byte of a row is written. -/
theorem Row.set {Q : Nat → Prop} {s : Sl} {bs : List UInt8} (r : Row Q h s bs) {i c : Int} (i0 : 0 ≤ i) (i1 : i < bs.length) (c0 : 0 ≤ c) (c1 : c < 256) {K : Heap → Prop}
    (hk : ∀ h', Row Q h' s (bs.set i.toNat (UInt8.ofNat c.toNat)) → Only Q h h' → K h') : 0 ≤ i ∧ i < (s.len : Int) ∧ Nn s.a fun l => wok h l.b (l.o + i.toNat * 1) 1 ∧ Bind ((TV.int .u8 c).put h l.b (l.o + i.toNat * 1)) K := by
  refine r.own.put_in (t := .int .u8 c) i0 (by rw [List.length_map]; exact i1) rfl rfl fun h1 o1 f1 s1 => hk h1 ⟨?_, r.far, fun j hj => r.new j (by omega)⟩ (r.cut f1)
  have e : byTV (UInt8.ofNat c.toNat) = TV.int .u8 c := by
    unfold byTV
    rw [UInt8.toNat_ofNat']
    congr 1
    omega
  have : bys (bs.set i.toNat (UInt8.ofNat c.toNat)) = (bys bs).set i.toNat (TV.int .u8 c) := by simp [bys, List.map_set, e]
  rw [this]
  exact o1

/-! ### Messages -/

structure Ms where
  kind : Int
  slot : Int
  target : Bs 32
  member : Int
  body : Int
  bits : Sl
  tag : Bs 16
def Ms.tv (m : Ms) : TV := .agg [.int .i64 m.kind, .int .i64 m.slot, .bytes 32 m.target, .int .i64 m.member, .int .u64 m.body, .slice m.bits, .bytes 16 m.tag]

end
end Go.Proofs.Ytldocdpdjdekiaa.Board
end

section
/- A message's bytes, who speaks, its tag, what is signed and checked, its votes. -/
namespace Go.Proofs.Ytldocdpdjdekiaa.Board
open Go Go.Vc
section
variable {R : Value → Heap → Prop} {h : Heap}

theorem app_loose {e : TypeId} {s : Sl} {n : Nat} {new : List Value} {K : Sl → Heap → Prop} (H : vcAppend ctx e s n new h K) : vcAppend ctxL e s n new h K := H

theorem put_n {T : TypeId} {b n : Nat} {t0 t : TV} {K : Heap → Prop} (v : Var T h b t0) (hn : n = t0.size) (hs : t.size = t0.size) (hk : ∀ h1, Var T h1 b t → Only (· = b) h h1 → h1.size = h.size → K h1) : wok h b 0 n ∧ Bind (t.put h b 0) K := by
  subst hn
  exact put_in v hs hk

/-! ### What one speaker's tag is of -/

/-! ### Who speaks -/

end
end Go.Proofs.Ytldocdpdjdekiaa.Board
end

section
/- The document's messages: the same bytes, the same speakers, the same tags. -/
namespace Go.Proofs.Ytldocdpdjdekiaa.Board
open Go Go.Vc
section
variable {R : Value → Heap → Prop} {h : Heap}

/-! ### Rows of bits -/

/-! ### Whether a message can be -/

def yes : List Bool → Nat
  | [] => 0
  | b :: l => (if b = true then 1 else 0) + yes l

/-! ### Who speaks -/

end
end Go.Proofs.Ytldocdpdjdekiaa.Board
end

section
/- The document's bytes, tags, checks and votes: the program's. -/
namespace Go.Proofs.Ytldocdpdjdekiaa.Board
open Go Go.Vc
section
variable {R : Value → Heap → Prop} {h : Heap}

theorem Row.ext {Q : Nat → Prop} {h' : Heap} {s : Sl} {bs : List UInt8} (r : Row Q h s bs) (e : Ext h h') : Row Q h' s bs :=
  ⟨r.own.ext e, r.far, fun i hi => r.new i (Nat.le_trans e.size hi)⟩

/-! ### Two messages, the same -/

end
end Go.Proofs.Ytldocdpdjdekiaa.Board
end

section
/- The conditions of functions, as the generator reckons them out, each with the proof that it is that. -/
namespace Go.Proofs.Ytldocdpdjdekiaa
open Go Go.Vc
set_option maxRecDepth 100000
set_option linter.unusedVariables false

def pool_last_Len_vc (l_ : Sl) (h : Heap) (R : Value → Heap → Prop) : Prop := R (TV.val (.int .i64 (↑l_.len : Int))) h
theorem pool_last_Len_calls (l_ : Sl) (h : Heap) (R : Value → Heap → Prop) (H : pool_last_Len_vc l_ h R) : CallsH Try.prog 97 (TVs.vals [.slice l_]) h R := via ctx_ok Try.func97 (by kernel_rfl) H

def pool_Pool_Len_vc (p : Option Go.Vc.Loc) (h : Heap) (R : Value → Heap → Prop) : Prop := If (Option.isNone p) (R (TV.val (.int .i64 0)) h) (Nn p fun l ↦ ∃ (s : Sl), at1 h l.b l.o (slVal s) ∧ CallsH Try.prog 97 (TVs.vals [.slice s]) h fun (v : Value) (h : Heap) ↦ ∃ (n : Int), v = TV.val (.int .i64 n) ∧ R (TV.val (.int .i64 n)) h)
theorem pool_Pool_Len_calls (p : Option Go.Vc.Loc) (h : Heap) (R : Value → Heap → Prop) (H : pool_Pool_Len_vc p h R) : CallsH Try.prog 62 (TVs.vals [.ptr p]) h R := via ctx_ok Try.func62 (by kernel_rfl) H

def pool_New_vc (most : Int) (quota : Int) (h : Heap) (R : Value → Heap → Prop) : Prop := If (decide (most < 1)) (R (TV.val (.ptr none)) h) (If (decide (64 < most)) (R (TV.val (.ptr none)) h) (If (decide (quota < 1)) (R (TV.val (.ptr none)) h) (If (decide (64 < quota)) (R (TV.val (.ptr none)) h) (Vc.Bind (newTV h (.agg [.slice Sl.nil, .int .i64 most, .int .i64 quota]) 165) fun h_1 ↦ R (TV.val (.ptr (some (Loc.mk h.size 0)))) h_1))))
theorem pool_New_calls (most : Int) (quota : Int) (h : Heap) (R : Value → Heap → Prop) (H : pool_New_vc most quota h R) : CallsH Try.prog 52 (TVs.vals [.int .i64 most, .int .i64 quota]) h R := via ctx_ok Try.func52 (by kernel_rfl) H

end Go.Proofs.Ytldocdpdjdekiaa
end

section
/- What the small functions of pool do: names, Before, and the heap's own Len, Less, Swap, Push. -/
namespace Go.Proofs.Ytldocdpdjdekiaa.Pool
open Go Go.Vc

/-! ### Items in memory -/

section
variable {T : TypeId} {h : Heap} {b : Nat} {x : It} (v : Var T h b x.tv)
include v

end

abbrev its (L : List It) : List TV := L.map It.tv

/-! ### Names -/

theorem str_var {T : TypeId} {h : Heap} {b n c : Nat} {x : Bs n} (v : Var T h b (.bytes n x)) : strAt h ⟨some ⟨b, 0⟩, n, c⟩ x.l :=
  ⟨x.h, .inr ⟨_, rfl, fun j hj => by
    have := v.bytes j (by rw [← x.h]; exact hj)
    rw [this]
    simp [List.getD, hj]⟩⟩

section
variable {R : Value → Heap → Prop} {h : Heap}

theorem less_specS {a b : Bs 32} (hr : ∀ h', Ext h h' → R (TV.bool (Op.bytesLess a.l b.l)).val h') : CallsS Try.prog 117 (TVs.vals [.bytes 32 a, .bytes 32 b]) h R := by
  apply sha_Less_calls
  unfold sha_Less_vc
  refine newTV_in fun h1 v1 x1 s1 => newTV_in fun h2 v2 x2 s2 => ?_
  exact ⟨a.l, str_var (v1.ext x2), b.l, str_var v2, hr _ (x1.trans x2)⟩

theorem less_spec {a b : Bs 32} (hr : ∀ h', Ext h h' → R (TV.bool (Op.bytesLess a.l b.l)).val h') : CallsH Try.prog 117 (TVs.vals [.bytes 32 a, .bytes 32 b]) h R := (less_specS hr).weak

/-! ### The heap's own functions -/

/-- A pool's row of items in memory. -/
structure HL (h : Heap) (b : Nat) (A : Sl) (L : List It) (most quota : Int) : Prop where
  var : Var 165 h b (.agg [.slice A, .int .i64 most, .int .i64 quota])
  own : Own 105 67 h A (its L)
  apart : ¬ In A b
  few : L.length < 1000

section
variable {b : Nat} {A : Sl} {L : List It} {most quota : Int}

theorem HL.len (H : HL h b A L most quota) : L.length = A.len := by have := H.own.len; rwa [List.length_map] at this
theorem HL.ext {h' : Heap} (H : HL h b A L most quota) (x : Ext h h') : HL h' b A L most quota := ⟨H.var.ext x, H.own.ext x, H.apart, H.few⟩
theorem HL.only {h' : Heap} {S : Nat → Prop} (H : HL h b A L most quota) (o : Only S h h') (h1 : ¬ S b) (h2 : ∀ i, In A i → ¬ S i) : HL h' b A L most quota :=
  ⟨H.var.only o h1, H.own.only o (fun l hl => h2 _ ⟨l, hl, rfl⟩), H.apart, H.few⟩

theorem len_spec (hr : R (TV.int .i64 (A.len : Int)).val h) : CallsH Try.prog 97 (TVs.vals [.slice A]) h R := by
  apply pool_last_Len_calls
  exact hr

/-! ### As methods of a heap -/

end
end
end Go.Proofs.Ytldocdpdjdekiaa.Pool
end

section
/- What container/heap does over a pool's row. -/
namespace Go.Proofs.Ytldocdpdjdekiaa.Pool
open Go Go.Vc
section
variable {R : Value → Heap → Prop} {h : Heap} {b : Nat} {A : Sl} {L : List It} {most quota : Int}

end
end Go.Proofs.Ytldocdpdjdekiaa.Pool
end

section
/- A pool's items, in order: Clone, SortFunc, All; the pool as a row in order. -/
namespace Go.Proofs.Ytldocdpdjdekiaa.Pool
open Go Go.Vc
section
variable {R : Value → Heap → Prop} {h : Heap} {b : Nat} {A : Sl} {L : List It} {most quota : Int}

/-! ### The pool as a row in order -/

/-- A pool in memory: S are its items, in order. -/
structure PL (h : Heap) (b : Nat) (A : Sl) (S : List It) (most quota : Int) : Prop where
  srt : Srt S
  names : (S.map It.root).Nodup
  few : S.length < 800
  ex : ∃ L, HL h b A L most quota ∧ HeapFrom 0 L ∧ L.Perm S

def Mine (b : Nat) (A : Sl) (i : Nat) : Prop := i = b ∨ In A i

/-- What a pool's function leaves alone: all but the pool's own blocks. -/
structure Grown (b : Nat) (A : Sl) (h : Heap) (A' : Sl) (h' : Heap) : Prop where
  only : Only (Mine b A) h h'
  new : ∀ i, Mine b A' i → Mine b A i ∨ h.size ≤ i

theorem Grown.refl : Grown b A h A h := ⟨Only.refl _ _, fun _ hi => .inl hi⟩
theorem Grown.of_ext {h' : Heap} (x : Ext h h') : Grown b A h A h' := ⟨Only.of_ext x, fun _ hi => .inl hi⟩
theorem Grown.trans {A' A2 : Sl} {h' h2 : Heap} (g : Grown b A h A' h') (k : Grown b A' h' A2 h2) : Grown b A h A2 h2 := by
  have s1 := g.only.size
  refine ⟨⟨Nat.le_trans s1 k.only.size, fun i hi hn => ?_⟩, fun i hi => ?_⟩
  · rw [k.only.same i (Nat.lt_of_lt_of_le hi s1) (fun hx => ?_), g.only.same i hi hn]
    rcases g.new i hx with h9 | h9
    · exact hn h9
    · omega
  · rcases k.new i hi with h9 | h9
    · exact g.new i h9
    · exact .inr (Nat.le_trans s1 h9)

variable {S : List It}

theorem PL.ext {h' : Heap} (p : PL h b A S most quota) (x : Ext h h') : PL h' b A S most quota := by
  obtain ⟨h1, h2, h3, L, h4, h5⟩ := p
  exact ⟨h1, h2, h3, L, h4.ext x, h5⟩
theorem PL.only {h' : Heap} {Q : Nat → Prop} (p : PL h b A S most quota) (o : Only Q h h') (hq : ∀ i, Mine b A i → ¬ Q i) : PL h' b A S most quota := by
  obtain ⟨h1, h2, h3, L, h4, h5⟩ := p
  exact ⟨h1, h2, h3, L, h4.only o (hq b (.inl rfl)) (fun i hi => hq i (.inr hi)), h5⟩
theorem PL.lt (p : PL h b A S most quota) {i : Nat} (hi : Mine b A i) : i < h.size := by
  obtain ⟨_, _, _, L, h4, _⟩ := p
  rcases hi with rfl | ⟨l, hl, rfl⟩
  · exact h4.var.lt
  · exact h4.own.lt l hl

end
end Go.Proofs.Ytldocdpdjdekiaa.Pool
end

section
/- What a pool's functions do: Has, Of, Len, New, Put. -/
namespace Go.Proofs.Ytldocdpdjdekiaa.Pool
open Go Go.Vc
section
variable {R : Value → Heap → Prop} {h : Heap} {b : Nat} {A : Sl} {L S : List It} {most quota : Int}

/-! ### What is told of a row in order -/

/-! ### A function value that tells of an item -/

theorem lenP_spec (p : PL h b A S most quota) (hr : R (TV.int .i64 (S.length : Int)).val h) : CallsH Try.prog 62 (TVs.vals [.ptr (some ⟨b, 0⟩)]) h R := by
  apply pool_Pool_Len_calls
  unfold pool_Pool_Len_vc
  obtain ⟨hs, hn, hf, L, H, hh, hp⟩ := p
  refine If.no ⟨A, H.var.at1 rfl, len_spec ⟨_, rfl, ?_⟩⟩
  rw [← H.len, hp.length_eq]
  exact hr

/-- New: a pool without items. -/
theorem new_spec {q : Int} (hr0 : ¬ (1 ≤ most ∧ most ≤ 64 ∧ 1 ≤ q ∧ q ≤ 64) → R (TV.ptr none).val h)
    (hr1 : (1 ≤ most ∧ most ≤ 64 ∧ 1 ≤ q ∧ q ≤ 64) → ∀ h', PL h' h.size Sl.nil [] most q → Ext h h' → h'.size = h.size + 1 → R (TV.ptr (some ⟨h.size, 0⟩)).val h') : CallsH Try.prog 52 (TVs.vals [.int .i64 most, .int .i64 q]) h R := by
  apply pool_New_calls
  unfold pool_New_vc
  refine If.dec.2 ⟨fun h1 => hr0 (by omega), fun h1 => If.dec.2 ⟨fun h2 => hr0 (by omega), fun h2 => If.dec.2 ⟨fun h3 => hr0 (by omega), fun h3 => If.dec.2 ⟨fun h4 => hr0 (by omega), fun h4 => ?_⟩⟩⟩⟩
  refine newTV_in fun h1 v1 x1 s1 => hr1 (by omega) h1 ⟨List.Pairwise.nil, List.nodup_nil, by decide, [], ⟨v1, Own.nil _ 67 h1, fun ⟨l, hl, _⟩ => (by cases hl), by decide⟩, fun k _ hk => (by simp at hk), List.Perm.refl _⟩ x1 s1

/-! ### Put -/

end
end Go.Proofs.Ytldocdpdjdekiaa.Pool
end

section
/- What the laws' own small functions do; Take. -/
namespace Go.Proofs.Ytldocdpdjdekiaa.Pool
open Go Go.Vc

section
variable {R : Value → Heap → Prop} {h : Heap} {b : Nat} {A : Sl} {L S : List It} {most quota : Int}

theorem wrap_u8 (n : Int) : IntKind.wrap .u8 n = n % 256 := by
  unfold IntKind.wrap
  show (if (false && _) = true then _ else n % 2 ^ 8) = n % 256
  simp

theorem put_byte {T : TypeId} {h : Heap} {b n i o : Nat} {x : Bs n} {K : Heap → Prop} (v : Var T h b (.bytes n x)) (hi : i < n) (ho : o = i) {c : Int} (h0 : 0 ≤ c) (h1 : c < 256)
    (hk : ∀ h1, Var T h1 b (.bytes n (x.set i (UInt8.ofNat c.toNat))) → Only (· = b) h h1 → h1.size = h.size → K h1) : wok h b o 1 ∧ Bind ((TV.int .u8 c).put h b o) K := by
  subst ho
  have hl : o + (TV.int .u8 c).size ≤ (TV.bytes n x).cells.length := by rw [TV.cells_length]; simp only [TV.size]; omega
  refine ⟨v.wok (by simp only [TV.size]; omega), hk _ ?_ (put_only v hl) (put_size v hl)⟩
  have := put_row (t := .int .u8 c) v hl
  unfold Var
  rw [this]
  congr 2
  simp only [TV.cells, TV.size, Bs.set, List.map_set]
  have e : ((UInt8.ofNat c.toNat).toNat : Int) = c := by
    rw [UInt8.toNat_ofNat']
    omega
  rw [e, List.set_eq_take_append_cons_drop, if_pos (by rw [List.length_map, x.h]; exact hi)]
  simp

def eqIt (x y : It) : Bool := decide (x.slot = y.slot) && (decide (x.root.1 = y.root.1) && (decide (x.peer = y.peer) && (decide (x.fr.1 = y.fr.1) && (decide (x.text = y.text) && true))))

theorem eqIt_iff {x y : It} : eqIt x y = true ↔ x = y := by
  unfold eqIt
  cases x; cases y
  simp only [Bool.and_eq_true, decide_eq_true_eq, and_true, It.mk.injEq]
  constructor
  · rintro ⟨h1, h2, h3, h4, h5⟩
    exact ⟨h1, Bs.ext' h2, h3, Bs.ext' h4, h5⟩
  · rintro ⟨h1, h2, h3, h4, h5⟩
    exact ⟨h1, by rw [h2], h3, by rw [h4], h5⟩

instance : DecidableEq It := fun x y => decidable_of_iff (eqIt x y = true) eqIt_iff

/-! ### Take -/

end
end Go.Proofs.Ytldocdpdjdekiaa.Pool
end

section
/- The document's pool: items in order; what its functions do. -/
namespace Go.Proofs.Ytldocdpdjdekiaa.Pool
open Go Go.Vc

section
variable {R : Value → Heap → Prop} {h : Heap} {m : Nat} {A : Sl} {M : List It} {most quota : Int}

end
end Go.Proofs.Ytldocdpdjdekiaa.Pool
end

section
/- The document's Put does what the program's Put does to the items in order. -/
namespace Go.Proofs.Ytldocdpdjdekiaa.Pool
open Go Go.Vc
section
variable {R : Value → Heap → Prop} {h : Heap} {m : Nat} {A : Sl} {M : List It} {most quota : Int}

end
end Go.Proofs.Ytldocdpdjdekiaa.Pool
end

section
/- Bytes as numbers, as rows of bits, as messages: plain lists, no program in sight. -/
namespace Go.Proofs.Ytldocdpdjdekiaa.Board
open Go Go.Vc

/-! ### Numbers -/

/-! ### Bits -/

/-! ### Messages -/

end Go.Proofs.Ytldocdpdjdekiaa.Board
end

section
/- The program's reader of bytes, and its rows of bits. -/
namespace Go.Proofs.Ytldocdpdjdekiaa.Board
open Go Go.Vc
section
variable {R : Value → Heap → Prop} {h : Heap} {b : Nat} {r : List UInt8} {sh : Bool}

/-! ### Rows of bits -/

end
end Go.Proofs.Ytldocdpdjdekiaa.Board
end

section
/- The program's way from bytes to a message; its name. -/
namespace Go.Proofs.Ytldocdpdjdekiaa.Board
open Go Go.Vc

section
variable {s : List UInt8}

end

section
variable {R : Value → Heap → Prop} {h : Heap}

section
variable {hh : Heap} {q mb : Nat} {r : List UInt8} {sh : Bool} {m : Ms}

end

end
end Go.Proofs.Ytldocdpdjdekiaa.Board
end

section
/- A message's name; the document's reader, rows, bytes, names. -/
namespace Go.Proofs.Ytldocdpdjdekiaa.Board
open Go Go.Vc

section
variable {R : Value → Heap → Prop} {h : Heap} {b : Nat}

/-! ### The document's reader -/

end
end Go.Proofs.Ytldocdpdjdekiaa.Board
end

section
/- The document's way from bytes to a message. -/
namespace Go.Proofs.Ytldocdpdjdekiaa.Board
open Go Go.Vc

section
variable {R : Value → Heap → Prop} {h : Heap}

/-! ### Messages -/

section
variable {hh : Heap} {q mb : Nat} {s : List UInt8} {at_ : Nat} {sh : Bool} {m : Ms}

end

end
end Go.Proofs.Ytldocdpdjdekiaa.Board
end

section
/- The conditions of functions, as the generator reckons them out, each with the proof that it is that. -/
namespace Go.Proofs.Ytldocdpdjdekiaa
open Go Go.Vc
set_option maxRecDepth 100000
set_option linter.unusedVariables false

def orphans_New_vc (most : Int) (quota : Int) (h : Heap) (R : Value → Heap → Prop) : Prop := CallsH Try.prog 52 (TVs.vals [.int .i64 most, .int .i64 quota]) h fun (v : Value) (h : Heap) ↦ ∃ (p : Option Go.Vc.Loc), v = TV.val (.ptr p) ∧ If (Option.isNone p) (R (TV.val (.ptr none)) h) (Vc.Bind (newTV h (.agg [.ptr p]) 128) fun h_1 ↦ R (TV.val (.ptr (some (Loc.mk h.size 0)))) h_1)
theorem orphans_New_calls (most : Int) (quota : Int) (h : Heap) (R : Value → Heap → Prop) (H : orphans_New_vc most quota h R) : CallsH Try.prog 31 (TVs.vals [.int .i64 most, .int .i64 quota]) h R := via ctx_ok Try.func31 (by kernel_rfl) H

def early_New_vc (most : Int) (quota : Int) (h : Heap) (R : Value → Heap → Prop) : Prop := CallsH Try.prog 52 (TVs.vals [.int .i64 most, .int .i64 quota]) h fun (v : Value) (h : Heap) ↦ ∃ (p : Option Go.Vc.Loc), v = TV.val (.ptr p) ∧ If (Option.isNone p) (R (TV.val (.ptr none)) h) (Vc.Bind (newTV h (.agg [.ptr p]) 103) fun h_1 ↦ R (TV.val (.ptr (some (Loc.mk h.size 0)))) h_1)
theorem early_New_calls (most : Int) (quota : Int) (h : Heap) (R : Value → Heap → Prop) (H : early_New_vc most quota h R) : CallsH Try.prog 22 (TVs.vals [.int .i64 most, .int .i64 quota]) h R := via ctx_ok Try.func22 (by kernel_rfl) H

def orphans_Orphans_Len_vc (o : Option Go.Vc.Loc) (h : Heap) (R : Value → Heap → Prop) : Prop := If (Option.isNone o) (R (TV.val (.int .i64 0)) h) (Nn o fun l ↦ ∃ (p : Option Go.Vc.Loc), at1 h l.b l.o (Value.pointer (Option.map Loc.addr p)) ∧ CallsH Try.prog 62 (TVs.vals [.ptr p]) h fun (v : Value) (h : Heap) ↦ ∃ (n : Int), v = TV.val (.int .i64 n) ∧ R (TV.val (.int .i64 n)) h)
theorem orphans_Orphans_Len_calls (o : Option Go.Vc.Loc) (h : Heap) (R : Value → Heap → Prop) (H : orphans_Orphans_Len_vc o h R) : CallsH Try.prog 43 (TVs.vals [.ptr o]) h R := via ctx_ok Try.func43 (by kernel_rfl) H

def early_Early_Len_vc (e : Option Go.Vc.Loc) (h : Heap) (R : Value → Heap → Prop) : Prop := If (Option.isNone e) (R (TV.val (.int .i64 0)) h) (Nn e fun l ↦ ∃ (p : Option Go.Vc.Loc), at1 h l.b l.o (Value.pointer (Option.map Loc.addr p)) ∧ CallsH Try.prog 62 (TVs.vals [.ptr p]) h fun (v : Value) (h : Heap) ↦ ∃ (n : Int), v = TV.val (.int .i64 n) ∧ R (TV.val (.int .i64 n)) h)
theorem early_Early_Len_calls (e : Option Go.Vc.Loc) (h : Heap) (R : Value → Heap → Prop) (H : early_Early_Len_vc e h R) : CallsH Try.prog 27 (TVs.vals [.ptr e]) h R := via ctx_ok Try.func27 (by kernel_rfl) H

end Go.Proofs.Ytldocdpdjdekiaa
end

section
/- Blocks and votes that wait, in the program: New, Has, Len, Put. -/
namespace Go.Proofs.Ytldocdpdjdekiaa.Pool
open Go Go.Vc
open Board (Ms put_n bsz bools)

section
variable {R : Value → Heap → Prop} {h : Heap} {o b : Nat} {A : Sl} {S : List It} {most quota : Int} {T : TypeId}

/-- What waits, in memory: a pointer to a pool. -/
structure WL (T : TypeId) (h : Heap) (o b : Nat) (A : Sl) (S : List It) (most quota : Int) : Prop where
  var : Var T h o (.agg [.ptr (some ⟨b, 0⟩)])
  pl : PL h b A S most quota
  apart : ¬ Mine b A o

theorem WL.ext {h' : Heap} (w : WL T h o b A S most quota) (x : Ext h h') : WL T h' o b A S most quota := ⟨w.var.ext x, w.pl.ext x, w.apart⟩
theorem WL.only {h' : Heap} {Q : Nat → Prop} (w : WL T h o b A S most quota) (f : Only Q h h') (h1 : ¬ Q o) (h2 : ∀ i, Mine b A i → ¬ Q i) : WL T h' o b A S most quota := ⟨w.var.only f h1, w.pl.only f h2, w.apart⟩
theorem WL.grown {h' : Heap} {A' : Sl} {S' : List It} (w : WL T h o b A S most quota) (p : PL h' b A' S' most quota) (g : Grown b A h A' h') : WL T h' o b A' S' most quota :=
  ⟨w.var.only g.only w.apart, p, fun hx => by
    rcases g.new o hx with h1 | h1
    · exact w.apart h1
    · have := w.var.lt; omega⟩

def Ok64 (most quota : Int) : Prop := 1 ≤ most ∧ most ≤ 64 ∧ 1 ≤ quota ∧ quota ≤ 64

theorem onew_spec {q : Int} (hr0 : ¬ Ok64 most q → R (TV.ptr none).val h) (hr1 : Ok64 most q → ∀ h', WL 128 h' (h.size + 1) h.size Sl.nil [] most q → Ext h h' → h'.size = h.size + 2 → R (TV.ptr (some ⟨h.size + 1, 0⟩)).val h') :
    CallsH Try.prog 31 (TVs.vals [.int .i64 most, .int .i64 q]) h R := by
  apply orphans_New_calls
  unfold orphans_New_vc
  refine new_spec (fun hn => ⟨_, rfl, If.yes (hr0 hn)⟩) fun hy h1 p1 x1 s1 => ⟨_, rfl, If.no (newTV_in fun h2 v2 x2 s2 => ?_)⟩
  rw [s1] at v2
  have := hr1 hy h2 ⟨v2, p1.ext x2, fun hx => by have := p1.lt hx; omega⟩ (x1.trans x2) (by omega)
  rw [s1]
  exact this

theorem enew_spec {q : Int} (hr0 : ¬ Ok64 most q → R (TV.ptr none).val h) (hr1 : Ok64 most q → ∀ h', WL 103 h' (h.size + 1) h.size Sl.nil [] most q → Ext h h' → h'.size = h.size + 2 → R (TV.ptr (some ⟨h.size + 1, 0⟩)).val h') :
    CallsH Try.prog 22 (TVs.vals [.int .i64 most, .int .i64 q]) h R := by
  apply early_New_calls
  unfold early_New_vc
  refine new_spec (fun hn => ⟨_, rfl, If.yes (hr0 hn)⟩) fun hy h1 p1 x1 s1 => ⟨_, rfl, If.no (newTV_in fun h2 v2 x2 s2 => ?_)⟩
  rw [s1] at v2
  have := hr1 hy h2 ⟨v2, p1.ext x2, fun hx => by have := p1.lt hx; omega⟩ (x1.trans x2) (by omega)
  rw [s1]
  exact this

theorem olen_spec (w : WL 128 h o b A S most quota) (hr : R (TV.int .i64 (S.length : Int)).val h) : CallsH Try.prog 43 (TVs.vals [.ptr (some ⟨o, 0⟩)]) h R := by
  apply orphans_Orphans_Len_calls
  unfold orphans_Orphans_Len_vc
  exact If.no ⟨_, w.var.at1 rfl, lenP_spec w.pl ⟨_, rfl, hr⟩⟩
theorem elen_spec (w : WL 103 h o b A S most quota) (hr : R (TV.int .i64 (S.length : Int)).val h) : CallsH Try.prog 27 (TVs.vals [.ptr (some ⟨o, 0⟩)]) h R := by
  apply early_Early_Len_calls
  unfold early_Early_Len_vc
  exact If.no ⟨_, w.var.at1 rfl, lenP_spec w.pl ⟨_, rfl, hr⟩⟩
theorem olen_nil (hr : R (TV.int .i64 0).val h) : CallsH Try.prog 43 (TVs.vals [.ptr none]) h R := by
  apply orphans_Orphans_Len_calls
  exact If.yes hr
theorem elen_nil (hr : R (TV.int .i64 0).val h) : CallsH Try.prog 27 (TVs.vals [.ptr none]) h R := by
  apply early_Early_Len_calls
  exact If.yes hr

end
end Go.Proofs.Ytldocdpdjdekiaa.Pool
end

section
/- Scores by peers, as lists of pairs: what is found, laid, struck; the worst; sorted keys. -/
namespace Go.Proofs.Ytldocdpdjdekiaa.Peers
open Go Go.Vc

def get (k : Int) : List (Int × Int) → Option Int
  | [] => none
  | e :: es => if k = e.1 then some e.2 else get k es

def put (k v : Int) : List (Int × Int) → List (Int × Int)
  | [] => [(k, v)]
  | e :: es => if k = e.1 then (e.1, v) :: es else e :: put k v es

def drop (k : Int) : List (Int × Int) → List (Int × Int)
  | [] => []
  | e :: es => if k = e.1 then es else e :: drop k es

def keys (L : List (Int × Int)) : List Int := L.map (·.1)

theorem drop_filter {L : List (Int × Int)} (hn : (keys L).Nodup) (k : Int) : drop k L = L.filter (fun e => decide (e.1 ≠ k)) := by
  induction L with
  | nil => rfl
  | cons e es ih =>
    have hn' : e.1 ∉ keys es ∧ (keys es).Nodup := by simpa [keys] using hn
    unfold drop
    by_cases h : k = e.1
    · rw [if_pos h, List.filter_cons_of_neg (by simp [h])]
      refine (List.filter_eq_self.2 fun x hx => ?_).symm
      simp only [ne_eq, decide_eq_true_eq]
      intro hx2
      exact hn'.1 (List.mem_map.2 ⟨x, hx, by rw [hx2, h]⟩)
    · rw [if_neg h, List.filter_cons_of_pos (by simp; exact fun hx => h hx.symm), ih hn'.2]

theorem put_perm_drop {L : List (Int × Int)} (hn : (keys L).Nodup) (k v : Int) : (put k v L).Perm ((k, v) :: drop k L) := by
  induction L with
  | nil => exact List.Perm.refl _
  | cons e es ih =>
    have hn' : e.1 ∉ keys es ∧ (keys es).Nodup := by simpa [keys] using hn
    unfold put drop
    by_cases h : k = e.1
    · rw [if_pos h, if_pos h, h]
    · rw [if_neg h, if_neg h]
      exact ((ih hn'.2).cons e).trans (List.Perm.swap ..)

theorem mem_drop {L : List (Int × Int)} (hn : (keys L).Nodup) {k : Int} {e : Int × Int} : e ∈ drop k L ↔ e ∈ L ∧ e.1 ≠ k := by
  rw [drop_filter hn]
  simp

theorem drop_keys {L : List (Int × Int)} (hn : (keys L).Nodup) (k : Int) : (keys (drop k L)).Nodup := by
  rw [drop_filter hn]
  exact List.Nodup.sublist (List.Sublist.map _ List.filter_sublist) hn

theorem not_mem_drop {L : List (Int × Int)} (hn : (keys L).Nodup) (k : Int) : k ∉ keys (drop k L) := by
  intro h
  obtain ⟨e, he, h2⟩ := List.mem_map.1 h
  exact ((mem_drop hn).1 he).2 h2

theorem put_keys {L : List (Int × Int)} (hn : (keys L).Nodup) (k v : Int) : (keys (put k v L)).Nodup := by
  have h1 := (put_perm_drop hn k v).map (·.1)
  refine h1.nodup_iff.2 ?_
  simp only [List.map_cons, List.nodup_cons]
  exact ⟨not_mem_drop hn k, drop_keys hn k⟩

theorem drop_length {L : List (Int × Int)} {k : Int} (h : k ∈ keys L) : (drop k L).length + 1 = L.length := by
  induction L with
  | nil => simp [keys] at h
  | cons e es ih =>
    unfold drop
    by_cases hk : k = e.1
    · rw [if_pos hk]; rfl
    · rw [if_neg hk]
      simp only [List.length_cons]
      have : k ∈ keys es := by
        simp only [keys, List.map_cons, List.mem_cons] at h
        rcases h with h | h
        · exact absurd h hk
        · exact h
      have := ih this
      omega

/-! ### Sorted keys -/

def leI (x y : Int) : Bool := decide (x ≤ y)
def srt (L : List (Int × Int)) : List Int := (keys L).mergeSort leI

theorem leI_trans (a b c : Int) (h : leI a b = true) (k : leI b c = true) : leI a c = true := by
  unfold leI at *
  simp only [decide_eq_true_eq] at *
  omega
theorem leI_total (a b : Int) : (leI a b || leI b a) = true := by
  unfold leI
  simp only [Bool.or_eq_true, decide_eq_true_eq]
  omega

theorem srt_perm (L : List (Int × Int)) : (srt L).Perm (keys L) := List.mergeSort_perm _ _
theorem srt_sorted (L : List (Int × Int)) : (srt L).Pairwise (fun x y => x ≤ y) := by
  have := List.pairwise_mergeSort leI_trans leI_total (keys L)
  exact this.imp fun h => by simpa [leI] using h

theorem sorted_unique : ∀ {a b : List Int}, a.Perm b → a.Pairwise (fun x y => x ≤ y) → b.Pairwise (fun x y => x ≤ y) → a = b := by
  intro a b hp ha hb
  exact hp.eq_of_pairwise (fun x y _ _ h1 h2 => by omega) ha hb

theorem srt_length (L : List (Int × Int)) : (srt L).length = L.length := by
  rw [(srt_perm L).length_eq]
  simp [keys]

/-! ### Ticks -/

end Go.Proofs.Ytldocdpdjdekiaa.Peers
end

section
/-
  DERIVED: THE SHELF's CONTRACTS AT THIS DUMP, IN PLAIN WORDS (tools/lay-plain.mjs out of 'TryShelf.lean', which tools/lay-shelf.mjs wrote): THE SAME DECLARATIONS UNDER THE SAME NAMES: 'import', 'namespace', 'open', 'def', 'theorem' AND NOTHING ELSE: no command of the shelf's: FOR A HAND-IN. Each laying: the table of numbers ('.._ren') and one theorem, a field a fact of the dump's own or the kernel's comparison; each contract: ONE APPLICATION.
-/
namespace Go.Proofs
open Go.Shelf
def Try.keysA_ren : Go.Shelf.Ren := ⟨fun | 7 => 77 | 10 => 112 | n => n, fun | 23 => 154 | 26 => 3 | 3 => 3 | 28 => 152 | 0 => 0 | 27 => 151 | 33 => 161 | 4 => 4 | n => n, fun | n => n⟩
theorem Try.keysA : Go.Proofs.SlLaysZI.n7 Try.prog Try.keysA_ren := {
  mixed := by kernel_rfl
  f7 := ⟨Try.f77.name, by decide, Try.func77.trans (congrArg some (by kernel_rfl))⟩
  f10 := ⟨Try.f112.name, by decide, Try.func112.trans (congrArg some (by kernel_rfl))⟩
  t0 := Try.underlying0
  a0 := Try.isAgg0
  z0 := Try.sizeOf0
  v0 := Try.zeroValue0
  t4 := Try.underlying4
  a4 := Try.isAgg4
  z4 := Try.sizeOf4
  v4 := Try.zeroValue4
  t23 := Try.underlying154
  a23 := Try.isAgg154
  z23 := Try.sizeOf154
  v23 := Try.zeroValue154
  t26 := Try.underlying3
  a26 := Try.isAgg3
  z26 := Try.sizeOf3
  v26 := Try.zeroValue3
  t27 := Try.underlying151
  a27 := Try.isAgg151
  z27 := Try.sizeOf151
  v27 := Try.zeroValue151
  t28 := Try.underlying152
  a28 := Try.isAgg152
  z28 := Try.sizeOf152
  v28 := Try.zeroValue152
  t33 := Try.underlying161
  a33 := Try.isAgg161
  z33 := Try.sizeOf161
  v33 := Try.zeroValue161 }
def Try.sortedA_ren : Go.Shelf.Ren := ⟨fun | 6 => 76 | 8 => 110 | 9 => 111 | 11 => 131 | 13 => 127 | 12 => 132 | 23 => 143 | 24 => 144 | 14 => 147 | 15 => 148 | 16 => 149 | 17 => 150 | 18 => 151 | 19 => 152 | 20 => 153 | 21 => 154 | 22 => 155 | 25 => 164 | 26 => 160 | 27 => 161 | 28 => 165 | 29 => 166 | 30 => 167 | 31 => 170 | n => n, fun | 26 => 3 | 28 => 152 | 24 => 25 | 0 => 0 | 3 => 3 | 37 => 195 | 48 => 205 | 50 => 58 | 4 => 4 | 40 => 230 | 39 => 229 | 45 => 98 | 5 => 5 | 9 => 9 | 51 => 249 | 55 => 253 | 57 => 257 | 58 => 258 | 33 => 161 | n => n, fun | n => n⟩
theorem Try.sortedA : Go.Proofs.SlLaysZI.n6 Try.prog Try.sortedA_ren := {
  mixed := by kernel_rfl
  f6 := ⟨Try.f76.name, by decide, Try.func76.trans (congrArg some (by kernel_rfl))⟩
  f8 := ⟨Try.f110.name, by decide, Try.func110.trans (congrArg some (by kernel_rfl))⟩
  f11 := ⟨Try.f131.name, by decide, Try.func131.trans (congrArg some (by kernel_rfl))⟩
  t0 := Try.underlying0
  a0 := Try.isAgg0
  z0 := Try.sizeOf0
  v0 := Try.zeroValue0
  t24 := Try.underlying25
  a24 := Try.isAgg25
  z24 := Try.sizeOf25
  v24 := Try.zeroValue25
  t26 := Try.underlying3
  a26 := Try.isAgg3
  z26 := Try.sizeOf3
  v26 := Try.zeroValue3
  t28 := Try.underlying152
  a28 := Try.isAgg152
  z28 := Try.sizeOf152
  v28 := Try.zeroValue152
  i26 := by kernel_rfl }
def Try.sortA_ren : Go.Shelf.Ren := ⟨fun | 5 => 111 | 8 => 127 | 7 => 132 | 19 => 143 | 20 => 144 | 10 => 147 | 11 => 148 | 12 => 149 | 13 => 150 | 14 => 151 | 15 => 152 | 16 => 153 | 17 => 154 | 18 => 155 | 30 => 164 | 31 => 160 | 32 => 161 | 33 => 165 | 34 => 166 | 35 => 167 | 40 => 170 | n => n, fun | 23 => 25 | 25 => 3 | 3 => 3 | 32 => 195 | 22 => 25 | 0 => 0 | 44 => 205 | 46 => 58 | 4 => 4 | 36 => 230 | 35 => 229 | 41 => 98 | 5 => 5 | 9 => 9 | 53 => 249 | 57 => 253 | 63 => 257 | 64 => 258 | n => n, fun | n => n⟩
theorem Try.sortA : Go.Proofs.SlLaysM.n5 Try.prog Try.sortA_ren := {
  mixed := by kernel_rfl
  f5 := ⟨Try.f111.name, by decide, Try.func111.trans (congrArg some (by kernel_rfl))⟩
  f7 := ⟨Try.f132.name, by decide, Try.func132.trans (congrArg some (by kernel_rfl))⟩
  f8 := Try.func127.trans (congrArg some (by kernel_rfl))
  f10 := ⟨Try.f147.name, by decide, Try.func147.trans (congrArg some (by kernel_rfl))⟩
  f11 := ⟨Try.f148.name, by decide, Try.func148.trans (congrArg some (by kernel_rfl))⟩
  f12 := ⟨Try.f149.name, by decide, Try.func149.trans (congrArg some (by kernel_rfl))⟩
  f13 := ⟨Try.f150.name, by decide, Try.func150.trans (congrArg some (by kernel_rfl))⟩
  f14 := ⟨Try.f151.name, by decide, Try.func151.trans (congrArg some (by kernel_rfl))⟩
  f15 := ⟨Try.f152.name, by decide, Try.func152.trans (congrArg some (by kernel_rfl))⟩
  f16 := ⟨Try.f153.name, by decide, Try.func153.trans (congrArg some (by kernel_rfl))⟩
  f17 := ⟨Try.f154.name, by decide, Try.func154.trans (congrArg some (by kernel_rfl))⟩
  f18 := ⟨Try.f155.name, by decide, Try.func155.trans (congrArg some (by kernel_rfl))⟩
  f19 := Try.func143.trans (congrArg some (by kernel_rfl))
  f20 := Try.func144.trans (congrArg some (by kernel_rfl))
  f30 := ⟨Try.f164.name, by decide, Try.func164.trans (congrArg some (by kernel_rfl))⟩
  f31 := Try.func160.trans (congrArg some (by kernel_rfl))
  f32 := Try.func161.trans (congrArg some (by kernel_rfl))
  f33 := ⟨Try.f165.name, by decide, Try.func165.trans (congrArg some (by kernel_rfl))⟩
  f34 := ⟨Try.f166.name, by decide, Try.func166.trans (congrArg some (by kernel_rfl))⟩
  f35 := ⟨Try.f167.name, by decide, Try.func167.trans (congrArg some (by kernel_rfl))⟩
  f40 := ⟨Try.f170.name, by decide, Try.func170.trans (congrArg some (by kernel_rfl))⟩
  t0 := Try.underlying0
  a0 := Try.isAgg0
  z0 := Try.sizeOf0
  v0 := Try.zeroValue0
  t3 := Try.underlying3
  a3 := Try.isAgg3
  z3 := Try.sizeOf3
  v3 := Try.zeroValue3
  t4 := Try.underlying4
  a4 := Try.isAgg4
  z4 := Try.sizeOf4
  v4 := Try.zeroValue4
  t5 := Try.underlying5
  a5 := Try.isAgg5
  z5 := Try.sizeOf5
  v5 := Try.zeroValue5
  t9 := Try.underlying9
  a9 := Try.isAgg9
  z9 := Try.sizeOf9
  v9 := Try.zeroValue9
  t22 := Try.underlying25
  a22 := Try.isAgg25
  z22 := Try.sizeOf25
  v22 := Try.zeroValue25
  t23 := Try.underlying25
  a23 := Try.isAgg25
  z23 := Try.sizeOf25
  v23 := Try.zeroValue25
  t25 := Try.underlying3
  a25 := Try.isAgg3
  z25 := Try.sizeOf3
  v25 := Try.zeroValue3
  t32 := Try.underlying195
  a32 := Try.isAgg195
  z32 := Try.sizeOf195
  v32 := Try.zeroValue195
  t35 := Try.underlying229
  a35 := Try.isAgg229
  z35 := Try.sizeOf229
  v35 := Try.zeroValue229
  t36 := Try.underlying230
  a36 := Try.isAgg230
  z36 := Try.sizeOf230
  v36 := Try.zeroValue230
  t41 := Try.underlying98
  a41 := Try.isAgg98
  z41 := Try.sizeOf98
  v41 := Try.zeroValue98
  t44 := Try.underlying205
  a44 := Try.isAgg205
  z44 := Try.sizeOf205
  v44 := Try.zeroValue205
  t46 := Try.underlying58
  a46 := Try.isAgg58
  z46 := Try.sizeOf58
  v46 := Try.zeroValue58
  t53 := Try.underlying249
  a53 := Try.isAgg249
  z53 := Try.sizeOf249
  v53 := Try.zeroValue249
  t57 := Try.underlying253
  a57 := Try.isAgg253
  z57 := Try.sizeOf253
  v57 := Try.zeroValue253
  t63 := Try.underlying257
  a63 := Try.isAgg257
  z63 := Try.sizeOf257
  v63 := Try.zeroValue257
  t64 := Try.underlying258
  a64 := Try.isAgg258
  z64 := Try.sizeOf258
  v64 := Try.zeroValue258 }
end Go.Proofs
end

section
/- Maps of peers' scores in memory; their keys, sorted. -/
namespace Go.Proofs.Ytldocdpdjdekiaa.Peers
open Go Go.Vc

def intTV (n : Int) : TV := .int .i64 n

def encE (es : List (Int × Int × Nat)) : List (TV × TV × Nat) := es.map fun e => (.int .i64 e.1, .int .i64 e.2.1, e.2.2)
def abs (es : List (Int × Int × Nat)) : List (Int × Int) := es.map fun e => (e.1, e.2.1)

def Stamps (es : List (Int × Int × Nat)) (c : Nat) : Prop := (∀ e ∈ es, e.2.2 < c) ∧ (es.map (·.2.2)).Nodup

/-- A map of scores in memory. -/
def MapI (h : Heap) (r : Nat) (L : List (Int × Int)) : Prop := ∃ es c, h[r]? = some (mapO (encE es) c) ∧ abs es = L ∧ Stamps es c

theorem MapI.ext {h h' : Heap} {r : Nat} {L : List (Int × Int)} (m : MapI h r L) (e : Ext h h') : MapI h' r L := by
  obtain ⟨es, c, h1, h2⟩ := m
  exact ⟨es, c, by rw [e.same r (Array.getElem?_eq_some_iff.1 h1).1, h1], h2⟩
theorem MapI.only {S : Nat → Prop} {h h' : Heap} {r : Nat} {L : List (Int × Int)} (m : MapI h r L) (o : Only S h h') (hs : ¬ S r) : MapI h' r L := by
  obtain ⟨es, c, h1, h2⟩ := m
  exact ⟨es, c, by rw [o.same r (Array.getElem?_eq_some_iff.1 h1).1 hs, h1], h2⟩
theorem MapI.lt {h : Heap} {r : Nat} {L : List (Int × Int)} (m : MapI h r L) : r < h.size := by
  obtain ⟨es, c, h1, h2⟩ := m
  exact (Array.getElem?_eq_some_iff.1 h1).1

theorem find_enc (k : Int) : ∀ es : List (Int × Int × Nat), findE (.int .i64 k) (encE es) = (get k (abs es)).map (TV.int .i64)
  | [] => rfl
  | e :: es => by
    have ih := find_enc k es
    unfold encE abs at ih ⊢
    simp only [List.map_cons, findE, get, keyEq, decide_eq_true_eq]
    by_cases h : k = e.1
    · rw [if_pos h, if_pos h]; rfl
    · rw [if_neg h, if_neg h]; exact ih

theorem put_enc (k v : Int) {c : Nat} {es : List (Int × Int × Nat)} (hs : Stamps es c) :
    ∃ es', putE (.int .i64 k) (.int .i64 v) c (encE es) = encE es' ∧ abs es' = put k v (abs es) ∧ Stamps es' (clockE (.int .i64 k) c (encE es)) := by
  have key : ∀ es : List (Int × Int × Nat), (∃ e', putE (.int .i64 k) (.int .i64 v) c (encE es) = encE e' ∧ abs e' = put k v (abs es) ∧
      ((get k (abs es) = none ∧ e'.map (·.2.2) = es.map (·.2.2) ++ [c]) ∨ (get k (abs es) ≠ none ∧ e'.map (·.2.2) = es.map (·.2.2)))) := by
    intro es
    induction es with
    | nil => exact ⟨[(k, v, c)], rfl, rfl, .inl ⟨rfl, rfl⟩⟩
    | cons e es ih =>
      obtain ⟨e', h1, h2, h3⟩ := ih
      have d1 : encE (e :: es) = (.int .i64 e.1, .int .i64 e.2.1, e.2.2) :: encE es := rfl
      have d2 : abs (e :: es) = (e.1, e.2.1) :: abs es := rfl
      rw [d1, d2]
      simp only [putE, put, get, keyEq, decide_eq_true_eq]
      by_cases h : k = e.1
      · rw [if_pos h, if_pos h, if_pos h]
        exact ⟨(e.1, v, e.2.2) :: es, rfl, rfl, .inr ⟨by simp, rfl⟩⟩
      · rw [if_neg h, if_neg h, if_neg h, h1, ← h2]
        refine ⟨e :: e', rfl, rfl, ?_⟩
        rcases h3 with ⟨h3, h4⟩ | ⟨h3, h4⟩
        · exact .inl ⟨h3, by simp [h4]⟩
        · exact .inr ⟨h3, by simp [h4]⟩
  obtain ⟨e', h1, h2, h3⟩ := key es
  refine ⟨e', h1, h2, ?_⟩
  have hc : clockE (.int .i64 k) c (encE es) = match get k (abs es) with | some _ => c | none => c + 1 := by
    unfold clockE
    rw [find_enc]
    cases get k (abs es) <;> rfl
  rw [hc]
  have hmem : ∀ e ∈ e', e.2.2 ∈ e'.map (·.2.2) := fun e he => List.mem_map.2 ⟨e, he, rfl⟩
  have hold : ∀ x ∈ es.map (·.2.2), x < c := fun x hx => by
    obtain ⟨e, he, rfl⟩ := List.mem_map.1 hx
    exact hs.1 e he
  rcases h3 with ⟨h3, h4⟩ | ⟨h3, h4⟩
  · rw [h3]
    refine ⟨fun e he => ?_, ?_⟩
    · have := hmem e he
      rw [h4] at this
      rcases List.mem_append.1 this with h | h
      · exact Nat.lt_succ_of_lt (hold _ h)
      · rw [List.mem_singleton.1 h]; exact Nat.lt_succ_self _
    · rw [h4]
      refine List.nodup_append.2 ⟨hs.2, by simp, fun a ha b hb => ?_⟩
      rw [List.mem_singleton.1 hb]
      have := hold a ha
      omega
  · cases hg : get k (abs es) with
    | none => exact absurd hg h3
    | some v =>
      refine ⟨fun e he => ?_, by rw [h4]; exact hs.2⟩
      have := hmem e he
      rw [h4] at this
      exact hold _ this

theorem drop_enc (k : Int) {c : Nat} : ∀ {es : List (Int × Int × Nat)}, Stamps es c → ∃ es', dropE (.int .i64 k) (encE es) = encE es' ∧ abs es' = drop k (abs es) ∧ Stamps es' c ∧ es'.Sublist es
  | [], hs => ⟨[], rfl, rfl, hs, List.Sublist.refl _⟩
  | e :: es, hs => by
    have hs' : Stamps es c := ⟨fun x hx => hs.1 x (List.mem_cons_of_mem _ hx), (List.nodup_cons.1 hs.2).2⟩
    obtain ⟨e', h1, h2, h3, h4⟩ := drop_enc k hs'
    have d1 : encE (e :: es) = (.int .i64 e.1, .int .i64 e.2.1, e.2.2) :: encE es := rfl
    have d2 : abs (e :: es) = (e.1, e.2.1) :: abs es := rfl
    rw [d1, d2]
    simp only [dropE, drop, keyEq, decide_eq_true_eq]
    by_cases h : k = e.1
    · rw [if_pos h, if_pos h]
      exact ⟨es, rfl, rfl, hs', List.sublist_cons_self _ _⟩
    · rw [if_neg h, if_neg h, h1, ← h2]
      have hsub := h4.cons_cons e
      refine ⟨e :: e', rfl, rfl, ⟨fun x hx => hs.1 x (hsub.mem hx), hs.2.sublist (hsub.map _)⟩, hsub⟩

/-! ### The keys, sorted -/

theorem sortsA (m : Nat) : AnyZI.SortsIn Try.prog Try.sortedA_ren Fence.wide m :=
  ⟨fun blk off cap ss W hH hblk hsz => callsIn_wide.2 (AnyM.slices_Sort_int Try.sortA blk off cap ss W hH hblk hsz),
   fun p cap W => callsIn_wide.2 (AnyM.slices_Sort_int_none Try.sortA p cap W)⟩

def anyR : Value → Option (DataW Unit × List MemPlace) := fun _ => some (.nil, [])

theorem rg_enc {kt : TypeId} (hk : Try.prog.underlying kt = some (.int .i64)) (x : Int × Int × Nat) (hw : (Lit.int .i64 x.1).wf = true) :
    WideElems.rd Try.prog kt anyR ⟨(TV.int .i64 x.1).val, (TV.int .i64 x.2.1).val, x.2.2⟩ = some (.int .i64 x.1, .nil) := by
  unfold WideElems.rd
  have := Maps.keyOf_int_mk (P := Try.prog) hk hw
  simp only [TV.val]
  rw [this]
  rfl

theorem owns {w : World} {r c : Nat} {es : List (Int × Int × Nat)} (hb : w.heap[r]? = some (mapO (encE es) c)) (hs : Stamps es c) (hn : (keys (abs es)).Nodup) (hw : ∀ k ∈ keys (abs es), (Lit.int .i64 k).wf = true) (hl : es.length ≤ maxLen) :
    ∃ D : DataW Unit, w.ownsMap Try.prog 3 anyR r es.length D ∧ Maps.size D = es.length ∧ (Go.intKeys D).Perm (keys (abs es)) := by
  have hent : mapO (encE es) c = .map (es.map fun x => (⟨(TV.int .i64 x.1).val, (TV.int .i64 x.2.1).val, x.2.2⟩ : MapEntry)).toArray c := by
    unfold mapO encE
    rw [List.map_map]
    rfl
  rw [hent] at hb
  have hk3 : Try.prog.underlying 3 = some (.int .i64) := Try.underlying3
  have hrd : ∀ x ∈ es, WideElems.rd Try.prog 3 anyR ⟨(TV.int .i64 x.1).val, (TV.int .i64 x.2.1).val, x.2.2⟩ = some (.int .i64 x.1, .nil) := fun x hx =>
    rg_enc hk3 x (hw _ (List.mem_map.2 ⟨_, List.mem_map.2 ⟨x, hx, rfl⟩, rfl⟩))
  refine ⟨_, ⟨_, c, hb, ⟨by simpa using hl, ⟨?_, ?_, ?_⟩, ?_⟩, by simp, rfl⟩, ?_, ?_⟩
  · intro x hx
    simp only [List.mem_map] at hx
    obtain ⟨y, hy, rfl⟩ := hx
    exact hs.1 y hy
  · simp only [List.map_map]
    exact hs.2
  · simp only [List.map_map]
    have : (List.map ((fun x : MapEntry => x.key) ∘ fun x : Int × Int × Nat => (⟨(TV.int .i64 x.1).val, (TV.int .i64 x.2.1).val, x.2.2⟩ : MapEntry)) es) = (keys (abs es)).map (fun k => Value.int .i64 k) := by
      unfold keys abs
      simp only [List.map_map]
      rfl
    rw [this]
    exact hn.map _ (fun a b h1 h2 => h1 (by injection h2))
  · intro x hx
    simp only [List.mem_map] at hx
    obtain ⟨y, hy, rfl⟩ := hx
    exact ⟨_, hrd y hy⟩
  · rw [Maps.size_eq, length_sorted]
    simp
  · have hmap : (List.map (WideElems.rg Try.prog 3 anyR) (es.map fun x => (⟨(TV.int .i64 x.1).val, (TV.int .i64 x.2.1).val, x.2.2⟩ : MapEntry))) = es.map fun x => ((Lit.int .i64 x.1, DataW.nil) : Lit × DataW Unit) := by
      rw [List.map_map]
      refine List.map_congr_left fun x hx => ?_
      simp only [Function.comp, WideElems.rg]
      rw [hrd x hx]
      rfl
    rw [hmap]
    have hp := (WideShapes.sorted_perm (es.map fun x => ((Lit.int .i64 x.1, DataW.nil) : Lit × DataW Unit))).map (fun p => Go.intOf p.1)
    refine hp.trans ?_
    rw [List.map_map]
    unfold keys abs
    rw [List.map_map]
    exact List.Perm.refl _

section
variable {R : Value → Heap → Prop} {h : Heap}

def Up (A : Sl) (n : Nat) : Prop := ∀ l, A.a = some l → n ≤ l.b

theorem keys_sorted {r : Nat} {L : List (Int × Int)} (m : MapI h r L) (hn : (keys L).Nodup) (hw : ∀ k ∈ keys L, (Lit.int .i64 k).wf = true) (hl : L.length < 1000000)
    (hr : ∀ h' s, Ext h h' → Own 3 1 h' s ((srt L).map intTV) → Up s h.size → R (TV.slice s).val h') :
    CallsH Try.prog 77 (TVs.vals [.map (some r)]) h fun v h1 => ∃ o : One, v = (TV.one o).val ∧ CallsH Try.prog 76 (TVs.vals [.one o]) h1 R := by
  obtain ⟨es, c, hb, rfl, hs⟩ := m
  have hel : es.length = (abs es).length := by simp [abs]
  intro w hw0
  subst hw0
  have cK := callsIn_wide.1 (AnyZI.keys_in Try.keysA Fence.wide 5 trivial rfl (some r) w)
  refine cK.mono fun e w1 hk => ?_
  obtain ⟨he, rfl⟩ := hk
  refine ⟨⟨rfl, rfl, rfl, fun e => by cases e⟩, _, he, ⟨_, rfl⟩, rfl, ?_⟩
  intro W hW
  have hrl : r < w.heap.size := (Array.getElem?_eq_some_iff.1 hb).1
  have hWr : W.heap[r]? = some (mapO (encE es) c) := by
    rw [hW]
    exact (Ext.push w.heap _).same r hrl ▸ hb
  have hml : es.length ≤ maxLen := by unfold maxLen; omega
  obtain ⟨D, hown, hsz, hperm⟩ := owns hWr hs hn hw hml
  have hWs : W.heap.size = w.heap.size + 1 := by rw [hW]; simp
  have hseq := AnyZI.keys_gives (ρ := Try.keysA_ren) { Try.keysA with } Fence.wide 2 trivial rfl (by omega) w.heap.size r es.length D W (by omega) (by
    rw [cell?_eq]
    unfold cel
    have hW' : W.heap = w.heap.push (.cells #[.map (some r)] (Try.keysA_ren.t 23)) := hW
    rw [hW']
    simp) hown
  have cS := AnyZI.sorted_in Try.sortedA Fence.wide 5 trivial trivial trivial trivial rfl (by omega) (sortsA _) (enters_of Try.func111 (by kernel_rfl) rfl) 112 #[.pointer (some ⟨w.heap.size, 0, none⟩)] trivial (enters_of Try.func112 (by kernel_rfl) rfl) _ _ (by rw [hsz]; exact hml) (by rw [hsz]; omega) W hseq
  refine (callsIn_wide.1 cS).mono fun e w' hx => ?_
  obtain ⟨v, ss, he', hS, hrow, hnil, hbel⟩ := hx
  have hss : ss.mergeSort (fun x y => decide (x ≤ y)) = srt (abs es) := by
    refine sorted_unique ?_ ?_ (srt_sorted _)
    · exact (List.mergeSort_perm _ _).trans ((hS.trans hperm).trans (srt_perm _).symm)
    · have := List.pairwise_mergeSort leI_trans leI_total ss
      exact this.imp fun h => by simpa [leI] using h
  have hx1 : Ext w.heap W.heap := by rw [hW]; exact Ext.push _ _
  have hx2 : Ext W.heap w'.heap := ⟨hbel.size, hbel.block⟩
  have hlen : ss.length = (srt (abs es)).length := by rw [← hss, (List.mergeSort_perm _ _).length_eq]
  refine ⟨⟨hbel.os, hbel.tape, hbel.output, fun e => by cases e⟩, v, he', ?_⟩
  rw [hss] at hrow
  have hcells : ∀ l : List Int, TVs.cells (l.map intTV) = l.map (fun q => Value.int .i64 q) := fun l => by
    induction l with
    | nil => rfl
    | cons x xs ih => simp only [List.map_cons, TVs.cells, ih]; rfl
  rcases hrow.2 with ⟨rfl, h0⟩ | ⟨g, cap, cur, rfl, hg, hgb, h1, h2, h3, h4⟩
  · have : srt (abs es) = [] := List.eq_nil_of_length_eq_zero (by omega)
    have := hr w'.heap Sl.nil (hx1.trans hx2) (by rw [this]; exact Own.nil _ _ _) (fun l hl => by cases hl)
    exact this
  · refine hr w'.heap ⟨some ⟨g, 0⟩, ss.length, cap⟩ (hx1.trans hx2) ⟨?_, by rw [List.length_map]; exact hlen.symm, h1, .inr ⟨g, cur.toList.drop ss.length, rfl, ?_, ?_⟩⟩ ?_
    · intro t ht
      obtain ⟨x, _, rfl⟩ := List.mem_map.1 ht
      rfl
    · rw [hgb, hcells]
      unfold row
      rw [Nat.mul_one] at h4
      have : (List.map (fun q => Value.int .i64 q) (srt (abs es))) = cur.toList.take ss.length := h4.symm
      rw [this, List.take_append_drop]
      rfl
    · simp only [List.length_drop, Array.length_toList, h3, Nat.mul_one]
    · intro l hl
      cases hl
      simp only
      omega

end
end Go.Proofs.Ytldocdpdjdekiaa.Peers
end

section
/- The conditions of functions, as the generator reckons them out, each with the proof that it is that. -/
namespace Go.Proofs.Ytldocdpdjdekiaa
open Go Go.Vc
set_option maxRecDepth 100000
set_option linter.unusedVariables false

def peers_New_1_vc (n : Int) (top : Int) (h : Heap) (R : Value → Heap → Prop) : Prop := If (decide (1 ≤ n)) (R (TV.val (.bool (decide (n ≤ top)))) h) (R (TV.val (.bool false)) h)
theorem peers_New_1_calls (n : Int) (top : Int) (h : Heap) (R : Value → Heap → Prop) (H : peers_New_1_vc n top h R) : CallsH Try.prog 107 (TVs.vals [.int .i64 n, .int .i64 top]) h R := via ctx_ok Try.func107 (by kernel_rfl) H

def peers_New_vc (most : Int) (ban : Int) (decay : Int) (h : Heap) (R : Value → Heap → Prop) : Prop := CallsH Try.prog 107 (TVs.vals [.int .i64 most, .int .i64 16]) h fun (v : Value) (h : Heap) ↦ ∃ (b : Bool), v = TV.val (.bool b) ∧ If (!b) (R (TV.val (.ptr none)) h) (CallsH Try.prog 107 (TVs.vals [.int .i64 ban, .int .i64 1048576]) h fun (v : Value) (h : Heap) ↦ ∃ (b : Bool), v = TV.val (.bool b) ∧ If (!b) (R (TV.val (.ptr none)) h) (CallsH Try.prog 107 (TVs.vals [.int .i64 decay, .int .i64 1048576]) h fun (v : Value) (h : Heap) ↦ ∃ (b : Bool), v = TV.val (.bool b) ∧ If (!b) (R (TV.val (.ptr none)) h) (Vc.Bind (newTV (Array.push h (mapO [] 0)) (.agg [.map (some h.size), .int .i64 most, .int .i64 ban, .int .i64 decay, .int .i64 0]) 156) fun h_1 ↦ R (TV.val (.ptr (some (Loc.mk (Array.size (Array.push h (mapO [] 0))) 0)))) h_1)))
theorem peers_New_calls (most : Int) (ban : Int) (decay : Int) (h : Heap) (R : Value → Heap → Prop) (H : peers_New_vc most ban decay h R) : CallsH Try.prog 70 (TVs.vals [.int .i64 most, .int .i64 ban, .int .i64 decay]) h R := via ctx_ok Try.func70 (by kernel_rfl) H

def peers_Peers_Known_vc (p : Option Go.Vc.Loc) (h : Heap) (R : Value → Heap → Prop) : Prop := If (Option.isNone p) (R (TV.val (.slice Sl.nil)) h) (Nn p fun l ↦ ∃ (r : Option Nat), at1 h l.b l.o (Value.map r) ∧ CallsH Try.prog 77 (TVs.vals [.map r]) h fun (v : Value) (h : Heap) ↦ ∃ (v_1 : Vc.One), v = TV.val (.one v_1) ∧ CallsH Try.prog 76 (TVs.vals [.one v_1]) h fun (v : Value) (h : Heap) ↦ ∃ (s : Sl), v = TV.val (.slice s) ∧ R (TV.val (.slice s)) h)
theorem peers_Peers_Known_calls (p : Option Go.Vc.Loc) (h : Heap) (R : Value → Heap → Prop) (H : peers_Peers_Known_vc p h R) : CallsH Try.prog 46 (TVs.vals [.ptr p]) h R := via ctx_ok Try.func46 (by kernel_rfl) H

end Go.Proofs.Ytldocdpdjdekiaa
end

section
/- What peers' functions do: New, Score, Banned, Known, Gone, worst, Fail. -/
namespace Go.Proofs.Ytldocdpdjdekiaa.Peers
open Go Go.Vc

/-- What rows of scores are good for. -/
structure Good (L : List (Int × Int)) : Prop where
  one : (keys L).Nodup
  fit : ∀ k ∈ keys L, (Lit.int .i64 k).wf = true
  low : ∀ e ∈ L, -1048576 ≤ e.2 ∧ e.2 < 0

def Valid (most ban decay : Int) : Prop := 1 ≤ most ∧ most ≤ 16 ∧ 1 ≤ ban ∧ ban ≤ 1048576 ∧ 1 ≤ decay ∧ decay ≤ 1048576

/-- Peers in memory. -/
structure Pe (h : Heap) (b r : Nat) (L : List (Int × Int)) (most ban decay gone : Int) : Prop where
  var : Var 156 h b (.agg [.map (some r), .int .i64 most, .int .i64 ban, .int .i64 decay, .int .i64 gone])
  map : MapI h r L
  good : Good L
  len : (L.length : Int) ≤ most
  cfg : Valid most ban decay

section
variable {R : Value → Heap → Prop} {h h' : Heap} {b r : Nat} {L : List (Int × Int)} {most ban decay gone : Int}

theorem Pe.ext (p : Pe h b r L most ban decay gone) (e : Ext h h') : Pe h' b r L most ban decay gone := ⟨p.var.ext e, p.map.ext e, p.good, p.len, p.cfg⟩
theorem Pe.only {S : Nat → Prop} (p : Pe h b r L most ban decay gone) (o : Only S h h') (hb : ¬ S b) (hr : ¬ S r) : Pe h' b r L most ban decay gone := ⟨p.var.only o hb, p.map.only o hr, p.good, p.len, p.cfg⟩
theorem Pe.ne (p : Pe h b r L most ban decay gone) : b ≠ r := by
  rintro rfl
  obtain ⟨es, c, h1, _⟩ := p.map
  have := p.var
  unfold Var at this
  rw [h1] at this
  cases this

theorem in_spec {n top : Int} (hr : R (TV.bool (decide (1 ≤ n ∧ n ≤ top))).val h) : CallsH Try.prog 107 (TVs.vals [.int .i64 n, .int .i64 top]) h R := by
  apply peers_New_1_calls
  refine If.dec.2 ⟨fun h1 => ?_, fun h1 => ?_⟩
  · have : decide (1 ≤ n ∧ n ≤ top) = decide (n ≤ top) := by rw [decide_eq_decide]; simp [h1]
    rw [this] at hr
    exact hr
  · have : decide (1 ≤ n ∧ n ≤ top) = false := by rw [decide_eq_false_iff_not]; exact fun hx => h1 hx.1
    rw [this] at hr
    exact hr

theorem New_spec (hr1 : Valid most ban decay → ∀ h', Ext h h' → Pe h' (h.size + 1) h.size [] most ban decay 0 → R (TV.ptr (some ⟨h.size + 1, 0⟩)).val h') (hr2 : ¬ Valid most ban decay → R (TV.ptr none).val h) :
    CallsH Try.prog 70 (TVs.vals [.int .i64 most, .int .i64 ban, .int .i64 decay]) h R := by
  apply peers_New_calls
  unfold peers_New_vc
  refine in_spec ⟨_, rfl, ?_⟩
  refine If.split (fun h1 => hr2 (fun hv => ?_)) (fun h1 => ?_)
  · simp only [Bool.not_eq_true', decide_eq_false_iff_not] at h1
    exact h1 ⟨hv.1, hv.2.1⟩
  refine in_spec ⟨_, rfl, ?_⟩
  refine If.split (fun h2 => hr2 (fun hv => ?_)) (fun h2 => ?_)
  · simp only [Bool.not_eq_true', decide_eq_false_iff_not] at h2
    exact h2 ⟨hv.2.2.1, hv.2.2.2.1⟩
  refine in_spec ⟨_, rfl, ?_⟩
  refine If.split (fun h3 => hr2 (fun hv => ?_)) (fun h3 => ?_)
  · simp only [Bool.not_eq_true', decide_eq_false_iff_not] at h3
    exact h3 hv.2.2.2.2
  simp only [Bool.not_eq_false', decide_eq_true_eq] at h1 h2 h3
  have hv : Valid most ban decay := ⟨h1.1, h1.2, h2.1, h2.2, h3.1, h3.2⟩
  have x1 := Ext.push h (mapO [] 0)
  have hsz : (h.push (mapO [] 0)).size = h.size + 1 := by simp
  obtain ⟨h2, e2, v2, x2, s2⟩ := newTV_spec (h.push (mapO [] 0)) (.agg [.map (some h.size), .int .i64 most, .int .i64 ban, .int .i64 decay, .int .i64 0]) 156
  rw [e2]
  rw [hsz] at v2 ⊢
  have hm : MapI (h.push (mapO [] 0)) h.size [] := ⟨[], 0, by simp [encE], rfl, (fun e he => by cases he), List.nodup_nil⟩
  exact hr1 hv h2 (x1.trans x2) ⟨v2, hm.ext x2, ⟨List.nodup_nil, (fun k hk => by cases hk), (fun e he => by cases he)⟩, by simp; omega, hv⟩

theorem Known_spec (p : Pe h b r L most ban decay gone) (hr : ∀ h' s, Ext h h' → Own 3 1 h' s ((srt L).map intTV) → Up s h.size → R (TV.slice s).val h') :
    CallsH Try.prog 46 (TVs.vals [.ptr (some ⟨b, 0⟩)]) h R := by
  apply peers_Peers_Known_calls
  unfold peers_Peers_Known_vc
  have hl := p.len
  have hc := p.cfg
  unfold Valid at hc
  refine If.no ⟨some r, p.var.at1 rfl, ?_⟩
  refine (keys_sorted p.map p.good.one p.good.fit (by omega) (R := fun v h => ∃ s : Sl, v = (TV.slice s).val ∧ R (TV.slice s).val h) fun h' s x o u => ⟨s, rfl, hr h' s x o u⟩)

/-! ### Fail -/

theorem Good.put (g : Good L) {k v : Int} (hk : (Lit.int .i64 k).wf = true) (hv : -1048576 ≤ v ∧ v < 0) : Good (Peers.put k v L) := by
  have hp := put_perm_drop g.one k v
  refine ⟨put_keys g.one k v, fun x hx => ?_, fun e he => ?_⟩
  · have := (hp.map (·.1)).mem_iff.1 hx
    simp only [List.map_cons, List.mem_cons] at this
    rcases this with rfl | h1
    · exact hk
    · obtain ⟨e, he, rfl⟩ := List.mem_map.1 h1
      exact g.fit _ (List.mem_map.2 ⟨e, ((mem_drop g.one).1 he).1, rfl⟩)
  · have := hp.mem_iff.1 he
    rcases List.mem_cons.1 this with rfl | h1
    · exact hv
    · exact g.low _ ((mem_drop g.one).1 h1).1

theorem Good.drop (g : Good L) (k : Int) : Good (Peers.drop k L) :=
  ⟨drop_keys g.one k, fun x hx => by
    obtain ⟨e, he, rfl⟩ := List.mem_map.1 hx
    exact g.fit _ (List.mem_map.2 ⟨e, ((mem_drop g.one).1 he).1, rfl⟩), fun e he => g.low _ ((mem_drop g.one).1 he).1⟩

theorem set_get {h : Heap} {r : Nat} {o : Obj} (hr : r < h.size) : (h.setIfInBounds r o)[r]? = some o := by simp [hr]

theorem MapI.put {es : List (Int × Int × Nat)} {c : Nat} {k v : Int} (hr : r < h.size) (hs : Stamps es c) : MapI (h.setIfInBounds r (mapO (putE (.int .i64 k) (.int .i64 v) c (encE es)) (clockE (.int .i64 k) c (encE es)))) r (Peers.put k v (abs es)) := by
  obtain ⟨es', h1, h2, h3⟩ := put_enc k v hs
  rw [h1]
  exact ⟨es', _, set_get hr, h2, h3⟩
theorem MapI.drop {es : List (Int × Int × Nat)} {c : Nat} {k : Int} (hr : r < h.size) (hs : Stamps es c) : MapI (h.setIfInBounds r (mapO (dropE (.int .i64 k) (encE es)) c)) r (Peers.drop k (abs es)) := by
  obtain ⟨es', h1, h2, h3, _⟩ := drop_enc k hs
  rw [h1]
  exact ⟨es', _, set_get hr, h2, h3⟩

end
end Go.Proofs.Ytldocdpdjdekiaa.Peers
end

section
/- What a tick does; that peers are alive; calls in memory. -/
namespace Go.Proofs.Ytldocdpdjdekiaa.Peers
open Go Go.Vc

def more (s : Nat → Bool) (b : Nat) : Nat → Bool := fun n => s n || decide (n = b)

section
variable {R : Value → Heap → Prop} {h h' : Heap} {b r : Nat} {L : List (Int × Int)} {most ban decay gone : Int}

end
end Go.Proofs.Ytldocdpdjdekiaa.Peers
end

section
/- The conditions of functions, as the generator reckons them out, each with the proof that it is that. -/
namespace Go.Proofs.Ytldocdpdjdekiaa
open Go Go.Vc
set_option maxRecDepth 100000
set_option linter.unusedVariables false

def clock_New_vc (window : Int) (h : Heap) (R : Value → Heap → Prop) : Prop := Vc.Bind (newTV h (.agg [.int .i64 0, .int .i64 (mn (mx window 1) 64)]) 189) fun h_1 ↦ R (TV.val (.ptr (some (Loc.mk h.size 0)))) h_1
theorem clock_New_calls (window : Int) (h : Heap) (R : Value → Heap → Prop) (H : clock_New_vc window h R) : CallsH Try.prog 71 (TVs.vals [.int .i64 window]) h R := via ctx_ok Try.func71 (by kernel_rfl) H

end Go.Proofs.Ytldocdpdjdekiaa
end

section
/- What the clock's functions do, the program's and the reference's: contracts. -/
namespace Go.Proofs.Ytldocdpdjdekiaa.Clock
open Go Go.Vc

/-- A clock at block b: the slot, and the window. -/
def CI (T : TypeId) (h : Heap) (b : Nat) (n w : Int) : Prop := h[b]? = some (row [.int .i64 n, .int .i64 w] T)

theorem CI.now {T : TypeId} {h : Heap} {b : Nat} {n w : Int} (hc : CI T h b n w) : at1 h b 0 (.int .i64 n) := at1_row hc rfl
theorem CI.win {T : TypeId} {h : Heap} {b : Nat} {n w : Int} (hc : CI T h b n w) : at1 h b 1 (.int .i64 w) := at1_row hc rfl
theorem CI.lt {T : TypeId} {h : Heap} {b : Nat} {n w : Int} (hc : CI T h b n w) : b < h.size := row_lt hc
theorem CI.only {T : TypeId} {h h' : Heap} {b : Nat} {n w : Int} {S : Nat → Prop} (hc : CI T h b n w) (ho : Only S h h') (hs : ¬ S b) : CI T h' b n w := by
  have hl := hc.lt
  unfold CI at *
  rw [ho.same b hl hs, hc]
theorem CI.ext {T : TypeId} {h h' : Heap} {b : Nat} {n w : Int} (hc : CI T h b n w) (e : Ext h h') : CI T h' b n w := by
  have hl := hc.lt
  unfold CI at *
  rw [e.same b hl, hc]

def clampW (w : Int) : Int := mn (mx w 1) 64

section
variable {R : Value → Heap → Prop} {h : Heap} {b : Nat} {n w : Int}

theorem new_spec {win : Int} (hr : ∀ h', CI 189 h' h.size 0 (clampW win) → Ext h h' → h'.size = h.size + 1 → R (TV.ptr (some ⟨h.size, 0⟩)).val h') : CallsH Try.prog 71 (TVs.vals [.int .i64 win]) h R := by
  apply clock_New_calls
  unfold clock_New_vc
  exact hr _ (newTV_get _ _ _) (newTV_ext _ _ _) (newTV_size _ _ _)

/-! ### The reference -/

end
end Go.Proofs.Ytldocdpdjdekiaa.Clock
end

section
/- A gate's parts in memory, each with what is its own. -/
namespace Go.Proofs.Ytldocdpdjdekiaa.Gate
open Go Go.Vc
open Pool (It WL Mine)
open Peers (Pe)

section
variable {h h' : Heap} {b w tb o n : Nat} {L : List Nd} {most quota ban decay gone : Int} {own : Nat → Int} {t : Tb} {I : List It} {P : List (Int × Int)} {S Q : Nat → Prop} {T : TypeId}

def TreeB (h : Heap) (b : Nat) (L : List Nd) (most : Int) (S : Nat → Prop) : Prop := ∃ r A, TrP h b r A L most ∧ S = TrMine b r A
def WeighB (h : Heap) (w tb : Nat) (L : List Nd) (own : Nat → Int) (S : Nat → Prop) : Prop := ∃ O X B G, WT h w tb O X B G L own ∧ S = WMine w O X B G
def TabB (h : Heap) (b : Nat) (t : Tb) (n : Nat) (S : Nat → Prop) : Prop := ∃ r La Ou ps, TbP h b r La Ou ps t n ∧ S = TbMine b r La Ou ps
def PoolB (T : TypeId) (h : Heap) (o : Nat) (I : List It) (most quota : Int) (S : Nat → Prop) : Prop := ∃ b A, WL T h o b A I most quota ∧ S = fun i => i = o ∨ Mine b A i
def PeB (h : Heap) (b : Nat) (P : List (Int × Int)) (most ban decay gone : Int) (S : Nat → Prop) : Prop := ∃ r, Pe h b r P most ban decay gone ∧ S = fun i => i = b ∨ i = r

theorem TreeB.only (p : TreeB h b L most S) (f : Only Q h h') (hs : ∀ i, S i → ¬ Q i) : TreeB h' b L most S := by
  obtain ⟨r, A, p, rfl⟩ := p
  exact ⟨r, A, p.only f hs, rfl⟩
theorem WeighB.only (p : WeighB h w tb L own S) (f : Only Q h h') (hs : ∀ i, S i → ¬ Q i) : WeighB h' w tb L own S := by
  obtain ⟨O, X, B, G, p, rfl⟩ := p
  exact ⟨O, X, B, G, WP.only p f hs, rfl⟩
theorem TabB.only (p : TabB h b t n S) (f : Only Q h h') (hs : ∀ i, S i → ¬ Q i) : TabB h' b t n S := by
  obtain ⟨r, La, Ou, ps, p, rfl⟩ := p
  exact ⟨r, La, Ou, ps, p.only f hs, rfl⟩
theorem PoolB.only (p : PoolB T h o I most quota S) (f : Only Q h h') (hs : ∀ i, S i → ¬ Q i) : PoolB T h' o I most quota S := by
  obtain ⟨b, A, p, rfl⟩ := p
  exact ⟨b, A, p.only f (hs _ (.inl rfl)) fun i hi => hs _ (.inr hi), rfl⟩
theorem PeB.only (p : PeB h b P most ban decay gone S) (f : Only Q h h') (hs : ∀ i, S i → ¬ Q i) : PeB h' b P most ban decay gone S := by
  obtain ⟨r, p, rfl⟩ := p
  exact ⟨r, p.only f (hs _ (.inl rfl)) (hs _ (.inr rfl)), rfl⟩

theorem TreeB.lt (p : TreeB h b L most S) : ∀ i, S i → i < h.size := by
  obtain ⟨r, A, p, rfl⟩ := p
  exact fun i hi => p.lt hi
theorem WeighB.lt (p : WeighB h w tb L own S) : ∀ i, S i → i < h.size := by
  obtain ⟨O, X, B, G, p, rfl⟩ := p
  exact fun i hi => WP.lt p hi
theorem TabB.lt (p : TabB h b t n S) : ∀ i, S i → i < h.size := by
  obtain ⟨r, La, Ou, ps, p, rfl⟩ := p
  exact fun i hi => p.lt hi
theorem PoolB.lt (p : PoolB T h o I most quota S) : ∀ i, S i → i < h.size := by
  obtain ⟨b, A, p, rfl⟩ := p
  rintro i (rfl | hi)
  · exact p.var.lt
  · exact p.pl.lt hi
theorem PeB.lt (p : PeB h b P most ban decay gone S) : ∀ i, S i → i < h.size := by
  obtain ⟨r, p, rfl⟩ := p
  rintro i (rfl | rfl)
  · exact p.var.lt
  · exact p.map.lt

end
end Go.Proofs.Ytldocdpdjdekiaa.Gate
end

section
/- The conditions of functions, as the generator reckons them out, each with the proof that it is that. -/
namespace Go.Proofs.Ytldocdpdjdekiaa
open Go Go.Vc
set_option maxRecDepth 100000
set_option linter.unusedVariables false

def genesis_in_vc (n : Int) (most : Int) (h : Heap) (R : Value → Heap → Prop) : Prop := If (decide (1 ≤ n)) (R (TV.val (.bool (decide (n ≤ most)))) h) (R (TV.val (.bool false)) h)
theorem genesis_in_calls (n : Int) (most : Int) (h : Heap) (R : Value → Heap → Prop) (H : genesis_in_vc n most h R) : CallsH Try.prog 73 (TVs.vals [.int .i64 n, .int .i64 most]) h R := via ctx_ok Try.func73 (by kernel_rfl) H

def genesis_validator_vc (v__Stake : Int) (v__Key : List UInt8) (h : Heap) (R : Value → Heap → Prop) : Prop := Vc.Bind (newTV h (.agg [.int .i64 v__Stake, .str v__Key]) 78) fun h_1 ↦ ∃ (n : Int), at1 h_1 h.size 0 (.int .i64 n) ∧ If (decide (0 ≤ n)) (∃ (n : Int), at1 h_1 h.size 0 (.int .i64 n) ∧ If (decide (n < 4611686018427387904)) (∃ (s : List UInt8), at1 h_1 h.size 1 (Value.string (ByteArray.mk (List.toArray s))) ∧ CallsH Try.prog 73 (TVs.vals [.int .i64 (↑(List.length s) : Int), .int .i64 32]) h_1 fun v h ↦ ∃ (b : Bool), v = TV.val (.bool b) ∧ R (TV.val (.bool b)) h) (R (TV.val (.bool false)) h_1)) (R (TV.val (.bool false)) h_1)
theorem genesis_validator_calls (v__Stake : Int) (v__Key : List UInt8) (h : Heap) (R : Value → Heap → Prop) (H : genesis_validator_vc v__Stake v__Key h R) : CallsH Try.prog 108 (TVs.vals [.agg [.int .i64 v__Stake, .str v__Key]]) h R := via ctx_ok Try.func108 (by kernel_rfl) H

def genesis_Total_vc (list : Sl) (h : Heap) (R : Value → Heap → Prop) : Prop := Go.Vc.Loop (0, false, 0, 0) h fun (s : Int × Bool × Int × Int) (h : Array Obj) (K : Int × Bool × Int × Int → Array Obj → Prop) ↦ If (decide (s.snd.snd.snd < (↑list.len : Int))) (0 ≤ s.snd.snd.snd ∧ s.snd.snd.snd < (↑list.len : Int) ∧ Nn list.a fun l ↦ ∃ (n : Int), ∃ (s_1 : List UInt8), (at1 h l.b (l.o + Int.toNat s.snd.snd.snd * 2) (.int .i64 n) ∧ at1 h l.b (l.o + Int.toNat s.snd.snd.snd * 2 + 1) (Value.string (ByteArray.mk (List.toArray s_1)))) ∧ Vc.Bind (newTV h (.agg [.int .i64 0, .str []]) 78) fun h_1 ↦ wok h_1 h.size 0 2 ∧ Vc.Bind (TV.put h_1 h.size 0 (.agg [.int .i64 n, .str s_1])) fun h_2 ↦ ∃ (n : Int), ∃ (s_2 : List UInt8), (at1 h_2 h.size 0 (.int .i64 n) ∧ at1 h_2 h.size 1 (Value.string (ByteArray.mk (List.toArray s_2)))) ∧ CallsH Try.prog 108 (TVs.vals [.agg [.int .i64 n, .str s_2]]) h_2 fun v h_3 ↦ ∃ (b : Bool), v = TV.val (.bool b) ∧ If (!b) (R (TV.val (.tup [.int .i64 0, .bool false])) h_3) (∃ (n : Int), at1 h_3 h.size 0 (.int .i64 n) ∧ If (decide (4611686018427387904 ≤ IntKind.wrap .i64 (s.snd.snd.fst + n))) (R (TV.val (.tup [.int .i64 0, .bool false])) h_3) (∃ (n : Int), at1 h_3 h.size 0 (.int .i64 n) ∧ K (s.fst, s.snd.fst, IntKind.wrap .i64 (s.snd.snd.fst + n), IntKind.wrap .i64 (s.snd.snd.snd + 1)) h_3))) (R (TV.val (.tup [.int .i64 s.snd.snd.fst, .bool true])) h)
theorem genesis_Total_calls (list : Sl) (h : Heap) (R : Value → Heap → Prop) (H : genesis_Total_vc list h R) : CallsH Try.prog 72 (TVs.vals [.slice list]) h R := via ctx_ok Try.func72 (by kernel_rfl) H

def slices_Index___bool_bool__vc (s_ : Sl) (v_ : Bool) (h : Heap) (R : Value → Heap → Prop) : Prop := Go.Vc.Loop (0, 0) h fun (s : Int × Int) (h : Array Obj) (K : Int × Int → Array Obj → Prop) ↦ If (decide (s.snd < (↑s_.len : Int))) (0 ≤ s.snd ∧ s.snd < (↑s_.len : Int) ∧ Nn s_.a fun l ↦ ∃ (b : Bool), at1 h l.b (l.o + Int.toNat s.snd * 1) (Value.bool b) ∧ If (v_ == b) (R (TV.val (.int .i64 s.snd)) h) (K (s.fst, IntKind.wrap .i64 (s.snd + 1)) h)) (R (TV.val (.int .i64 (-1))) h)
theorem slices_Index___bool_bool__calls (s_ : Sl) (v_ : Bool) (h : Heap) (R : Value → Heap → Prop) (H : slices_Index___bool_bool__vc s_ v_ h R) : CallsH Try.prog 109 (TVs.vals [.slice s_, .bool v_]) h R := via ctx_ok Try.func109 (by kernel_rfl) H

def slices_Contains___bool_bool__vc (s_ : Sl) (v_ : Bool) (h : Heap) (R : Value → Heap → Prop) : Prop := CallsH Try.prog 109 (TVs.vals [.slice s_, .bool v_]) h fun (v : Value) (h : Heap) ↦ ∃ (n : Int), v = TV.val (.int .i64 n) ∧ R (TV.val (.bool (decide (0 ≤ n)))) h
theorem slices_Contains___bool_bool__calls (s_ : Sl) (v_ : Bool) (h : Heap) (R : Value → Heap → Prop) (H : slices_Contains___bool_bool__vc s_ v_ h R) : CallsH Try.prog 74 (TVs.vals [.slice s_, .bool v_]) h R := via ctx_ok Try.func74 (by kernel_rfl) H

def genesis_Good_vc (c_Validators : Sl) (c_Epoch : Int) (c_Committee : Int) (c_Nodes : Int) (c_Orphans : Int) (c_Early : Int) (c_Quota : Int) (c_Peers : Int) (c_Bytes : Int) (c_Window : Int) (c_Ban : Int) (c_Decay : Int) (h : Heap) (R : Value → Heap → Prop) : Prop := Vc.Bind (newTV h (.agg [.slice c_Validators, .int .i64 c_Epoch, .int .i64 c_Committee, .int .i64 c_Nodes, .int .i64 c_Orphans, .int .i64 c_Early, .int .i64 c_Quota, .int .i64 c_Peers, .int .i64 c_Bytes, .int .i64 c_Window, .int .i64 c_Ban, .int .i64 c_Decay]) 24) fun h_1 ↦ Join (fun (s : Bool) (h_2 : Array Obj) ↦ ∃ (n : Int), at1 h_2 h.size 1 (.int .i64 n) ∧ ∃ (n_1 : Int), at1 h_2 h.size 2 (.int .i64 n_1) ∧ ∃ (s : Sl), at1 h_2 h.size 0 (slVal s) ∧ ∃ (n_2 : Int), at1 h_2 h.size 3 (.int .i64 n_2) ∧ ∃ (n_3 : Int), at1 h_2 h.size 4 (.int .i64 n_3) ∧ ∃ (n_4 : Int), at1 h_2 h.size 5 (.int .i64 n_4) ∧ ∃ (n_5 : Int), at1 h_2 h.size 6 (.int .i64 n_5) ∧ ∃ (n_6 : Int), at1 h_2 h.size 7 (.int .i64 n_6) ∧ ∃ (n_7 : Int), at1 h_2 h.size 8 (.int .i64 n_7) ∧ ∃ (n_8 : Int), at1 h_2 h.size 9 (.int .i64 n_8) ∧ ∃ (n_9 : Int), at1 h_2 h.size 10 (.int .i64 n_9) ∧ ∃ (n_10 : Int), at1 h_2 h.size 11 (.int .i64 n_10) ∧ CallsH Try.prog 73 (TVs.vals [.int .i64 n, .int .i64 32]) h_2 fun v h ↦ ∃ (b : Bool), v = TV.val (.bool b) ∧ Ext h_2 h ∧ CallsH Try.prog 73 (TVs.vals [.int .i64 n_1, .int .i64 (mn 16 (↑s.len : Int))]) h fun v h_3 ↦ ∃ (b_1 : Bool), v = TV.val (.bool b_1) ∧ Ext h h_3 ∧ CallsH Try.prog 73 (TVs.vals [.int .i64 n_2, .int .i64 256]) h_3 fun v h ↦ ∃ (b_2 : Bool), v = TV.val (.bool b_2) ∧ Ext h_3 h ∧ CallsH Try.prog 73 (TVs.vals [.int .i64 n_3, .int .i64 64]) h fun v h_4 ↦ ∃ (b_3 : Bool), v = TV.val (.bool b_3) ∧ Ext h h_4 ∧ CallsH Try.prog 73 (TVs.vals [.int .i64 n_4, .int .i64 64]) h_4 fun v h ↦ ∃ (b_4 : Bool), v = TV.val (.bool b_4) ∧ Ext h_4 h ∧ CallsH Try.prog 73 (TVs.vals [.int .i64 n_5, .int .i64 64]) h fun v h_5 ↦ ∃ (b_5 : Bool), v = TV.val (.bool b_5) ∧ Ext h h_5 ∧ CallsH Try.prog 73 (TVs.vals [.int .i64 n_6, .int .i64 16]) h_5 fun v h ↦ ∃ (b_6 : Bool), v = TV.val (.bool b_6) ∧ Ext h_5 h ∧ CallsH Try.prog 73 (TVs.vals [.int .i64 n_7, .int .i64 256]) h fun v h_6 ↦ ∃ (b_7 : Bool), v = TV.val (.bool b_7) ∧ Ext h h_6 ∧ CallsH Try.prog 73 (TVs.vals [.int .i64 n_8, .int .i64 64]) h_6 fun v h ↦ ∃ (b_8 : Bool), v = TV.val (.bool b_8) ∧ Ext h_6 h ∧ CallsH Try.prog 73 (TVs.vals [.int .i64 n_9, .int .i64 1048576]) h fun v h_7 ↦ ∃ (b_9 : Bool), v = TV.val (.bool b_9) ∧ Ext h h_7 ∧ CallsH Try.prog 73 (TVs.vals [.int .i64 n_10, .int .i64 1048576]) h_7 fun v h ↦ ∃ (b_10 : Bool), v = TV.val (.bool b_10) ∧ CallsH Try.prog 74 (TVs.vals [.slice (Sl.mk (some (Loc.mk h.size 0)) 11 11), .bool false]) (Array.push h (row (TVs.cells [.bool b, .bool b_1, .bool b_2, .bool b_3, .bool b_4, .bool b_5, .bool b_6, .bool b_7, .bool b_8, .bool b_9, .bool b_10]) 4)) fun v h ↦ ∃ (b : Bool), v = TV.val (.bool b) ∧ R (TV.val (.bool !b)) h) fun (J : Bool → Array Obj → Prop) ↦ ∃ (s : Sl), at1 h_1 h.size 0 (slVal s) ∧ CallsH Try.prog 72 (TVs.vals [.slice s]) h_1 fun v h_2 ↦ ∃ (n : Int), ∃ (b : Bool), v = TV.val (.tup [.int .i64 n, .bool b]) ∧ If (!b) (R (TV.val (.bool false)) h_2) (∃ (s : Sl), at1 h_2 h.size 0 (slVal s) ∧ CallsH Try.prog 73 (TVs.vals [.int .i64 (↑s.len : Int), .int .i64 64]) h_2 fun v h ↦ ∃ (b : Bool), v = TV.val (.bool b) ∧ If (!b) (R (TV.val (.bool false)) h) (J false h))
theorem genesis_Good_calls (c_Validators : Sl) (c_Epoch : Int) (c_Committee : Int) (c_Nodes : Int) (c_Orphans : Int) (c_Early : Int) (c_Quota : Int) (c_Peers : Int) (c_Bytes : Int) (c_Window : Int) (c_Ban : Int) (c_Decay : Int) (h : Heap) (R : Value → Heap → Prop) (H : genesis_Good_vc c_Validators c_Epoch c_Committee c_Nodes c_Orphans c_Early c_Quota c_Peers c_Bytes c_Window c_Ban c_Decay h R) : CallsH Try.prog 37 (TVs.vals [.agg [.slice c_Validators, .int .i64 c_Epoch, .int .i64 c_Committee, .int .i64 c_Nodes, .int .i64 c_Orphans, .int .i64 c_Early, .int .i64 c_Quota, .int .i64 c_Peers, .int .i64 c_Bytes, .int .i64 c_Window, .int .i64 c_Ban, .int .i64 c_Decay]]) h R := via ctx_ok Try.func37 (by kernel_rfl) H

def tollerref05_Good_vc (c_Validators : Sl) (c_Epoch : Int) (c_Committee : Int) (c_Nodes : Int) (c_Orphans : Int) (c_Early : Int) (c_Quota : Int) (c_Peers : Int) (c_Bytes : Int) (c_Window : Int) (c_Ban : Int) (c_Decay : Int) (h : Heap) (R : Value → Heap → Prop) : Prop := Vc.Bind (newTV h (.agg [.slice c_Validators, .int .i64 c_Epoch, .int .i64 c_Committee, .int .i64 c_Nodes, .int .i64 c_Orphans, .int .i64 c_Early, .int .i64 c_Quota, .int .i64 c_Peers, .int .i64 c_Bytes, .int .i64 c_Window, .int .i64 c_Ban, .int .i64 c_Decay]) 24) fun h_1 ↦ ∃ (s : Sl), ∃ (n n_1 n_2 n_3 n_4 n_5 n_6 n_7 n_8 n_9 n_10 : Int), (at1 h_1 h.size 0 (slVal s) ∧ at1 h_1 h.size 1 (.int .i64 n) ∧ at1 h_1 h.size 2 (.int .i64 n_1) ∧ at1 h_1 h.size 3 (.int .i64 n_2) ∧ at1 h_1 h.size 4 (.int .i64 n_3) ∧ at1 h_1 h.size 5 (.int .i64 n_4) ∧ at1 h_1 h.size 6 (.int .i64 n_5) ∧ at1 h_1 h.size 7 (.int .i64 n_6) ∧ at1 h_1 h.size 8 (.int .i64 n_7) ∧ at1 h_1 h.size 9 (.int .i64 n_8) ∧ at1 h_1 h.size 10 (.int .i64 n_9) ∧ at1 h_1 h.size 11 (.int .i64 n_10)) ∧ CallsH Try.prog 50 (TVs.vals [.agg [.slice s, .int .i64 n, .int .i64 n_1, .int .i64 n_2, .int .i64 n_3, .int .i64 n_4, .int .i64 n_5, .int .i64 n_6, .int .i64 n_7, .int .i64 n_8, .int .i64 n_9, .int .i64 n_10]]) h_1 fun v h_2 ↦ ∃ (s_1 : Sl), v = TV.val (.slice s_1) ∧ Go.Vc.Loop (false, 0) h_2 fun (s_2 : Bool × Int) (h_3 : Array Obj) (K : Bool × Int → Array Obj → Prop) ↦ If (decide (s_2.snd < (↑s_1.len : Int))) (0 ≤ s_2.snd ∧ s_2.snd < (↑s_1.len : Int) ∧ Nn s_1.a fun l ↦ ∃ (n_11 : Int), at1 h_3 l.b (l.o + Int.toNat s_2.snd * 1) (.int .i64 n_11) ∧ If (decide (n_11 < 1)) (R (TV.val (.bool false)) h_3) (0 ≤ s_2.snd ∧ s_2.snd < (↑s_1.len : Int) ∧ Nn s_1.a fun l ↦ ∃ (n_12 : Int), at1 h_3 l.b (l.o + Int.toNat s_2.snd * 1) (.int .i64 n_12) ∧ 0 ≤ IntKind.wrap .i64 (s_2.snd + 1) ∧ IntKind.wrap .i64 (s_2.snd + 1) < (↑s_1.len : Int) ∧ Nn s_1.a fun l ↦ ∃ (n_13 : Int), at1 h_3 l.b (l.o + Int.toNat (IntKind.wrap .i64 (s_2.snd + 1)) * 1) (.int .i64 n_13) ∧ If (decide (n_13 < n_12)) (R (TV.val (.bool false)) h_3) (K (s_2.fst, IntKind.wrap .i64 (s_2.snd + 2)) h_3))) (∃ (s : Sl), at1 h_3 h.size 0 (slVal s) ∧ CallsH Try.prog 51 (TVs.vals [.slice s]) h_3 fun v h ↦ ∃ (n : Int), ∃ (b : Bool), v = TV.val (.tup [.int .i64 n, .bool b]) ∧ R (TV.val (.bool b)) h)
theorem tollerref05_Good_calls (c_Validators : Sl) (c_Epoch : Int) (c_Committee : Int) (c_Nodes : Int) (c_Orphans : Int) (c_Early : Int) (c_Quota : Int) (c_Peers : Int) (c_Bytes : Int) (c_Window : Int) (c_Ban : Int) (c_Decay : Int) (h : Heap) (R : Value → Heap → Prop) (H : tollerref05_Good_vc c_Validators c_Epoch c_Committee c_Nodes c_Orphans c_Early c_Quota c_Peers c_Bytes c_Window c_Ban c_Decay h R) : CallsH Try.prog 19 (TVs.vals [.agg [.slice c_Validators, .int .i64 c_Epoch, .int .i64 c_Committee, .int .i64 c_Nodes, .int .i64 c_Orphans, .int .i64 c_Early, .int .i64 c_Quota, .int .i64 c_Peers, .int .i64 c_Bytes, .int .i64 c_Window, .int .i64 c_Ban, .int .i64 c_Decay]]) h R := via ctx_ok Try.func19 (by kernel_rfl) H

def genesis_Bytes_vc (c_Validators : Sl) (c_Epoch : Int) (c_Committee : Int) (c_Nodes : Int) (c_Orphans : Int) (c_Early : Int) (c_Quota : Int) (c_Peers : Int) (c_Bytes : Int) (c_Window : Int) (c_Ban : Int) (c_Decay : Int) (h : Heap) (R : Value → Heap → Prop) : Prop := Vc.Bind (newTV h (.agg [.slice c_Validators, .int .i64 c_Epoch, .int .i64 c_Committee, .int .i64 c_Nodes, .int .i64 c_Orphans, .int .i64 c_Early, .int .i64 c_Quota, .int .i64 c_Peers, .int .i64 c_Bytes, .int .i64 c_Window, .int .i64 c_Ban, .int .i64 c_Decay]) 24) fun h_1 ↦ ∃ (n : Int), at1 h_1 h.size 1 (.int .i64 n) ∧ ∃ (n_1 : Int), at1 h_1 h.size 2 (.int .i64 n_1) ∧ ∃ (n_2 : Int), at1 h_1 h.size 3 (.int .i64 n_2) ∧ ∃ (n_3 : Int), at1 h_1 h.size 4 (.int .i64 n_3) ∧ ∃ (n_4 : Int), at1 h_1 h.size 5 (.int .i64 n_4) ∧ ∃ (n_5 : Int), at1 h_1 h.size 6 (.int .i64 n_5) ∧ ∃ (n_6 : Int), at1 h_1 h.size 7 (.int .i64 n_6) ∧ ∃ (n_7 : Int), at1 h_1 h.size 8 (.int .i64 n_7) ∧ ∃ (n_8 : Int), at1 h_1 h.size 9 (.int .i64 n_8) ∧ ∃ (n_9 : Int), at1 h_1 h.size 10 (.int .i64 n_9) ∧ ∃ (n_10 : Int), at1 h_1 h.size 11 (.int .i64 n_10) ∧ ∃ (s : Sl), at1 h_1 h.size 0 (slVal s) ∧ Go.Vc.Loop (Sl.mk none 0 0, 0) (Array.push h_1 (row (TVs.cells [.int .i64 n, .int .i64 n_1, .int .i64 n_2, .int .i64 n_3, .int .i64 n_4, .int .i64 n_5, .int .i64 n_6, .int .i64 n_7, .int .i64 n_8, .int .i64 n_9, .int .i64 n_10, .int .i64 (↑s.len : Int)]) 3)) fun (s : Sl × Int) (h_2 : Array Obj) (K : Sl × Int → Array Obj → Prop) ↦ If (decide (s.snd < (↑12 : Int))) (0 ≤ s.snd ∧ s.snd < (↑12 : Int) ∧ ∃ (n : Int), at1 h_2 h_1.size (0 + Int.toNat s.snd * 1) (.int .i64 n) ∧ CallsH Try.prog 122 (TVs.vals [.slice s.fst, .int .u64 (IntKind.wrap .u64 n), .int .i64 4]) h_2 fun v h ↦ ∃ (s_1 : Sl), v = TV.val (.slice s_1) ∧ K (s_1, IntKind.wrap .i64 (s.snd + 1)) h) (∃ (s_1 : Sl), at1 h_2 h.size 0 (slVal s_1) ∧ Go.Vc.Loop (s.fst, 0) h_2 fun (s_2 : Sl × Int) (h : Array Obj) (K : Sl × Int → Array Obj → Prop) ↦ If (decide (s_2.snd < (↑s_1.len : Int))) (0 ≤ s_2.snd ∧ s_2.snd < (↑s_1.len : Int) ∧ Nn s_1.a fun l ↦ ∃ (n : Int), ∃ (s_3 : List UInt8), (at1 h l.b (l.o + Int.toNat s_2.snd * 2) (.int .i64 n) ∧ at1 h l.b (l.o + Int.toNat s_2.snd * 2 + 1) (Value.string (ByteArray.mk (List.toArray s_3)))) ∧ Vc.Bind (newTV h (.agg [.int .i64 0, .str []]) 78) fun h_3 ↦ wok h_3 h.size 0 2 ∧ Vc.Bind (TV.put h_3 h.size 0 (.agg [.int .i64 n, .str s_3])) fun h_4 ↦ ∃ (h0 : Array Obj), Vc.Sub h0 h_4 ∧ ∃ (n : Int), at1 h0 h.size 0 (.int .i64 n) ∧ ∃ (s_4 : List UInt8), at1 h0 h.size 1 (Value.string (ByteArray.mk (List.toArray s_4))) ∧ ∃ (s_5 : List UInt8), at1 h0 h.size 1 (Value.string (ByteArray.mk (List.toArray s_5))) ∧ CallsH Try.prog 122 (TVs.vals [.slice s_2.fst, .int .u64 (IntKind.wrap .u64 n), .int .i64 8]) h_4 fun v h ↦ ∃ (s_6 : Sl), v = TV.val (.slice s_6) ∧ Vc.Sub h0 h ∧ CallsH Try.prog 122 (TVs.vals [.slice s_6, .int .u64 (IntKind.wrap .u64 (↑(List.length s_4) : Int)), .int .i64 1]) h fun v h ↦ ∃ (s_7 : Sl), v = TV.val (.slice s_7) ∧ Vc.Sub h0 h ∧ vcAppend Ytldocdpdjdekiaa.ctxL 5 s_7 (List.length s_5) (List.map (fun (c : UInt8) ↦ .int .u8 (↑(UInt8.toNat c) : Int)) s_5) h fun s_8 h ↦ K (s_8, IntKind.wrap .i64 (s_2.snd + 1)) h) (∃ (bs : List UInt8), strAt h s_2.fst bs ∧ R (TV.val (.str bs)) h))
theorem genesis_Bytes_calls (c_Validators : Sl) (c_Epoch : Int) (c_Committee : Int) (c_Nodes : Int) (c_Orphans : Int) (c_Early : Int) (c_Quota : Int) (c_Peers : Int) (c_Bytes : Int) (c_Window : Int) (c_Ban : Int) (c_Decay : Int) (h : Heap) (R : Value → Heap → Prop) (H : genesis_Bytes_vc c_Validators c_Epoch c_Committee c_Nodes c_Orphans c_Early c_Quota c_Peers c_Bytes c_Window c_Ban c_Decay h R) : CallsH Try.prog 128 (TVs.vals [.agg [.slice c_Validators, .int .i64 c_Epoch, .int .i64 c_Committee, .int .i64 c_Nodes, .int .i64 c_Orphans, .int .i64 c_Early, .int .i64 c_Quota, .int .i64 c_Peers, .int .i64 c_Bytes, .int .i64 c_Window, .int .i64 c_Ban, .int .i64 c_Decay]]) h R := via ctxL_ok Try.func128 (by kernel_rfl) H

def genesis_Root_vc (c_Validators : Sl) (c_Epoch : Int) (c_Committee : Int) (c_Nodes : Int) (c_Orphans : Int) (c_Early : Int) (c_Quota : Int) (c_Peers : Int) (c_Bytes : Int) (c_Window : Int) (c_Ban : Int) (c_Decay : Int) (h : Heap) (R : Value → Heap → Prop) : Prop := Vc.Bind (newTV h (.agg [.slice c_Validators, .int .i64 c_Epoch, .int .i64 c_Committee, .int .i64 c_Nodes, .int .i64 c_Orphans, .int .i64 c_Early, .int .i64 c_Quota, .int .i64 c_Peers, .int .i64 c_Bytes, .int .i64 c_Window, .int .i64 c_Ban, .int .i64 c_Decay]) 24) fun h_1 ↦ Vc.Bind (newTV h_1 (.bytes 32 (Bs.zero 32)) 50) fun h_2 ↦ ∃ (s : Sl), ∃ (n n_1 n_2 n_3 n_4 n_5 n_6 n_7 n_8 n_9 n_10 : Int), (at1 h_2 h.size 0 (slVal s) ∧ at1 h_2 h.size 1 (.int .i64 n) ∧ at1 h_2 h.size 2 (.int .i64 n_1) ∧ at1 h_2 h.size 3 (.int .i64 n_2) ∧ at1 h_2 h.size 4 (.int .i64 n_3) ∧ at1 h_2 h.size 5 (.int .i64 n_4) ∧ at1 h_2 h.size 6 (.int .i64 n_5) ∧ at1 h_2 h.size 7 (.int .i64 n_6) ∧ at1 h_2 h.size 8 (.int .i64 n_7) ∧ at1 h_2 h.size 9 (.int .i64 n_8) ∧ at1 h_2 h.size 10 (.int .i64 n_9) ∧ at1 h_2 h.size 11 (.int .i64 n_10)) ∧ CallsH Try.prog 128 (TVs.vals [.agg [.slice s, .int .i64 n, .int .i64 n_1, .int .i64 n_2, .int .i64 n_3, .int .i64 n_4, .int .i64 n_5, .int .i64 n_6, .int .i64 n_7, .int .i64 n_8, .int .i64 n_9, .int .i64 n_10]]) h_2 fun v h ↦ ∃ (s : List UInt8), v = TV.val (.str s) ∧ CallsH Try.prog 91 (TVs.vals [.slice (Sl.mk (some (Loc.mk h.size 0)) 2 2)]) (Array.push h (row (TVs.cells [.str (ByteArray.mk #[(116 : UInt8), (111 : UInt8), (108 : UInt8), (108 : UInt8), (101 : UInt8), (114 : UInt8)]).data.toList, .str s]) 9)) fun v h ↦ ∃ (b : Bs 32), v = TV.val (.bytes 32 b) ∧ wok h h_1.size 0 32 ∧ Vc.Bind (TV.put h h_1.size 0 (.bytes 32 b)) fun h ↦ ∃ (b : Bs 32), atBytes h h_1.size 0 32 b ∧ R (TV.val (.bytes 32 b)) h
theorem genesis_Root_calls (c_Validators : Sl) (c_Epoch : Int) (c_Committee : Int) (c_Nodes : Int) (c_Orphans : Int) (c_Early : Int) (c_Quota : Int) (c_Peers : Int) (c_Bytes : Int) (c_Window : Int) (c_Ban : Int) (c_Decay : Int) (h : Heap) (R : Value → Heap → Prop) (H : genesis_Root_vc c_Validators c_Epoch c_Committee c_Nodes c_Orphans c_Early c_Quota c_Peers c_Bytes c_Window c_Ban c_Decay h R) : CallsH Try.prog 104 (TVs.vals [.agg [.slice c_Validators, .int .i64 c_Epoch, .int .i64 c_Committee, .int .i64 c_Nodes, .int .i64 c_Orphans, .int .i64 c_Early, .int .i64 c_Quota, .int .i64 c_Peers, .int .i64 c_Bytes, .int .i64 c_Window, .int .i64 c_Ban, .int .i64 c_Decay]]) h R := via ctx_ok Try.func104 (by kernel_rfl) H

end Go.Proofs.Ytldocdpdjdekiaa
end

section
/- Whether a configuration can be: the program's and the document's. -/
namespace Go.Proofs.Ytldocdpdjdekiaa.Gate
open Go Go.Vc Board
section
variable {R : Value → Heap → Prop} {h : Heap} {c : Cf} {L : List Vd}

theorem in_spec {n m : Int} (hr : R (TV.bool (inB n m)).val h) : CallsH Try.prog F.genesis_in (TVs.vals [.int .i64 n, .int .i64 m]) h R := by
  apply genesis_in_calls
  unfold genesis_in_vc
  unfold inB at hr
  refine If.dec.2 ⟨fun h1 => ?_, fun h1 => ?_⟩
  · rw [decide_eq_true h1, Bool.true_and] at hr; exact hr
  · rw [decide_eq_false h1, Bool.false_and] at hr; exact hr

theorem validator_spec {v : Vd} (hr : ∀ h', Ext h h' → R (TV.bool (okV v)).val h') : CallsH Try.prog F.genesis_validator (TVs.vals [v.tv]) h R := by
  apply genesis_validator_calls v.stake v.key
  unfold genesis_validator_vc
  refine newTV_in fun h1 v1 x1 s1 => ⟨v.stake, v1.at1 rfl, ?_⟩
  have hr1 := hr h1 x1
  unfold okV at hr1
  refine If.dec.2 ⟨fun a => ?_, fun a => ?_⟩
  · rw [decide_eq_true a, Bool.true_and] at hr1
    refine ⟨v.stake, v1.at1 rfl, If.dec.2 ⟨fun b => ?_, fun b => ?_⟩⟩
    · rw [decide_eq_true b, Bool.true_and] at hr1
      exact ⟨v.key, v1.at1 rfl, in_spec ⟨_, rfl, hr1⟩⟩
    · rw [decide_eq_false b, Bool.false_and] at hr1
      exact hr1
  · rw [decide_eq_false a, Bool.false_and, Bool.false_and] at hr1
    exact hr1

theorem totF_cons {v : Vd} {s : Int} : totF (v :: L) s = if okV v = true ∧ s + v.stake < 4611686018427387904 then totF L (s + v.stake) else none := rfl
theorem okV_stake {v : Vd} (hv : okV v = true) : 0 ≤ v.stake ∧ v.stake < 4611686018427387904 := by
  unfold okV at hv
  simp only [Bool.and_eq_true, decide_eq_true_eq] at hv
  exact hv.1

theorem gtotal_spec {s : Sl} (e : Elems 2 h s (vds L)) (hl : s.len < 100000) (hr : ∀ h', Ext h h' → R (TV.tup [.int .i64 ((totF L 0).getD 0), .bool (totF L 0).isSome]).val h') : CallsH Try.prog F.genesis_Total (TVs.vals [.slice s]) h R := by
  apply genesis_Total_calls
  unfold genesis_Total_vc
  have el : L.length = s.len := by have := e.len; rwa [List.length_map] at this
  refine ⟨fun σ hh => 0 ≤ σ.2.2.2 ∧ σ.2.2.2 ≤ s.len ∧ Ext h hh ∧ 0 ≤ σ.2.2.1 ∧ σ.2.2.1 < 4611686018427387904 ∧ totF L 0 = totF (L.drop σ.2.2.2.toNat) σ.2.2.1, fun σ _ => ((s.len : Int) - σ.2.2.2).toNat, ⟨Int.le_refl 0, by dsimp only; omega, Ext.refl _, Int.le_refl 0, by decide, rfl⟩, ?_⟩
  rintro ⟨a1, a2, t, i⟩ h2 ⟨i0, i1, x2, t0, t1, ht⟩
  dsimp only at i0 i1 t0 t1 ht ⊢
  refine If.dec.2 ⟨fun hi => ?_, fun hi => ?_⟩
  · refine read_vd (e.ext x2) i0 (by omega) fun x hx => newTV_in fun h3 v3 x3 s3 => put_in v3 (t := x.tv) rfl fun h4 v4 o4 s4 => ?_
    have x4 : Ext h h4 := x2.trans (Only.cut x3 o4 fun i hi => by omega)
    rw [drop_get hx, totF_cons] at ht
    refine ⟨x.stake, x.key, ⟨v4.at1 rfl, v4.at1 rfl⟩, validator_spec (v := x) fun h5 x5 => ⟨_, rfl, ?_⟩⟩
    have x5' := x4.trans x5
    have stop : totF L 0 = none → R (TV.tup [.int .i64 0, .bool false]).val h5 := fun hn => by have := hr h5 x5'; rw [hn] at this; exact this
    refine If.split (fun hb => stop ?_) fun hb => ⟨x.stake, (v4.ext x5).at1 rfl, ?_⟩
    · rw [ht, if_neg (fun hc => by rw [hc.1] at hb; cases hb)]
    · have ok : okV x = true := by simpa using hb
      have st := okV_stake ok
      rw [wrap_i64 (n := t + x.stake) (by omega) (by omega), wrap_i64 (n := i + 1) (by omega) (by omega)]
      refine If.dec.2 ⟨fun hg => stop ?_, fun hg => ⟨x.stake, (v4.ext x5).at1 rfl, ?_⟩⟩
      · rw [ht, if_neg (fun hc => by omega)]
      · rw [wrap_i64 (n := t + x.stake) (by omega) (by omega)]
        refine ⟨⟨by first | omega | (dsimp only; omega), by first | omega | (dsimp only; omega), x5', by first | omega | (dsimp only; omega), by first | omega | (dsimp only; omega), ?_⟩, by first | omega | (dsimp only; omega)⟩
        rw [if_pos ⟨ok, by omega⟩] at ht
        show totF L 0 = totF (L.drop (i + 1).toNat) (t + x.stake)
        rw [show (i + 1).toNat = i.toNat + 1 by omega]
        exact ht
  · have hi2 : i.toNat = L.length := by omega
    rw [hi2, List.drop_length] at ht
    have := hr h2 x2
    rw [ht] at this
    exact this

theorem doctotal_spec {s : Sl} (e : Elems 2 h s (vds L)) (hk : ∀ v ∈ L, v.stake < 9223372036854775808) (hl : s.len < 100000) (hr : ∀ h', Ext h h' → R (TV.tup [.int .i64 ((totF L 0).getD 0), .bool (totF L 0).isSome]).val h') : CallsH Try.prog F.tollerref05_Total (TVs.vals [.slice s]) h R := by
  apply tollerref05_Total_calls
  unfold tollerref05_Total_vc
  have el : L.length = s.len := by have := e.len; rwa [List.length_map] at this
  refine ⟨fun σ hh => 0 ≤ σ.2.2.2 ∧ σ.2.2.2 ≤ s.len ∧ Ext h hh ∧ 0 ≤ σ.2.2.1 ∧ σ.2.2.1 < 4611686018427387904 ∧ totF L 0 = totF (L.drop σ.2.2.2.toNat) σ.2.2.1, fun σ _ => ((s.len : Int) - σ.2.2.2).toNat, ⟨Int.le_refl 0, by dsimp only; omega, Ext.refl _, Int.le_refl 0, by decide, rfl⟩, ?_⟩
  rintro ⟨a1, a2, t, i⟩ h2 ⟨i0, i1, x2, t0, t1, ht⟩
  dsimp only at i0 i1 t0 t1 ht ⊢
  refine If.dec.2 ⟨fun hi => ?_, fun hi => ?_⟩
  · refine read_vd (e.ext x2) i0 (by omega) fun x hx => ?_
    have hin : h2.size = h2.size := rfl
    refine newTV_in fun h3 v3 x3 s3 => put_in v3 (t := x.tv) rfl fun h4 v4 o4 s4 => ?_
    have x4 : Ext h h4 := x2.trans (Only.cut x3 o4 fun i hi => by omega)
    rw [drop_get hx, totF_cons] at ht
    have stop : totF L 0 = none → R (TV.tup [.int .i64 0, .bool false]).val h4 := fun hn => by have := hr h4 x4; rw [hn] at this; exact this
    have no : okV x = false → R (TV.tup [.int .i64 0, .bool false]).val h4 := fun hn => stop (by rw [ht, if_neg (fun hc => by rw [hc.1] at hn; cases hn)])
    refine ⟨x.stake, v4.at1 rfl, If.dec.2 ⟨fun h1 => no ?_, fun h1 => ⟨x.key, v4.at1 rfl, If.dec.2 ⟨fun h2 => no ?_, fun h2 => ⟨x.key, v4.at1 rfl, If.dec.2 ⟨fun h3 => no ?_, fun h3 => ⟨x.stake, v4.at1 rfl, ?_⟩⟩⟩⟩⟩⟩⟩
    · unfold okV; rw [decide_eq_false (by omega)]; rfl
    · unfold okV inB; rw [decide_eq_false (p := (1 : Int) ≤ (x.key.length : Int)) (by omega)]; simp
    · unfold okV inB; rw [decide_eq_false (p := (x.key.length : Int) ≤ 32) (by omega)]; simp
    · have kx := hk x (List.mem_of_getElem? hx)
      rw [wrap_u64_small (n := x.stake) (by omega) (by omega), wrap_u64_small (n := t + x.stake) (by omega) (by omega), wrap_i64 (n := i + 1) (by omega) (by omega)]
      refine If.dec.2 ⟨fun hg => stop ?_, fun hg => ⟨⟨by first | omega | (dsimp only; omega), by first | omega | (dsimp only; omega), x4, by first | omega | (dsimp only; omega), by first | omega | (dsimp only; omega), ?_⟩, by first | omega | (dsimp only; omega)⟩⟩
      · rw [ht, if_neg (fun hc => by omega)]
      · have ok : okV x = true := by
          unfold okV inB
          simp only [Bool.and_eq_true, decide_eq_true_eq]
          omega
        rw [if_pos ⟨ok, by omega⟩] at ht
        show totF L 0 = totF (L.drop (i + 1).toNat) (t + x.stake)
        rw [show (i + 1).toNat = i.toNat + 1 by omega]
        exact ht
  · have hi2 : i.toNat = L.length := by omega
    rw [hi2, List.drop_length] at ht
    have := hr h2 x2
    rw [ht] at this
    rw [wrap_i64 (by omega) (by omega)]
    exact this

theorem bindex2_spec {s : Sl} {l : List Bool} {v : Bool} (e : Elems 1 h s (bools l)) (hl : l.length < 100000) (hr : ∀ n : Int, (0 ≤ n ↔ v ∈ l) → R (TV.int .i64 n).val h) : CallsH Try.prog 109 (TVs.vals [.slice s, .bool v]) h R := by
  apply slices_Index___bool_bool__calls
  unfold slices_Index___bool_bool__vc
  have el : l.length = s.len := by have := e.len; rwa [List.length_map] at this
  refine ⟨fun σ hh => 0 ≤ σ.2 ∧ σ.2 ≤ s.len ∧ hh = h ∧ v ∉ l.take σ.2.toNat, fun σ _ => ((s.len : Int) - σ.2).toNat, ⟨Int.le_refl 0, by first | omega | (dsimp only; omega), rfl, by simp⟩, ?_⟩
  rintro ⟨f, i⟩ hh ⟨i0, i1, rfl, ht⟩
  dsimp only at i0 i1 ht ⊢
  refine If.dec.2 ⟨fun hi => ?_, fun hi => ?_⟩
  · refine read_bool e i0 (by omega) fun x hx => If.split (fun hb => ?_) fun hb => ?_
    · have hb : v = x := by simpa using hb
      subst hb
      exact hr i ⟨fun _ => List.mem_of_getElem? hx, fun _ => i0⟩
    · have hb : v ≠ x := by simpa using hb
      rw [wrap_i64 (n := i + 1) (by omega) (by omega)]
      refine ⟨⟨by first | omega | (dsimp only; omega), by first | omega | (dsimp only; omega), rfl, ?_⟩, by first | omega | (dsimp only; omega)⟩
      show v ∉ l.take (i + 1).toNat
      rw [show (i + 1).toNat = i.toNat + 1 by omega, take_snoc hx, List.mem_append, List.mem_singleton]
      rintro (h1 | h1)
      · exact ht h1
      · exact hb h1
  · rw [List.take_of_length_le (by omega)] at ht
    exact hr (-1) ⟨fun h0 => by omega, fun hm => absurd hm ht⟩

theorem contains2_spec {s : Sl} {l : List Bool} {v : Bool} (e : Elems 1 h s (bools l)) (hl : l.length < 100000) (hr : R (TV.bool (decide (v ∈ l))).val h) : CallsH Try.prog 74 (TVs.vals [.slice s, .bool v]) h R := by
  apply slices_Contains___bool_bool__calls
  unfold slices_Contains___bool_bool__vc
  refine bindex2_spec e hl fun n hn => ⟨n, rfl, ?_⟩
  rw [show decide (0 ≤ n) = decide (v ∈ l) from decide_eq_decide.2 hn]
  exact hr

/-- What a configuration's numbers are checked for. -/
def checksC (c : Cf) (n : Nat) : List Bool := [inB c.ep 32, inB c.com (min 16 n), inB c.no 256, inB c.orp 64, inB c.ear 64, inB c.quo 64, inB c.pe 16, inB c.by_ 256, inB c.win 64, inB c.ban 1048576, inB c.dec 1048576]
theorem goodC_checks : goodC c L = ((totF L 0).isSome && inB L.length 64 && !decide (false ∈ checksC c L.length)) := by
  unfold goodC checksC
  congr 1
  generalize inB c.ep 32 = a1; generalize inB c.com (min 16 L.length) = a2; generalize inB c.no 256 = a3; generalize inB c.orp 64 = a4; generalize inB c.ear 64 = a5; generalize inB c.quo 64 = a6; generalize inB c.pe 16 = a7; generalize inB c.by_ 256 = a8; generalize inB c.win 64 = a9; generalize inB c.ban 1048576 = a10; generalize inB c.dec 1048576 = a11
  cases a1 <;> cases a2 <;> cases a3 <;> cases a4 <;> cases a5 <;> cases a6 <;> cases a7 <;> cases a8 <;> cases a9 <;> cases a10 <;> cases a11 <;> rfl

theorem ggood_spec (e : Elems 2 h c.vals (vds L)) (hl : c.vals.len < 100000) (hr : ∀ h', Ext h h' → R (TV.bool (goodC c L)).val h') : CallsH Try.prog F.genesis_Good (TVs.vals [c.tv]) h R := by
  apply genesis_Good_calls c.vals c.ep c.com c.no c.orp c.ear c.quo c.pe c.by_ c.win c.ban c.dec
  unfold genesis_Good_vc
  have el : L.length = c.vals.len := by have := e.len; rwa [List.length_map] at this
  refine newTV_in fun h1 v1 x1 s1 => ?_
  intro J HJ
  refine ⟨c.vals, v1.at1 rfl, gtotal_spec (e.ext x1) hl fun h2 x2 => ⟨_, _, rfl, ?_⟩⟩
  have v2 : Var 24 h2 h.size c.tv := v1.ext x2
  rw [goodC_checks] at hr
  have hr2 := fun h' x' => hr h' ((x1.trans x2).trans x')
  refine If.split (fun hb => ?_) fun hb => ?_
  · have hb : (totF L 0).isSome = false := by simpa using hb
    have := hr2 h2 (Ext.refl _)
    rw [hb] at this
    exact this
  · have hb : (totF L 0).isSome = true := by simpa using hb
    rw [hb, Bool.true_and] at hr2
    refine ⟨c.vals, v2.at1 rfl, in_spec ⟨_, rfl, ?_⟩⟩
    rw [← el]
    refine If.split (fun hc => ?_) fun hc => ?_
    · have hc : inB L.length 64 = false := by simpa using hc
      have := hr2 h2 (Ext.refl _)
      rw [hc] at this
      exact this
    · have hc : inB L.length 64 = true := by simpa using hc
      rw [hc, Bool.true_and] at hr2
      refine HJ false h2 ?_
      refine ⟨_, v2.at1 rfl, _, v2.at1 rfl, c.vals, v2.at1 rfl, _, v2.at1 rfl, _, v2.at1 rfl, _, v2.at1 rfl, _, v2.at1 rfl, _, v2.at1 rfl, _, v2.at1 rfl, _, v2.at1 rfl, _, v2.at1 rfl, _, v2.at1 rfl, ?_⟩
      refine in_spec ⟨_, rfl, Ext.refl _, in_spec ⟨_, rfl, Ext.refl _, in_spec ⟨_, rfl, Ext.refl _, in_spec ⟨_, rfl, Ext.refl _, in_spec ⟨_, rfl, Ext.refl _, in_spec ⟨_, rfl, Ext.refl _, in_spec ⟨_, rfl, Ext.refl _, in_spec ⟨_, rfl, Ext.refl _, in_spec ⟨_, rfl, Ext.refl _, in_spec ⟨_, rfl, Ext.refl _, in_spec ⟨_, rfl, ?_⟩⟩⟩⟩⟩⟩⟩⟩⟩⟩⟩
      have hm : mn 16 (c.vals.len : Int) = min 16 (L.length : Int) := by rw [mn_eq, el]
      rw [hm]
      have o := Own.new (T := 4) (sz := 1) h2 (bools (checksC c L.length)) (fun t ht => by
        obtain ⟨x, _, rfl⟩ := List.mem_map.1 ht
        rfl)
      exact contains2_spec o.elems (by simp [checksC]) ⟨_, rfl, hr2 _ (Ext.push _ _)⟩

theorem nums_can (el : L.length = c.vals.len) : Can c L ↔ (∃ s, totF L 0 = some s) ∧ ∀ k, k < 12 → ∀ x y, (Board.nums c)[2 * k]? = some x → (Board.nums c)[2 * k + 1]? = some y → 1 ≤ x ∧ x ≤ y := by
  constructor
  · intro a
    refine ⟨a.tot, fun k hk x y hx hy => ?_⟩
    have b1 := a.com
    have b0 := a.len
    have hm := mn_eq 16 (c.vals.len : Int)
    have hk : k = 0 ∨ k = 1 ∨ k = 2 ∨ k = 3 ∨ k = 4 ∨ k = 5 ∨ k = 6 ∨ k = 7 ∨ k = 8 ∨ k = 9 ∨ k = 10 ∨ k = 11 := by omega
    rcases hk with rfl | rfl | rfl | rfl | rfl | rfl | rfl | rfl | rfl | rfl | rfl | rfl <;> injection hx with hx <;> injection hy with hy <;> subst hx <;> subst hy
    · exact a.ep
    · rw [hm]; omega
    · exact a.no
    · exact a.orp
    · exact a.ear
    · exact a.quo
    · exact a.pe
    · exact a.by_
    · exact a.win
    · exact a.ban
    · exact a.dec
    · omega
  · rintro ⟨ht, hf⟩
    have hm := mn_eq 16 (c.vals.len : Int)
    have b1 := hf 1 (by decide) c.com (mn 16 (c.vals.len : Int)) rfl rfl
    have b11 := hf 11 (by decide) (c.vals.len : Int) 64 rfl rfl
    exact ⟨ht, by omega, hf 0 (by decide) _ _ rfl rfl, by omega, hf 2 (by decide) _ _ rfl rfl, hf 3 (by decide) _ _ rfl rfl, hf 4 (by decide) _ _ rfl rfl, hf 5 (by decide) _ _ rfl rfl, hf 6 (by decide) _ _ rfl rfl, hf 7 (by decide) _ _ rfl rfl, hf 8 (by decide) _ _ rfl rfl, hf 9 (by decide) _ _ rfl rfl, hf 10 (by decide) _ _ rfl rfl⟩

theorem docgood2_spec (e : Elems 2 h c.vals (vds L)) (hk : ∀ v ∈ L, v.stake < 9223372036854775808) (hv : c.vals.len < 100000) (hr : ∀ h', Ext h h' → R (TV.bool (goodC c L)).val h') : CallsH Try.prog F.tollerref05_Good (TVs.vals [c.tv]) h R := by
  apply tollerref05_Good_calls c.vals c.ep c.com c.no c.orp c.ear c.quo c.pe c.by_ c.win c.ban c.dec
  unfold tollerref05_Good_vc
  have eL : L.length = c.vals.len := by have := e.len; rwa [List.length_map] at this
  refine newTV_in fun h1 v1 x1 s1 => ?_
  refine ⟨c.vals, c.ep, c.com, c.no, c.orp, c.ear, c.quo, c.pe, c.by_, c.win, c.ban, c.dec, v1.at, ?_⟩
  refine numbers_spec (c := c) fun h2 s2 e2 x2 => ⟨_, rfl, ?_⟩
  have x02 := x1.trans x2
  have el := ints_len e2
  have hl24 : (Board.nums c).length = 24 := rfl
  have stop : ¬ Can c L → ∀ h', Ext h h' → R (TV.bool false).val h' := fun hn h' x' => by
    have hg : goodC c L = false := by
      cases hg : goodC c L with
      | false => rfl
      | true => exact absurd (good_can.1 hg) hn
    have := hr h' x'
    rwa [hg] at this
  refine ⟨fun σ hh => 0 ≤ σ.2 ∧ σ.2 ≤ 24 ∧ σ.2 % 2 = 0 ∧ hh = h2 ∧ (∀ k : Nat, 2 * k < σ.2.toNat → ∀ x y, (Board.nums c)[2 * k]? = some x → (Board.nums c)[2 * k + 1]? = some y → 1 ≤ x ∧ x ≤ y), fun σ _ => ((24 : Int) - σ.2).toNat,
    ⟨Int.le_refl 0, by decide, by decide, rfl, fun j hj => by simp at hj⟩, ?_⟩
  rintro ⟨f, i⟩ hh ⟨i0, i1, i2, rfl, hall⟩
  dsimp only at i0 i1 i2 hall ⊢
  refine If.dec.2 ⟨fun hi => ?_, fun hi => ?_⟩
  · have hi2 : 2 * (i.toNat / 2) = i.toNat := by omega
    have hi3 : (i + 1).toNat = 2 * (i.toNat / 2) + 1 := by omega
    have no : ∀ x y, (Board.nums c)[i.toNat]? = some x → (Board.nums c)[(i + 1).toNat]? = some y → ¬ (1 ≤ x ∧ x ≤ y) → ¬ Can c L := fun x y hx hy hn hc => hn (((nums_can eL).1 hc).2 (i.toNat / 2) (by omega) x y (by rw [hi2]; exact hx) (by rw [← hi3]; exact hy))
    obtain ⟨y0, hy0⟩ : ∃ y, (Board.nums c)[(i + 1).toNat]? = some y := ⟨_, List.getElem?_eq_getElem (by rw [hl24]; omega)⟩
    refine read_int e2 i0 (by omega) fun x hx => If.dec.2 ⟨fun hx1 => stop (no x y0 hx hy0 (by omega)) _ x02, fun hx1 => ?_⟩
    rw [wrap_i64 (n := i + 1) (by omega) (by omega), wrap_i64 (n := i + 2) (by omega) (by omega)]
    refine read_int e2 i0 (by omega) fun x' hx' => read_int e2 (i := i + 1) (by omega) (by omega) fun y hy' => If.dec.2 ⟨fun hxy => stop (no x' y hx' hy' (by omega)) _ x02, fun hxy => ?_⟩
    rw [hx] at hx'
    injection hx' with hx'
    subst hx'
    refine ⟨⟨by first | omega | (dsimp only; omega), by first | omega | (dsimp only; omega), by first | omega | (dsimp only; omega), rfl, fun k hk => ?_⟩, by first | omega | (dsimp only; omega)⟩
    by_cases hki : 2 * k < i.toNat
    · exact hall k hki
    · have hk : 2 * k < (i + 2).toNat := hk
      have hk2 : k = i.toNat / 2 := by omega
      subst hk2
      rw [hi2, ← hi2, ← hi3, hi2]
      intro a b ha hb
      rw [hx] at ha
      rw [hy'] at hb
      injection ha with ha
      injection hb with hb
      omega
  · refine ⟨c.vals, (v1.ext x2).at1 rfl, doctotal_spec (e.ext x02) hk (by omega) fun h3 x3 => ⟨_, _, rfl, ?_⟩⟩
    have hi3 : i.toNat = 24 := by omega
    rw [hi3] at hall
    cases ht : totF L 0 with
    | none => exact stop (fun hc => by obtain ⟨s, hs⟩ := hc.tot; rw [hs] at ht; cases ht) h3 (x02.trans x3)
    | some s =>
      have hc : Can c L := (nums_can eL).2 ⟨⟨s, ht⟩, fun k hk => hall k (by omega)⟩
      have := hr h3 (x02.trans x3)
      rw [good_can.2 hc] at this
      exact this

end
end Go.Proofs.Ytldocdpdjdekiaa.Gate
end

section
/- A configuration's bytes and the first block's name: the program's and the document's. -/
namespace Go.Proofs.Ytldocdpdjdekiaa.Gate
open Go Go.Vc Board
section
variable {R : Value → Heap → Prop} {h : Heap} {c : Cf} {L : List Vd}

theorem le4_len (n : Int) : (le4 n).length = 4 := leF_length 4 _
theorem bytesV_len {v : Vd} : (bytesV v).length = 9 + v.key.length := by
  unfold bytesV
  rw [List.length_append, List.length_append, leF_length, leF_length]
theorem flat_le4 : ∀ (l : List Int), (l.flatMap le4).length = 4 * l.length
  | [] => rfl
  | n :: l => by rw [List.flatMap_cons, List.length_append, le4_len, flat_le4 l, List.length_cons]; omega
theorem flat_bytesV : ∀ (l : List Vd), (∀ v ∈ l, v.key.length ≤ 32) → (l.flatMap bytesV).length ≤ 41 * l.length
  | [], _ => Nat.le_refl 0
  | v :: l, h => by
    have h1 := h v (List.mem_cons_self)
    have h2 := flat_bytesV l fun x hx => h x (List.mem_cons_of_mem _ hx)
    rw [List.flatMap_cons, List.length_append, bytesV_len, List.length_cons]
    omega
theorem flat_snoc {α β : Type} {f : α → List β} {l : List α} {x : α} : (l ++ [x]).flatMap f = l.flatMap f ++ f x := by simp

theorem Row_weak {Q Q' : Nat → Prop} {s : Sl} {bs : List UInt8} (r : Row Q h s bs) (hq : ∀ i, Q i → Q' i) : Row Q' h s bs := ⟨r.own, fun l hl => hq _ (r.far l hl), fun i hi => hq _ (r.new i hi)⟩

set_option maxRecDepth 100000 in
theorem gbytes_spec (e : Elems 2 h c.vals (vds L)) (hl : c.vals.len ≤ 64) (hk : ∀ v ∈ L, v.key.length ≤ 32) (hr : ∀ h', Ext h h' → R (TV.str (bytesC c L)).val h') : CallsH Try.prog F.genesis_Bytes (TVs.vals [c.tv]) h R := by
  apply genesis_Bytes_calls c.vals c.ep c.com c.no c.orp c.ear c.quo c.pe c.by_ c.win c.ban c.dec
  unfold genesis_Bytes_vc
  have el : L.length = c.vals.len := by have := e.len; rwa [List.length_map] at this
  refine newTV_in fun h1 v1 x1 s1 => ?_
  refine ⟨_, v1.at1 rfl, _, v1.at1 rfl, _, v1.at1 rfl, _, v1.at1 rfl, _, v1.at1 rfl, _, v1.at1 rfl, _, v1.at1 rfl, _, v1.at1 rfl, _, v1.at1 rfl, _, v1.at1 rfl, _, v1.at1 rfl, c.vals, v1.at1 rfl, ?_⟩
  have on := Own.new (T := 3) (sz := 1) h1 (ints (numsC c L.length)) (fun t ht => by
    obtain ⟨x, _, rfl⟩ := List.mem_map.1 ht
    rfl)
  have hn : TVs.cells [TV.int IntKind.i64 c.ep, TV.int IntKind.i64 c.com, TV.int IntKind.i64 c.no, TV.int IntKind.i64 c.orp, TV.int IntKind.i64 c.ear, TV.int IntKind.i64 c.quo, TV.int IntKind.i64 c.pe, TV.int IntKind.i64 c.by_, TV.int IntKind.i64 c.win, TV.int IntKind.i64 c.ban, TV.int IntKind.i64 c.dec, TV.int IntKind.i64 (c.vals.len : Int)] = TVs.cells (ints (numsC c L.length)) := by rw [← el]; rfl
  rw [hn]
  have xp := Ext.push h1 (Vc.row (TVs.cells (ints (numsC c L.length))) 3)
  have sp : (h1.push (Vc.row (TVs.cells (ints (numsC c L.length))) 3)).size = h1.size + 1 := by simp
  generalize h1.push (Vc.row (TVs.cells (ints (numsC c L.length))) 3) = h2 at on xp sp ⊢
  have x02 := x1.trans xp
  have en := on.elems
  have r0 : Row (fun i => h1.size < i) h2 Sl.nil [] := ⟨Own.nil _ _ _, (fun l hl => by cases hl), fun i hi => by omega⟩
  refine ⟨fun σ hh => 0 ≤ σ.2 ∧ σ.2 ≤ 12 ∧ Row (fun i => h1.size < i) hh σ.1 (((numsC c L.length).take σ.2.toNat).flatMap le4) ∧ Only (fun i => h1.size < i) h2 hh, fun σ _ => (12 - σ.2).toNat, ⟨Int.le_refl 0, by decide, r0, Only.refl _ _⟩, ?_⟩
  rintro ⟨s, i⟩ h3 ⟨i0, i1, r3, o3⟩
  dsimp only at i0 i1 r3 ⊢
  have x3 : Ext h h3 := Only.cut x02 o3 fun i hi => by omega
  refine If.dec.2 ⟨fun hi => ?_, fun hi => ?_⟩
  · have hi : i < 12 := hi
    have en3 : Elems 1 h3 ⟨some ⟨h1.size, 0⟩, 12, 12⟩ (ints (numsC c L.length)) := (on.only o3 (fun l hl => by cases hl; exact Nat.lt_irrefl _)).elems
    obtain ⟨x, hx⟩ : ∃ x, (numsC c L.length)[i.toNat]? = some x := ⟨_, List.getElem?_eq_getElem (show i.toNat < (numsC c L.length).length by show i.toNat < 12; omega)⟩
    have hat := en3.get _ rfl i.toNat (.int .i64 x) (by rw [List.getElem?_map, hx]; rfl)
    refine ⟨i0, hi, x, hat, ?_⟩
    refine put_spec_le (k := 4) r3 (by rw [flat_le4, List.length_take]; show 4 * min i.toNat 12 < 5000; omega) (by decide) fun h4 s4 r4 o4 => ⟨_, rfl, ?_⟩
    rw [wrap_i64 (n := i + 1) (by omega) (by omega)]
    refine ⟨⟨by first | omega | (dsimp only; omega), by first | omega | (dsimp only; omega), ?_, o3.trans o4⟩, by first | omega | (dsimp only; omega)⟩
    show Row _ _ _ (((numsC c L.length).take (i + 1).toNat).flatMap le4)
    rw [show (i + 1).toNat = i.toNat + 1 by omega, take_snoc hx, flat_snoc]
    exact r4
  · have hi2 : i.toNat = (numsC c L.length).length := by show i.toNat = 12; have : ¬ i < 12 := hi; omega
    rw [hi2, List.take_length] at r3
    have v3 : Var 24 h3 h.size c.tv := (v1.ext xp).only o3 (by omega)
    refine ⟨c.vals, v3.at1 rfl, ?_⟩
    refine ⟨fun σ hh => 0 ≤ σ.2 ∧ σ.2 ≤ c.vals.len ∧ Row (fun i => h1.size < i) hh σ.1 ((numsC c L.length).flatMap le4 ++ (L.take σ.2.toNat).flatMap bytesV) ∧ Ext h hh, fun σ _ => ((c.vals.len : Int) - σ.2).toNat, ⟨Int.le_refl 0, by first | omega | (dsimp only; omega), by simpa using r3, x3⟩, ?_⟩
    rintro ⟨s, i⟩ h4 ⟨i0, i1, r4, x4⟩
    dsimp only at i0 i1 r4 ⊢
    refine If.dec.2 ⟨fun hi => ?_, fun hi => ?_⟩
    · refine read_vd (e.ext x4) i0 (by omega) fun x hx => newTV_in fun h5 v5 x5 s5 => put_in v5 (t := x.tv) rfl fun h6 v6 o6 s6 => ?_
      have x46 : Ext h4 h6 := Only.cut x5 o6 fun i hi => by omega
      have r6 := r4.ext x46
      have r6 : Row (fun i => h1.size < i ∧ i ≠ h4.size) h6 s ((numsC c L.length).flatMap le4 ++ (L.take i.toNat).flatMap bytesV) := ⟨r6.own, fun l hl => ⟨r6.far l hl, fun hc => by have := r4.own.lt l hl; omega⟩, fun i hi => ⟨r6.new i hi, by omega⟩⟩
      have kx := hk x (List.mem_of_getElem? hx)
      have tl := flat_bytesV (L.take i.toNat) fun v hv => hk v (List.mem_of_mem_take hv)
      rw [List.length_take] at tl
      have l6 : ((numsC c L.length).flatMap le4 ++ (L.take i.toNat).flatMap bytesV).length ≤ 48 + 41 * 64 := by
        rw [List.length_append, flat_le4]
        show 4 * 12 + _ ≤ _
        omega
      have vk : Var 78 (Vc.keeps (· = h4.size) h6) h4.size x.tv := v6.keeps (S := (· = h4.size)) rfl
      refine ⟨Vc.keeps (· = h4.size) h6, keeps_refl, _, vk.at1 rfl, _, vk.at1 rfl, _, vk.at1 rfl, ?_⟩
      refine put_spec_le (k := 8) r6 (by omega) (by decide) fun h7 s7 r7 o7 => ⟨_, rfl, keeps_of o7 (fun i hi hq => hq.2 hi), ?_⟩
      refine put_spec_le (k := 1) r7 (by rw [List.length_append, leF_length]; omega) (by decide) fun h8 s8 r8 o8 => ⟨_, rfl, keeps_of (o7.trans o8) (fun i hi hq => hq.2 hi), app_loose ?_⟩
      refine app_bytes r8 (by rw [List.length_append, List.length_append, leF_length, leF_length]; omega) fun s9 h9 r9 f9 b9 => ?_
      have f9 := r8.cut f9
      rw [wrap_i64 (n := i + 1) (by omega) (by omega)]
      refine ⟨⟨by first | omega | (dsimp only; omega), by first | omega | (dsimp only; omega), ?_, Only.cut (x4.trans x46) ((o7.trans o8).trans f9) fun i hi => by omega⟩, by first | omega | (dsimp only; omega)⟩
      show Row _ _ _ ((numsC c L.length).flatMap le4 ++ (L.take (i + 1).toNat).flatMap bytesV)
      rw [show (i + 1).toNat = i.toNat + 1 by omega, take_snoc hx, flat_snoc]
      have := Row_weak r9 (Q' := fun i => h1.size < i) fun i hi => hi.1
      rw [show bytesV x = (leF (IntKind.wrap .u64 x.stake) 8 ++ leF (IntKind.wrap .u64 (x.key.length : Int)) 1) ++ x.key from rfl]
      simp only [List.append_assoc] at this ⊢
      exact this
    · have hi2 : i.toNat = L.length := by omega
      rw [hi2, List.take_length] at r4
      exact ⟨_, r4.str, hr h4 x4⟩

theorem bytesC_len (hk : ∀ v ∈ L, v.key.length ≤ 32) : (bytesC c L).length ≤ 48 + 41 * L.length := by
  have := flat_bytesV L hk
  unfold bytesC
  rw [List.length_append, flat_le4]
  show 4 * 12 + _ ≤ _
  omega

theorem toller_len : toller.length = 6 := by decide

theorem groot_spec (e : Elems 2 h c.vals (vds L)) (hl : c.vals.len ≤ 64) (hk : ∀ v ∈ L, v.key.length ≤ 32) (hr : ∀ h', Ext h h' → R (TV.bytes 32 (rootC c L)).val h') : CallsH Try.prog F.genesis_Root (TVs.vals [c.tv]) h R := by
  apply genesis_Root_calls c.vals c.ep c.com c.no c.orp c.ear c.quo c.pe c.by_ c.win c.ban c.dec
  unfold genesis_Root_vc
  have el : L.length = c.vals.len := by have := e.len; rwa [List.length_map] at this
  refine newTV_in fun h1 v1 x1 s1 => newTV_in fun h2 v2 x2 s2 => ?_
  refine ⟨c.vals, c.ep, c.com, c.no, c.orp, c.ear, c.quo, c.pe, c.by_, c.win, c.ban, c.dec, (v1.ext x2).at, ?_⟩
  have x02 := x1.trans x2
  have bl := bytesC_len (c := c) hk
  refine gbytes_spec (e.ext x02) hl hk fun h3 x3 => ⟨_, rfl, ?_⟩
  have xp := Ext.push h3 (row (TVs.cells [TV.str toller, TV.str (bytesC c L)]) 9)
  refine of2_spec (ts := [toller, bytesC c L]) ?_ ?_ (by simp) fun h4 x4 => ⟨_, rfl, ?_⟩
  · exact (Own.new (T := 9) (sz := 1) h3 [TV.str toller, TV.str (bytesC c L)] (fun t ht => by
      simp only [List.mem_cons, List.not_mem_nil, or_false] at ht
      rcases ht with rfl | rfl <;> rfl)).elems
  · simp only [List.flatten_cons, List.flatten_nil, List.append_nil, List.length_append, toller_len]
    omega
  · have hf : [toller, bytesC c L].flatten = toller ++ bytesC c L := by simp
    rw [hf]
    refine put_in (((v2.ext x3).ext xp).ext x4) (t := .bytes 32 (rootC c L)) bsz fun h5 v5 o5 s5 => ⟨_, v5.bytes, ?_⟩
    exact hr h5 (Only.cut (((x02.trans x3).trans xp).trans x4) o5 fun i hi => by have := x1.size; omega)

end
end Go.Proofs.Ytldocdpdjdekiaa.Gate
end

section
/- The conditions of functions, as the generator reckons them out, each with the proof that it is that. -/
namespace Go.Proofs.Ytldocdpdjdekiaa
open Go Go.Vc
set_option maxRecDepth 100000
set_option linter.unusedVariables false

def votes_New_vc (c_Validators : Sl) (c_Epoch : Int) (c_Committee : Int) (c_Nodes : Int) (c_Orphans : Int) (c_Early : Int) (c_Quota : Int) (c_Peers : Int) (c_Bytes : Int) (c_Window : Int) (c_Ban : Int) (c_Decay : Int) (h : Heap) (R : Value → Heap → Prop) : Prop := Vc.Bind (newTV h (.agg [.slice c_Validators, .int .i64 c_Epoch, .int .i64 c_Committee, .int .i64 c_Nodes, .int .i64 c_Orphans, .int .i64 c_Early, .int .i64 c_Quota, .int .i64 c_Peers, .int .i64 c_Bytes, .int .i64 c_Window, .int .i64 c_Ban, .int .i64 c_Decay]) 24) fun h_1 ↦ ∃ (s : Sl), ∃ (n n_1 n_2 n_3 n_4 n_5 n_6 n_7 n_8 n_9 n_10 : Int), (at1 h_1 h.size 0 (slVal s) ∧ at1 h_1 h.size 1 (.int .i64 n) ∧ at1 h_1 h.size 2 (.int .i64 n_1) ∧ at1 h_1 h.size 3 (.int .i64 n_2) ∧ at1 h_1 h.size 4 (.int .i64 n_3) ∧ at1 h_1 h.size 5 (.int .i64 n_4) ∧ at1 h_1 h.size 6 (.int .i64 n_5) ∧ at1 h_1 h.size 7 (.int .i64 n_6) ∧ at1 h_1 h.size 8 (.int .i64 n_7) ∧ at1 h_1 h.size 9 (.int .i64 n_8) ∧ at1 h_1 h.size 10 (.int .i64 n_9) ∧ at1 h_1 h.size 11 (.int .i64 n_10)) ∧ CallsH Try.prog 37 (TVs.vals [.agg [.slice s, .int .i64 n, .int .i64 n_1, .int .i64 n_2, .int .i64 n_3, .int .i64 n_4, .int .i64 n_5, .int .i64 n_6, .int .i64 n_7, .int .i64 n_8, .int .i64 n_9, .int .i64 n_10]]) h_1 fun v h_2 ↦ ∃ (b : Bool), v = TV.val (.bool b) ∧ If (!b) (R (TV.val (.ptr none)) h_2) (∃ (s : Sl), ∃ (n n_11 n_12 n_13 n_14 n_15 n_16 n_17 n_18 n_19 n_20 : Int), (at1 h_2 h.size 0 (slVal s) ∧ at1 h_2 h.size 1 (.int .i64 n) ∧ at1 h_2 h.size 2 (.int .i64 n_11) ∧ at1 h_2 h.size 3 (.int .i64 n_12) ∧ at1 h_2 h.size 4 (.int .i64 n_13) ∧ at1 h_2 h.size 5 (.int .i64 n_14) ∧ at1 h_2 h.size 6 (.int .i64 n_15) ∧ at1 h_2 h.size 7 (.int .i64 n_16) ∧ at1 h_2 h.size 8 (.int .i64 n_17) ∧ at1 h_2 h.size 9 (.int .i64 n_18) ∧ at1 h_2 h.size 10 (.int .i64 n_19) ∧ at1 h_2 h.size 11 (.int .i64 n_20)) ∧ ∃ (n_21 : Int), at1 h_2 h.size 3 (.int .i64 n_21) ∧ CallsH Try.prog 104 (TVs.vals [.agg [.slice s, .int .i64 n, .int .i64 n_11, .int .i64 n_12, .int .i64 n_13, .int .i64 n_14, .int .i64 n_15, .int .i64 n_16, .int .i64 n_17, .int .i64 n_18, .int .i64 n_19, .int .i64 n_20]]) h_2 fun v h_3 ↦ ∃ (b : Bs 32), v = TV.val (.bytes 32 b) ∧ Ext h_2 h_3 ∧ CallsH Try.prog 103 (TVs.vals [.bytes 32 b, .int .i64 0, .int .i64 n_21]) h_3 fun v h_4 ↦ ∃ (p : Option Go.Vc.Loc), ∃ (n : Int), v = TV.val (.tup [.ptr p, .int .i64 n]) ∧ ∃ (s : Sl), ∃ (n n_22 n_23 n_24 n_25 n_26 n_27 n_28 n_29 n_30 n_31 : Int), (at1 h_4 h.size 0 (slVal s) ∧ at1 h_4 h.size 1 (.int .i64 n) ∧ at1 h_4 h.size 2 (.int .i64 n_22) ∧ at1 h_4 h.size 3 (.int .i64 n_23) ∧ at1 h_4 h.size 4 (.int .i64 n_24) ∧ at1 h_4 h.size 5 (.int .i64 n_25) ∧ at1 h_4 h.size 6 (.int .i64 n_26) ∧ at1 h_4 h.size 7 (.int .i64 n_27) ∧ at1 h_4 h.size 8 (.int .i64 n_28) ∧ at1 h_4 h.size 9 (.int .i64 n_29) ∧ at1 h_4 h.size 10 (.int .i64 n_30) ∧ at1 h_4 h.size 11 (.int .i64 n_31)) ∧ ∃ (s_1 : Sl), at1 h_4 h.size 0 (slVal s_1) ∧ ∃ (n_32 : Int), at1 h_4 h.size 1 (.int .i64 n_32) ∧ CallsH Try.prog 105 (TVs.vals [.ptr p]) h_4 fun v h ↦ ∃ (p_1 : Option Go.Vc.Loc), v = TV.val (.ptr p_1) ∧ Ext h_4 h ∧ CallsH Try.prog 106 (TVs.vals [.int .i64 (↑s_1.len : Int), .int .i64 n_32]) h fun v h_5 ↦ ∃ (p_2 : Option Go.Vc.Loc), v = TV.val (.ptr p_2) ∧ Ext h h_5 ∧ Vc.Bind (newTV h_5 (.agg [.agg [.slice s, .int .i64 n, .int .i64 n_22, .int .i64 n_23, .int .i64 n_24, .int .i64 n_25, .int .i64 n_26, .int .i64 n_27, .int .i64 n_28, .int .i64 n_29, .int .i64 n_30, .int .i64 n_31], .ptr p, .ptr p_1, .ptr p_2]) 145) fun h ↦ R (TV.val (.ptr (some (Loc.mk h_5.size 0)))) h)
theorem votes_New_calls (c_Validators : Sl) (c_Epoch : Int) (c_Committee : Int) (c_Nodes : Int) (c_Orphans : Int) (c_Early : Int) (c_Quota : Int) (c_Peers : Int) (c_Bytes : Int) (c_Window : Int) (c_Ban : Int) (c_Decay : Int) (h : Heap) (R : Value → Heap → Prop) (H : votes_New_vc c_Validators c_Epoch c_Committee c_Nodes c_Orphans c_Early c_Quota c_Peers c_Bytes c_Window c_Ban c_Decay h R) : CallsH Try.prog 69 (TVs.vals [.agg [.slice c_Validators, .int .i64 c_Epoch, .int .i64 c_Committee, .int .i64 c_Nodes, .int .i64 c_Orphans, .int .i64 c_Early, .int .i64 c_Quota, .int .i64 c_Peers, .int .i64 c_Bytes, .int .i64 c_Window, .int .i64 c_Ban, .int .i64 c_Decay]]) h R := via ctx_ok Try.func69 (by kernel_rfl) H

def gate_New_vc (c_Validators : Sl) (c_Epoch : Int) (c_Committee : Int) (c_Nodes : Int) (c_Orphans : Int) (c_Early : Int) (c_Quota : Int) (c_Peers : Int) (c_Bytes : Int) (c_Window : Int) (c_Ban : Int) (c_Decay : Int) (h : Heap) (R : Value → Heap → Prop) : Prop := Vc.Bind (newTV h (.agg [.slice c_Validators, .int .i64 c_Epoch, .int .i64 c_Committee, .int .i64 c_Nodes, .int .i64 c_Orphans, .int .i64 c_Early, .int .i64 c_Quota, .int .i64 c_Peers, .int .i64 c_Bytes, .int .i64 c_Window, .int .i64 c_Ban, .int .i64 c_Decay]) 24) fun h_1 ↦ ∃ (s : Sl), ∃ (n n_1 n_2 n_3 n_4 n_5 n_6 n_7 n_8 n_9 n_10 : Int), (at1 h_1 h.size 0 (slVal s) ∧ at1 h_1 h.size 1 (.int .i64 n) ∧ at1 h_1 h.size 2 (.int .i64 n_1) ∧ at1 h_1 h.size 3 (.int .i64 n_2) ∧ at1 h_1 h.size 4 (.int .i64 n_3) ∧ at1 h_1 h.size 5 (.int .i64 n_4) ∧ at1 h_1 h.size 6 (.int .i64 n_5) ∧ at1 h_1 h.size 7 (.int .i64 n_6) ∧ at1 h_1 h.size 8 (.int .i64 n_7) ∧ at1 h_1 h.size 9 (.int .i64 n_8) ∧ at1 h_1 h.size 10 (.int .i64 n_9) ∧ at1 h_1 h.size 11 (.int .i64 n_10)) ∧ CallsH Try.prog 37 (TVs.vals [.agg [.slice s, .int .i64 n, .int .i64 n_1, .int .i64 n_2, .int .i64 n_3, .int .i64 n_4, .int .i64 n_5, .int .i64 n_6, .int .i64 n_7, .int .i64 n_8, .int .i64 n_9, .int .i64 n_10]]) h_1 fun v h_2 ↦ ∃ (b : Bool), v = TV.val (.bool b) ∧ If (!b) (R (TV.val (.tup [.ptr none, .int .i64 1])) h_2) (∃ (s_1 : Sl), at1 (Array.push h_2 (row (TVs.cells []) 78)) h.size 0 (slVal s_1) ∧ ∃ (new : List Value), slAt (Array.push h_2 (row (TVs.cells []) 78)) s_1 2 new ∧ (∀ (v : Value), v ∈ new → isOne v = true) ∧ vcAppend Ytldocdpdjdekiaa.ctx 78 (Sl.mk (some (Loc.mk h_2.size 0)) 0 0) s_1.len new (Array.push h_2 (row (TVs.cells []) 78)) fun s_2 h_3 ↦ wok h_3 h.size 0 1 ∧ Vc.Bind (TV.put h_3 h.size 0 (.slice s_2)) fun h_4 ↦ Join (fun (s_3 : Option Go.Vc.Loc × Int × Int × Option Go.Vc.Loc × Int × Int × Option Go.Vc.Loc × Int × Int × Int × Option Go.Vc.Loc × Option Go.Vc.Loc) (h_5 : Array Obj) ↦ ∃ (s_4 : Sl), ∃ (n_11 n_12 n_13 n_14 n_15 n_16 n_17 n_18 n_19 n_20 n_21 : Int), (at1 h_5 h.size 0 (slVal s_4) ∧ at1 h_5 h.size 1 (.int .i64 n_11) ∧ at1 h_5 h.size 2 (.int .i64 n_12) ∧ at1 h_5 h.size 3 (.int .i64 n_13) ∧ at1 h_5 h.size 4 (.int .i64 n_14) ∧ at1 h_5 h.size 5 (.int .i64 n_15) ∧ at1 h_5 h.size 6 (.int .i64 n_16) ∧ at1 h_5 h.size 7 (.int .i64 n_17) ∧ at1 h_5 h.size 8 (.int .i64 n_18) ∧ at1 h_5 h.size 9 (.int .i64 n_19) ∧ at1 h_5 h.size 10 (.int .i64 n_20) ∧ at1 h_5 h.size 11 (.int .i64 n_21)) ∧ ∃ (n_22 : Int), at1 h_5 h.size 9 (.int .i64 n_22) ∧ Nn s_3.snd.snd.snd.snd.snd.snd.snd.snd.snd.snd.snd fun l ↦ ∃ (p p_1 p_2 p_3 : Option Go.Vc.Loc), (at1 h_5 l.b l.o (Value.pointer (Option.map Loc.addr p)) ∧ at1 h_5 l.b (l.o + 1) (Value.pointer (Option.map Loc.addr p_1)) ∧ at1 h_5 l.b (l.o + 1 + 1) (Value.pointer (Option.map Loc.addr p_2)) ∧ at1 h_5 l.b (l.o + 1 + 1 + 1) (Value.pointer (Option.map Loc.addr p_3))) ∧ CallsH Try.prog 71 (TVs.vals [.int .i64 n_22]) h_5 fun v h ↦ ∃ (p_4 : Option Go.Vc.Loc), v = TV.val (.ptr p_4) ∧ Ext h_5 h ∧ Vc.Bind (newTV h (.agg [.agg [.slice s_4, .int .i64 n_11, .int .i64 n_12, .int .i64 n_13, .int .i64 n_14, .int .i64 n_15, .int .i64 n_16, .int .i64 n_17, .int .i64 n_18, .int .i64 n_19, .int .i64 n_20, .int .i64 n_21], .ptr p_4, .agg [.ptr p, .ptr p_1, .ptr p_2, .ptr p_3], .int .i64 0]) 137) fun h_6 ↦ R (TV.val (.tup [.ptr (some (Loc.mk h.size 0)), .int .i64 0])) h_6) fun (J : Option Go.Vc.Loc × Int × Int × Option Go.Vc.Loc × Int × Int × Option Go.Vc.Loc × Int × Int × Int × Option Go.Vc.Loc × Option Go.Vc.Loc → Array Obj → Prop) ↦ ∃ (s : Sl), ∃ (n n_11 n_12 n_13 n_14 n_15 n_16 n_17 n_18 n_19 n_20 : Int), (at1 h_4 h.size 0 (slVal s) ∧ at1 h_4 h.size 1 (.int .i64 n) ∧ at1 h_4 h.size 2 (.int .i64 n_11) ∧ at1 h_4 h.size 3 (.int .i64 n_12) ∧ at1 h_4 h.size 4 (.int .i64 n_13) ∧ at1 h_4 h.size 5 (.int .i64 n_14) ∧ at1 h_4 h.size 6 (.int .i64 n_15) ∧ at1 h_4 h.size 7 (.int .i64 n_16) ∧ at1 h_4 h.size 8 (.int .i64 n_17) ∧ at1 h_4 h.size 9 (.int .i64 n_18) ∧ at1 h_4 h.size 10 (.int .i64 n_19) ∧ at1 h_4 h.size 11 (.int .i64 n_20)) ∧ ∃ (n_21 : Int), at1 h_4 h.size 4 (.int .i64 n_21) ∧ ∃ (n_22 : Int), at1 h_4 h.size 6 (.int .i64 n_22) ∧ ∃ (n_23 : Int), at1 h_4 h.size 5 (.int .i64 n_23) ∧ ∃ (n_24 : Int), at1 h_4 h.size 6 (.int .i64 n_24) ∧ ∃ (n_25 : Int), at1 h_4 h.size 7 (.int .i64 n_25) ∧ ∃ (n_26 : Int), at1 h_4 h.size 10 (.int .i64 n_26) ∧ ∃ (n_27 : Int), at1 h_4 h.size 11 (.int .i64 n_27) ∧ (CallsH Try.prog 69 (TVs.vals [.agg [.slice s, .int .i64 n, .int .i64 n_11, .int .i64 n_12, .int .i64 n_13, .int .i64 n_14, .int .i64 n_15, .int .i64 n_16, .int .i64 n_17, .int .i64 n_18, .int .i64 n_19, .int .i64 n_20]]) h_4 fun v h ↦ ∃ (p : Option Go.Vc.Loc), v = TV.val (.ptr p) ∧ Ext h_4 h ∧ (CallsH Try.prog 31 (TVs.vals [.int .i64 n_21, .int .i64 n_22]) h fun v h_5 ↦ ∃ (p_1 : Option Go.Vc.Loc), v = TV.val (.ptr p_1) ∧ Ext h h_5 ∧ (CallsH Try.prog 22 (TVs.vals [.int .i64 n_23, .int .i64 n_24]) h_5 fun v h ↦ ∃ (p_2 : Option Go.Vc.Loc), v = TV.val (.ptr p_2) ∧ Ext h_5 h ∧ (CallsH Try.prog 70 (TVs.vals [.int .i64 n_25, .int .i64 n_26, .int .i64 n_27]) h fun v h ↦ ∃ (p_3 : Option Go.Vc.Loc), v = TV.val (.ptr p_3) ∧ Vc.Bind (newTV h (.agg [.ptr none, .ptr none, .ptr none, .ptr none]) 133) fun h_6 ↦ Ext h h_6 ∧ wok h_6 h.size 0 4 ∧ Vc.Bind (TV.put h_6 h.size 0 (.agg [.ptr p, .ptr p_1, .ptr p_2, .ptr p_3])) fun h_7 ↦ J (p, n_21, n_22, p_1, n_23, n_24, p_2, n_25, n_26, n_27, p_3, some (Loc.mk h.size 0)) h_7) ∧ Vc.Bind (newTV h (.agg [.ptr none, .ptr none, .ptr none, .ptr none]) 133) fun h_6 ↦ Ext h h_6 ∧ CallsH Try.prog 70 (TVs.vals [.int .i64 n_25, .int .i64 n_26, .int .i64 n_27]) h_6 fun v h_7 ↦ ∃ (p_3 : Option Go.Vc.Loc), v = TV.val (.ptr p_3) ∧ wok h_7 h.size 0 4 ∧ Vc.Bind (TV.put h_7 h.size 0 (.agg [.ptr p, .ptr p_1, .ptr p_2, .ptr p_3])) fun h_8 ↦ J (p, n_21, n_22, p_1, n_23, n_24, p_2, n_25, n_26, n_27, p_3, some (Loc.mk h.size 0)) h_8) ∧ Vc.Bind (newTV h_5 (.agg [.ptr none, .ptr none, .ptr none, .ptr none]) 133) fun h ↦ Ext h_5 h ∧ CallsH Try.prog 22 (TVs.vals [.int .i64 n_23, .int .i64 n_24]) h fun v h_6 ↦ ∃ (p_2 : Option Go.Vc.Loc), v = TV.val (.ptr p_2) ∧ Ext h h_6 ∧ CallsH Try.prog 70 (TVs.vals [.int .i64 n_25, .int .i64 n_26, .int .i64 n_27]) h_6 fun v h ↦ ∃ (p_3 : Option Go.Vc.Loc), v = TV.val (.ptr p_3) ∧ wok h h_5.size 0 4 ∧ Vc.Bind (TV.put h h_5.size 0 (.agg [.ptr p, .ptr p_1, .ptr p_2, .ptr p_3])) fun h ↦ J (p, n_21, n_22, p_1, n_23, n_24, p_2, n_25, n_26, n_27, p_3, some (Loc.mk h_5.size 0)) h) ∧ Vc.Bind (newTV h (.agg [.ptr none, .ptr none, .ptr none, .ptr none]) 133) fun h_5 ↦ Ext h h_5 ∧ CallsH Try.prog 31 (TVs.vals [.int .i64 n_21, .int .i64 n_22]) h_5 fun v h_6 ↦ ∃ (p_1 : Option Go.Vc.Loc), v = TV.val (.ptr p_1) ∧ Ext h_5 h_6 ∧ CallsH Try.prog 22 (TVs.vals [.int .i64 n_23, .int .i64 n_24]) h_6 fun v h_7 ↦ ∃ (p_2 : Option Go.Vc.Loc), v = TV.val (.ptr p_2) ∧ Ext h_6 h_7 ∧ CallsH Try.prog 70 (TVs.vals [.int .i64 n_25, .int .i64 n_26, .int .i64 n_27]) h_7 fun v h_8 ↦ ∃ (p_3 : Option Go.Vc.Loc), v = TV.val (.ptr p_3) ∧ wok h_8 h.size 0 4 ∧ Vc.Bind (TV.put h_8 h.size 0 (.agg [.ptr p, .ptr p_1, .ptr p_2, .ptr p_3])) fun h_9 ↦ J (p, n_21, n_22, p_1, n_23, n_24, p_2, n_25, n_26, n_27, p_3, some (Loc.mk h.size 0)) h_9) ∧ Vc.Bind (newTV h_4 (.agg [.ptr none, .ptr none, .ptr none, .ptr none]) 133) fun h ↦ Ext h_4 h ∧ CallsH Try.prog 69 (TVs.vals [.agg [.slice s, .int .i64 n, .int .i64 n_11, .int .i64 n_12, .int .i64 n_13, .int .i64 n_14, .int .i64 n_15, .int .i64 n_16, .int .i64 n_17, .int .i64 n_18, .int .i64 n_19, .int .i64 n_20]]) h fun v h_5 ↦ ∃ (p : Option Go.Vc.Loc), v = TV.val (.ptr p) ∧ Ext h h_5 ∧ CallsH Try.prog 31 (TVs.vals [.int .i64 n_21, .int .i64 n_22]) h_5 fun v h ↦ ∃ (p_1 : Option Go.Vc.Loc), v = TV.val (.ptr p_1) ∧ Ext h_5 h ∧ CallsH Try.prog 22 (TVs.vals [.int .i64 n_23, .int .i64 n_24]) h fun v h_6 ↦ ∃ (p_2 : Option Go.Vc.Loc), v = TV.val (.ptr p_2) ∧ Ext h h_6 ∧ CallsH Try.prog 70 (TVs.vals [.int .i64 n_25, .int .i64 n_26, .int .i64 n_27]) h_6 fun v h ↦ ∃ (p_3 : Option Go.Vc.Loc), v = TV.val (.ptr p_3) ∧ wok h h_4.size 0 4 ∧ Vc.Bind (TV.put h h_4.size 0 (.agg [.ptr p, .ptr p_1, .ptr p_2, .ptr p_3])) fun h ↦ J (p, n_21, n_22, p_1, n_23, n_24, p_2, n_25, n_26, n_27, p_3, some (Loc.mk h_4.size 0)) h)
theorem gate_New_calls (c_Validators : Sl) (c_Epoch : Int) (c_Committee : Int) (c_Nodes : Int) (c_Orphans : Int) (c_Early : Int) (c_Quota : Int) (c_Peers : Int) (c_Bytes : Int) (c_Window : Int) (c_Ban : Int) (c_Decay : Int) (h : Heap) (R : Value → Heap → Prop) (H : gate_New_vc c_Validators c_Epoch c_Committee c_Nodes c_Orphans c_Early c_Quota c_Peers c_Bytes c_Window c_Ban c_Decay h R) : CallsH Try.prog 36 (TVs.vals [.agg [.slice c_Validators, .int .i64 c_Epoch, .int .i64 c_Committee, .int .i64 c_Nodes, .int .i64 c_Orphans, .int .i64 c_Early, .int .i64 c_Quota, .int .i64 c_Peers, .int .i64 c_Bytes, .int .i64 c_Window, .int .i64 c_Ban, .int .i64 c_Decay]]) h R := via ctx_ok Try.func36 (by kernel_rfl) H

end Go.Proofs.Ytldocdpdjdekiaa
end

section
/- A gate in memory; a new book. -/
namespace Go.Proofs.Ytldocdpdjdekiaa.Gate
open Go Go.Vc
open Board (Vd Cf vds)
open Pool (It WL Mine)
open Peers (Pe)

/-- Where a gate's parts are. -/
structure Ad where
  tr : Nat
  we : Nat
  ta : Nat
  bk : Nat
  kd : Nat
  wt : Nat
  wh : Nat
  clk : Nat

def bookTV (c : Cf) (a : Ad) : TV := .agg [c.tv, .ptr (some ⟨a.tr, 0⟩), .ptr (some ⟨a.we, 0⟩), .ptr (some ⟨a.ta, 0⟩)]
def gateTV (c : Cf) (a : Ad) (left : Int) : TV := .agg [c.tv, .ptr (some ⟨a.clk, 0⟩), .agg [.ptr (some ⟨a.bk, 0⟩), .ptr (some ⟨a.kd, 0⟩), .ptr (some ⟨a.wt, 0⟩), .ptr (some ⟨a.wh, 0⟩)], .int .i64 left]

/-- A gate at block g. -/
structure GateB (h : Heap) (g : Nat) (a : Ad) (c : Cf) (V : List Vd) (s : St) (Fp : Nat → Nat → Prop) : Prop where
  sep : Sep h Fp
  tree : TreeB h a.tr s.N c.no (Fp 0)
  wei : WeighB h a.we a.tr s.N (ownOf (stakes V) s.tb s.N) (Fp 1)
  tab : TabB h a.ta s.tb V.length (Fp 2)
  bk : Var T.votes_Book h a.bk (bookTV c a)
  f3 : Fp 3 = (· = a.bk)
  kids : PoolB T.orphans_Orphans h a.kd s.kids c.orp c.quo (Fp 4)
  wait : PoolB T.early_Early h a.wt s.wait c.ear c.quo (Fp 5)
  who : PeB h a.wh s.sc c.pe c.ban c.dec s.gone (Fp 6)
  clk : Clock.CI T.clock_Clock h a.clk s.now (Clock.clampW c.win)
  f7 : Fp 7 = (· = a.clk)
  var : Var T.gate_Gate h g (gateTV c a s.left)
  f8 : Fp 8 = (· = g)
  vals : Elems 2 h c.vals (vds V)
  off : ∀ k i, Fp k i → ¬ In c.vals i
  can : Can c V

section
variable {R : Value → Heap → Prop} {h h' : Heap} {g : Nat} {a : Ad} {c : Cf} {V : List Vd} {s : St} {Fp : Nat → Nat → Prop}

theorem TV.at_keep {S : Nat → Prop} {h h' : Heap} (e : Only S h h') {s : Sl} {sz : Nat} {ts : List TV} (he : Elems sz h s ts) (hs : ∀ i, In s i → ¬ S i) : Elems sz h' s ts :=
  ⟨he.len, he.nil, fun l hl i t ht => TV.at_only e (hs l.b ⟨l, hl, rfl⟩) (he.get l hl i t ht)⟩

theorem GateB.only {Q : Nat → Prop} (p : GateB h g a c V s Fp) (f : Only Q h h') (hs : ∀ k i, Fp k i → ¬ Q i) (hv : ∀ i, In c.vals i → ¬ Q i) : GateB h' g a c V s Fp :=
  ⟨⟨p.sep.dis, fun j i hi => by have := p.sep.lt j i hi; have := f.size; omega⟩, p.tree.only f (hs 0), p.wei.only f (hs 1), p.tab.only f (hs 2), p.bk.only f (hs 3 _ (by rw [p.f3])), p.f3, p.kids.only f (hs 4), p.wait.only f (hs 5), p.who.only f (hs 6),
    p.clk.only f (hs 7 _ (by rw [p.f7])), p.f7, p.var.only f (hs 8 _ (by rw [p.f8])), p.f8, TV.at_keep f p.vals hv, p.off, p.can⟩
theorem GateB.ext (p : GateB h g a c V s Fp) (x : Ext h h') : GateB h' g a c V s Fp := p.only (Q := fun _ => False) (.of_ext x) (fun _ _ _ hf => hf) fun _ _ hf => hf

theorem bnew_spec (e : Elems 2 h c.vals (vds V)) (k : Can c V)
    (hr : ∀ h' tr we ta bk m1 m2 S0 S1 S2, Var T.votes_Book h' bk (.agg [c.tv, .ptr (some ⟨tr, 0⟩), .ptr (some ⟨we, 0⟩), .ptr (some ⟨ta, 0⟩)]) → TreeB h' tr (newSt c V).N c.no S0 → WeighB h' we tr (newSt c V).N (fun _ => 0) S1 → TabB h' ta (newTb V.length c.ep) V.length S2 →
      Ext h h' → (∀ i, S0 i → h.size ≤ i ∧ i < m1) → (∀ i, S1 i → m1 ≤ i ∧ i < m2) → (∀ i, S2 i → m2 ≤ i ∧ i < bk) → h.size ≤ m1 → m1 ≤ m2 → m2 ≤ bk → bk < h'.size → R (TV.ptr (some ⟨bk, 0⟩)).val h') :
    CallsH Try.prog F.votes_New (TVs.vals [c.tv]) h R := by
  apply votes_New_calls c.vals c.ep c.com c.no c.orp c.ear c.quo c.pe c.by_ c.win c.ban c.dec
  unfold votes_New_vc
  have el : V.length = c.vals.len := by have := e.len; rwa [List.length_map] at this
  have kl := k.len
  have keys := can_keys k
  refine newTV_in fun h1 v1 x1 s1 => ?_
  refine ⟨c.vals, c.ep, c.com, c.no, c.orp, c.ear, c.quo, c.pe, c.by_, c.win, c.ban, c.dec, v1.at, ?_⟩
  refine ggood_spec (e.ext x1) (by omega) fun h2 x2 => ⟨_, rfl, ?_⟩
  rw [good_can.2 k]
  have v2 : Var 24 h2 h.size c.tv := v1.ext x2
  have x02 := x1.trans x2
  refine If.no ⟨c.vals, c.ep, c.com, c.no, c.orp, c.ear, c.quo, c.pe, c.by_, c.win, c.ban, c.dec, v2.at, c.no, v2.at1 rfl, ?_⟩
  refine groot_spec (e.ext x02) (by omega) (fun v hv => (keys v hv).2) fun h3 x3 => ⟨_, rfl, x3, ?_⟩
  have x03 := x02.trans x3
  have z1 := x1.size
  have z2 := x2.size
  have z3 := x3.size
  refine New_spec (fun hn => absurd ⟨k.no.1, k.no.2, by decide, by decide⟩ hn) fun _ h4 tr r A p4 x4 new4 => ⟨_, _, rfl, ?_⟩
  have v4 : Var 24 h4 h.size c.tv := v2.ext (x3.trans x4)
  refine ⟨c.vals, c.ep, c.com, c.no, c.orp, c.ear, c.quo, c.pe, c.by_, c.win, c.ban, c.dec, v4.at, c.vals, v4.at1 rfl, c.ep, v4.at1 rfl, ?_⟩
  refine WNew_spec p4 fun h5 w O S B G p5 x5 new5 => ⟨_, rfl, x5, ?_⟩
  rw [← el]
  refine TNew_spec (fun hn => absurd ⟨by omega, by omega, k.ep.1, k.ep.2⟩ hn) fun _ h6 ta r6 La Ou ps p6 x6 new6 => ⟨_, rfl, x6, ?_⟩
  refine newTV_in fun h7 v7 x7 s7 => ?_
  rw [show ((V.length : Int)).toNat = V.length by omega] at p6
  have z4 := x4.size
  have z5 := x5.size
  have z6 := x6.size
  refine hr h7 tr w ta h6.size h4.size h5.size (TrMine tr r A) (WMine w O S B G) (TbMine ta r6 La Ou ps) v7 ⟨r, A, p4.ext ((x5.trans x6).trans x7), rfl⟩ ⟨O, S, B, G, WP.ext p5 (x6.trans x7), rfl⟩ ⟨r6, La, Ou, ps, p6.ext x7, rfl⟩
    ((((x03.trans x4).trans x5).trans x6).trans x7) (fun i hi => ⟨by have := new4 i hi; omega, p4.lt hi⟩) (fun i hi => new5 i hi) (fun i hi => ⟨new6 i hi, p6.lt hi⟩) (by omega) z5 z6 (by omega)

end
end Go.Proofs.Ytldocdpdjdekiaa.Gate
end

section
/- A new gate. -/
namespace Go.Proofs.Ytldocdpdjdekiaa.Gate
open Go Go.Vc
open Board (Vd Cf vds)
open Pool (It WL Mine)
open Peers (Pe)

/-- A new book's parts. -/
structure NewB (lo : Nat) (h : Heap) (c : Cf) (V : List Vd) (a : Ad) (m1 m2 : Nat) (S0 S1 S2 : Nat → Prop) : Prop where
  var : Var T.votes_Book h a.bk (bookTV c a)
  tree : TreeB h a.tr (newSt c V).N c.no S0
  wei : WeighB h a.we a.tr (newSt c V).N (fun _ => 0) S1
  tab : TabB h a.ta (newTb V.length c.ep) V.length S2
  r0 : ∀ i, S0 i → lo ≤ i ∧ i < m1
  r1 : ∀ i, S1 i → m1 ≤ i ∧ i < m2
  r2 : ∀ i, S2 i → m2 ≤ i ∧ i < a.bk
  l0 : lo ≤ m1
  l1 : m1 ≤ m2
  l2 : m2 ≤ a.bk

section
variable {R : Value → Heap → Prop} {h h' : Heap} {g lo m1 m2 : Nat} {a : Ad} {c : Cf} {V : List Vd} {s : St} {S0 S1 S2 S4 S5 S6 : Nat → Prop}

theorem NewB.ext (p : NewB lo h c V a m1 m2 S0 S1 S2) (x : Ext h h') : NewB lo h' c V a m1 m2 S0 S1 S2 :=
  ⟨p.var.ext x, p.tree.only (.of_ext x) (fun _ _ hf => hf), p.wei.only (.of_ext x) (fun _ _ hf => hf), p.tab.only (.of_ext x) (fun _ _ hf => hf), p.r0, p.r1, p.r2, p.l0, p.l1, p.l2⟩
theorem PoolB.ext {T : TypeId} {o : Nat} {I : List It} {most quota : Int} {S : Nat → Prop} (p : PoolB T h o I most quota S) (x : Ext h h') : PoolB T h' o I most quota S := p.only (.of_ext x) fun _ _ hf => hf
theorem PeB.ext {b : Nat} {P : List (Int × Int)} {most ban decay gone : Int} {S : Nat → Prop} (p : PeB h b P most ban decay gone S) (x : Ext h h') : PeB h' b P most ban decay gone S := p.only (.of_ext x) fun _ _ hf => hf

theorem mine_nil {b i : Nat} (hi : Mine b Sl.nil i) : i = b := by
  rcases hi with h1 | h1
  · exact h1
  · exact (no_In h1).elim

/-- A new pool's own. -/
def Two (n : Nat) (S : Nat → Prop) : Prop := ∀ i, S i → n ≤ i ∧ i < n + 2

theorem onewB {n q : Int} (k : 1 ≤ n ∧ n ≤ 64) (kq : 1 ≤ q ∧ q ≤ 64) (hr : ∀ h' S, PoolB T.orphans_Orphans h' (h.size + 1) [] n q S → Two h.size S → Ext h h' → h'.size = h.size + 2 → R (TV.ptr (some ⟨h.size + 1, 0⟩)).val h') : CallsH Try.prog F.orphans_New (TVs.vals [.int .i64 n, .int .i64 q]) h R :=
  Pool.onew_spec (fun hn => absurd ⟨k.1, k.2, kq.1, kq.2⟩ hn) fun _ h' w x z => hr h' _ ⟨_, _, w, rfl⟩ (fun i hi => by
    rcases hi with h1 | h1
    · omega
    · have := mine_nil h1; omega) x z
theorem enewB {n q : Int} (k : 1 ≤ n ∧ n ≤ 64) (kq : 1 ≤ q ∧ q ≤ 64) (hr : ∀ h' S, PoolB T.early_Early h' (h.size + 1) [] n q S → Two h.size S → Ext h h' → h'.size = h.size + 2 → R (TV.ptr (some ⟨h.size + 1, 0⟩)).val h') : CallsH Try.prog F.early_New (TVs.vals [.int .i64 n, .int .i64 q]) h R :=
  Pool.enew_spec (fun hn => absurd ⟨k.1, k.2, kq.1, kq.2⟩ hn) fun _ h' w x z => hr h' _ ⟨_, _, w, rfl⟩ (fun i hi => by
    rcases hi with h1 | h1
    · omega
    · have := mine_nil h1; omega) x z
theorem pnewB {n b d : Int} (k : Peers.Valid n b d) (hr : ∀ h' S, PeB h' (h.size + 1) [] n b d 0 S → Two h.size S → Ext h h' → R (TV.ptr (some ⟨h.size + 1, 0⟩)).val h') : CallsH Try.prog F.peers_New (TVs.vals [.int .i64 n, .int .i64 b, .int .i64 d]) h R :=
  Peers.New_spec (fun _ h' x p => hr h' _ ⟨_, p, rfl⟩ (fun i hi => by omega) x) fun hn => absurd k hn

/-- The parts of a new gate, all of them. -/
structure NewP (lo : Nat) (h : Heap) (c : Cf) (V : List Vd) (a : Ad) (m1 m2 k4 k5 k6 : Nat) (S0 S1 S2 S4 S5 S6 : Nat → Prop) : Prop where
  b : NewB lo h c V a m1 m2 S0 S1 S2
  kids : PoolB T.orphans_Orphans h a.kd [] c.orp c.quo S4
  wait : PoolB T.early_Early h a.wt [] c.ear c.quo S5
  who : PeB h a.wh [] c.pe c.ban c.dec 0 S6
  r4 : Two k4 S4
  r5 : Two k5 S5
  r6 : Two k6 S6
  l4 : a.bk < k4
  l5 : k4 + 2 ≤ k5
  l6 : k5 + 2 ≤ k6

def partsOf (S0 S1 S2 S4 S5 S6 : Nat → Prop) (a : Ad) (g : Nat) : Nat → Nat → Prop
  | 0 => S0
  | 1 => S1
  | 2 => S2
  | 3 => (· = a.bk)
  | 4 => S4
  | 5 => S5
  | 6 => S6
  | 7 => (· = a.clk)
  | 8 => (· = g)
  | _ => fun _ => False

theorem NewP.gate {k4 k5 k6 : Nat} (p : NewP lo h c V a m1 m2 k4 k5 k6 S0 S1 S2 S4 S5 S6) (l7 : k6 + 2 ≤ a.clk) (l8 : a.clk < g)
    (clk : Clock.CI T.clock_Clock h a.clk 0 (Clock.clampW c.win)) (var : Var T.gate_Gate h g (gateTV c a 0)) (vals : Elems 2 h c.vals (vds V)) (off : ∀ i, In c.vals i → i < lo) (can : Can c V) :
    GateB h g a c V (newSt c V) (partsOf S0 S1 S2 S4 S5 S6 a g) := by
  have gl := var.lt
  have lo1 := p.b.l0
  have lo2 := p.b.l1
  have lo3 := p.b.l2
  have lo4 := p.l4
  have lo5 := p.l5
  have lo6 := p.l6
  refine ⟨?_, p.b.tree, ?_, p.b.tab, p.b.var, rfl, p.kids, p.wait, p.who, clk, rfl, var, rfl, vals, ?_, can⟩
  · refine Sep.made (lo := fun | 0 => lo | 1 => m1 | 2 => m2 | 3 => a.bk | 4 => k4 | 5 => k5 | 6 => k6 | 7 => a.clk | 8 => g | _ => g + 1) ?_ ?_ ?_
    · intro j i hi
      match j, hi with
      | 0, hi => exact p.b.r0 i hi
      | 1, hi => exact p.b.r1 i hi
      | 2, hi => exact p.b.r2 i hi
      | 3, hi => have hi : i = a.bk := hi; show a.bk ≤ i ∧ i < k4; omega
      | 4, hi => have := p.r4 i hi; show k4 ≤ i ∧ i < k5; omega
      | 5, hi => have := p.r5 i hi; show k5 ≤ i ∧ i < k6; omega
      | 6, hi => have := p.r6 i hi; show k6 ≤ i ∧ i < a.clk; omega
      | 7, hi => have hi : i = a.clk := hi; show a.clk ≤ i ∧ i < g; omega
      | 8, hi => have hi : i = g := hi; show g ≤ i ∧ i < g + 1; omega
      | _ + 9, hi => exact hi.elim
    · intro j
      match j with
      | 0 => exact lo1
      | 1 => exact lo2
      | 2 => exact lo3
      | 3 => show a.bk ≤ k4; omega
      | 4 => show k4 ≤ k5; omega
      | 5 => show k5 ≤ k6; omega
      | 6 => show k6 ≤ a.clk; omega
      | 7 => show a.clk ≤ g; omega
      | 8 => show g ≤ g + 1; omega
      | _ + 9 => exact Nat.le_refl _
    · intro j
      match j with
      | 0 => show lo ≤ _; omega
      | 1 => show m1 ≤ _; omega
      | 2 => show m2 ≤ _; omega
      | 3 => show a.bk ≤ _; omega
      | 4 => show k4 ≤ _; omega
      | 5 => show k5 ≤ _; omega
      | 6 => show k6 ≤ _; omega
      | 7 => show a.clk ≤ _; omega
      | 8 => show g ≤ _; omega
      | _ + 9 => show g + 1 ≤ _; omega
  · show WeighB h a.we a.tr (newSt c V).N (ownOf (stakes V) (newTb V.length c.ep) (newSt c V).N) S1
    rw [ownOf_new]
    exact p.b.wei
  · intro j i hi hv
    have := off i hv
    match j, hi with
    | 0, hi => have := p.b.r0 i hi; omega
    | 1, hi => have := p.b.r1 i hi; omega
    | 2, hi => have := p.b.r2 i hi; omega
    | 3, hi => have hi : i = a.bk := hi; omega
    | 4, hi => have := p.r4 i hi; omega
    | 5, hi => have := p.r5 i hi; omega
    | 6, hi => have := p.r6 i hi; omega
    | 7, hi => have hi : i = a.clk := hi; omega
    | 8, hi => have hi : i = g := hi; omega
    | _ + 9, hi => exact hi.elim

end
end Go.Proofs.Ytldocdpdjdekiaa.Gate
end
