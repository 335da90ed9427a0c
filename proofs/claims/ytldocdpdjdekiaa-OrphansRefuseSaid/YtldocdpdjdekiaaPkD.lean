/- Texts that the proof needs, joined: VcU, WireA, VsWireS, WireS, VsWireT, WireT, VsWireU, WireU, VsWireV, WireV, VsWaitA, WaitA, VsWaitB, WaitB, VsWaitC, WaitC, WaitD, VsLawE, LawE, VcW. -/
import Derived.Test.YtldocdpdjdekiaaPkC

section
/- Fields of elements that are written. -/
namespace Go.Vc
open Go

theorem list_cut {α : Type} (P C Q rest U : List α) (d n : Nat) (hd : d + n ≤ C.length) :
    (P ++ (C ++ Q) ++ rest).take (P.length + d) ++ U ++ (P ++ (C ++ Q) ++ rest).drop (P.length + d + n) = P ++ (C.take d ++ U ++ C.drop (d + n)) ++ Q ++ rest := by
  rw [Nat.add_assoc P.length d n, List.append_assoc P, List.take_length_add_append, List.drop_length_add_append, List.append_assoc C, List.take_append_of_le_length (by omega), List.drop_append_of_le_length (by omega)]
  simp only [List.append_assoc]

/-- A field of an element is written. -/
theorem Own.field_in {T : TypeId} {sz n d : Nat} {h : Heap} {s : Sl} {ts : List TV} {K : Heap → Prop} {u t t0 : TV} {i : Int} (o : Own T sz h s ts) (i0 : 0 ≤ i) (hg : ts[i.toNat]? = some t0) (hu : u.size = n)
    (hdn : d + n ≤ sz) (hc : t0.cells.take d ++ u.cells ++ t0.cells.drop (d + n) = t.cells)
    (hk : ∀ h1, Own T sz h1 s (ts.set i.toNat t) → Only (In s) h h1 → h1.size = h.size → K h1) :
    0 ≤ i ∧ i < (s.len : Int) ∧ Nn s.a fun l => wok h l.b (l.o + i.toNat * sz + d) n ∧ Bind (u.put h l.b (l.o + i.toNat * sz + d)) K := by
  have hi : i.toNat < ts.length := (List.getElem?_eq_some_iff.1 hg).1
  have hle := o.len
  have hlen := TVs.cells_uniform ts o.size
  have ht0 : t0.size = sz := o.size _ (List.mem_of_getElem? hg)
  have ht : t.size = sz := by
    rw [← TV.cells_length, ← hc, List.length_append, List.length_append, List.length_take, List.length_drop, TV.cells_length, TV.cells_length, ht0, hu]
    omega
  refine ⟨i0, by omega, ?_⟩
  rcases o.row with rfl | ⟨b, rest, ha, hb, hr⟩
  · simp only [Sl.nil] at hle
    omega
  · have hmul : i.toNat * sz + sz ≤ ts.length * sz := by
      have := Nat.mul_le_mul_right sz (show i.toNat + 1 ≤ ts.length by omega)
      rwa [Nat.succ_mul] at this
    have hl : i.toNat * sz + d + u.size ≤ (TVs.cells ts ++ rest).length := by rw [List.length_append, hlen, hu]; omega
    rw [ha]
    show wok h b (0 + i.toNat * sz + d) n ∧ Bind (u.put h b (0 + i.toNat * sz + d)) K
    rw [Nat.zero_add]
    refine ⟨wok_row hb (by rw [← hu]; exact hl), hk _ ?_ ((put_only hb hl).mono fun j hj => ⟨⟨b, 0⟩, ha, hj.symm⟩) (put_size hb hl)⟩
    have hp := put_row (t := u) hb hl
    refine ⟨fun v hv => ?_, by rw [List.length_set]; exact o.len, o.cap, .inr ⟨b, rest, ha, ?_, hr⟩⟩
    · rcases List.mem_or_eq_of_mem_set hv with h1 | rfl
      · exact o.size v h1
      · exact ht
    · have hA := cells_elem ts i.toNat t0 o.size ht0 hi
      have hself : ts.set i.toNat t0 = ts := by
        obtain ⟨h1, h2⟩ := List.getElem?_eq_some_iff.1 hg
        rw [← h2, List.set_getElem_self]
      rw [hself] at hA
      rw [hp, ← cells_elem ts i.toNat t o.size ht hi, ht, ← hc, ← hu]
      rw [ht0] at hA
      obtain ⟨P, hP⟩ : ∃ P, P = (TVs.cells ts).take (i.toNat * sz) := ⟨_, rfl⟩
      obtain ⟨Q, hQ⟩ : ∃ Q, Q = (TVs.cells ts).drop (i.toNat * sz + sz) := ⟨_, rfl⟩
      rw [← hP, ← hQ] at hA ⊢
      have hPl : P.length = i.toNat * sz := by rw [hP, List.length_take, hlen]; omega
      have := list_cut P t0.cells Q rest u.cells d u.size (by rw [TV.cells_length, ht0, hu]; exact hdn)
      rw [hPl] at this
      rw [← hA, List.append_assoc P, this]

theorem wf_u8 {n : Int} (h : (Lit.int .u8 n).wf = true) : 0 ≤ n ∧ n < 256 := by
  simp only [Lit.wf, Bool.and_eq_true, decide_eq_true_eq] at h
  have h0 : IntKind.u8.min ≤ n := h.1
  have h1 : n ≤ IntKind.u8.max := h.2
  have e0 : IntKind.u8.min = 0 := rfl
  have e1 : IntKind.u8.max = 255 := rfl
  omega

theorem wf_u64 {n : Int} (h : (Lit.int .u64 n).wf = true) : 0 ≤ n ∧ n < 18446744073709551616 := by
  simp only [Lit.wf, Bool.and_eq_true, decide_eq_true_eq] at h
  have h0 : IntKind.u64.min ≤ n := h.1
  have h1 : n ≤ IntKind.u64.max := h.2
  have e0 : IntKind.u64.min = 0 := rfl
  have e1 : IntKind.u64.max = 18446744073709551615 := rfl
  omega

/-- Bytes, as many as there are, the others 0. -/
def bsOf (n : Nat) (l : List UInt8) : Bs n := ⟨(l ++ List.replicate n 0).take n, by simp⟩

/-- Bytes are copied into a field of bytes that are 0. -/
theorem bytes_copy {T : TypeId} {h : Heap} {b i o n : Nat} {ts : List TV} {s : List UInt8} {K : Heap → Prop} (v : Var T h b (.agg ts)) (hi : ts[i]? = some (.bytes n (Bs.zero n))) (ho : TVs.size (ts.take i) = o) (hs : s.length ≤ n)
    (hk : ∀ h1, Var T h1 b (.agg (ts.set i (.bytes n (bsOf n s)))) → Only (· = b) h h1 → h1.size = h.size → K h1) :
    wok h b o (Nat.min s.length n) ∧ Bind (putl h b o ((s.take (Nat.min s.length n)).map fun (c : UInt8) => Value.int .u8 (c.toNat : Int))) K := by
  have hmin : Nat.min s.length n = s.length := Nat.min_eq_left hs
  rw [hmin, List.take_length]
  have hle := TVs.size_take_le ts i _ hi
  have hsz : (TV.bytes n (Bs.zero n)).size = n := by simp only [TV.size]
  rw [hsz] at hle
  have hl : o + (s.map fun (c : UInt8) => Value.int .u8 (c.toNat : Int)).length ≤ (TV.agg ts).cells.length := by rw [TV.cells_length, List.length_map]; simp only [TV.size]; omega
  have hg := putl_get (s.map fun (c : UInt8) => Value.int .u8 (c.toNat : Int)) h b o _ T v hl
  refine ⟨wok_row v (by rw [List.length_map] at hl; exact hl), hk _ ?_ ⟨by rw [hg.2.1]; exact Nat.le_refl _, fun b' _ hn => hg.2.2 b' hn⟩ hg.2.1⟩
  unfold Var
  rw [hg.1]
  congr 2
  have hc : (TV.agg ts).cells = TVs.cells ts := by simp only [TV.cells]
  have hc2 : (TV.agg (ts.set i (.bytes n (bsOf n s)))).cells = TVs.cells (ts.set i (.bytes n (bsOf n s))) := by simp only [TV.cells]
  rw [hc, hc2]
  have h0 := cells_field ts i o (.bytes n (Bs.zero n)) (.bytes n (Bs.zero n)) hi rfl ho
  have hself : ts.set i (.bytes n (Bs.zero n)) = ts := by
    obtain ⟨h1, h2⟩ := List.getElem?_eq_some_iff.1 hi
    rw [← h2, List.set_getElem_self]
  rw [hself] at h0
  have h1 := cells_field ts i o (.bytes n (bsOf n s)) (.bytes n (Bs.zero n)) hi (by simp only [TV.size]) ho
  rw [← h1]
  obtain ⟨P, hP⟩ : ∃ P, P = (TVs.cells ts).take o := ⟨_, rfl⟩
  have hsz2 : (TV.bytes n (bsOf n s)).size = n := by simp only [TV.size]
  rw [hsz] at h0
  rw [hsz2]
  obtain ⟨Q, hQ⟩ : ∃ Q, Q = (TVs.cells ts).drop (o + n) := ⟨_, rfl⟩
  rw [← hP, ← hQ] at h0 ⊢
  have hPl : P.length = o := by
    rw [hP, List.length_take, ← hc, TV.cells_length]
    simp only [TV.size]
    omega
  have hz : (TV.bytes n (Bs.zero n)).cells = List.replicate n (.int .u8 0) := by simp [TV.cells, Bs.zero]
  rw [hz] at h0
  have hcut := list_cut P (List.replicate n (.int .u8 0)) Q [] (s.map fun (c : UInt8) => Value.int .u8 (c.toNat : Int)) 0 s.length (by rw [List.length_replicate]; omega)
  rw [hPl, List.append_nil, List.append_nil, Nat.add_zero, ← List.append_assoc P, h0] at hcut
  rw [← hP] at hcut
  rw [List.length_map, hcut]
  congr 2
  have ht : (TV.bytes n (bsOf n s)).cells = (bsOf n s).l.map fun c => Value.int .u8 (c.toNat : Int) := by simp only [TV.cells]
  rw [ht]
  unfold bsOf
  simp only
  rw [List.take_append, List.take_of_length_le hs, List.map_append]
  simp [List.take_replicate, List.drop_replicate]

/-- A byte of a field of bytes is written. -/
theorem byte_field {T : TypeId} {h : Heap} {b i o p n k : Nat} {ts : List TV} {x : Bs n} {c : Int} {K : Heap → Prop} (v : Var T h b (.agg ts)) (hi : ts[i]? = some (.bytes n x)) (ho : TVs.size (ts.take i) = o) (hkn : k < n) (hp : p = o + k) (h0 : 0 ≤ c) (h1 : c < 256)
    (hk : ∀ h1, Var T h1 b (.agg (ts.set i (.bytes n (x.set k (UInt8.ofNat c.toNat))))) → Only (· = b) h h1 → h1.size = h.size → K h1) :
    wok h b p 1 ∧ Bind ((TV.int .u8 c).put h b p) K := by
  subst hp
  have hle := TVs.size_take_le ts i _ hi
  have hsz : ∀ y : Bs n, (TV.bytes n y).size = n := fun y => by simp only [TV.size]
  rw [hsz] at hle
  have hc : ∀ us : List TV, (TV.agg us).cells = TVs.cells us := fun us => by simp only [TV.cells]
  have hl : o + k + (TV.int .u8 c).size ≤ (TV.agg ts).cells.length := by rw [TV.cells_length]; simp only [TV.size]; omega
  refine ⟨wok_row v hl, hk _ ?_ (put_only v hl) (put_size v hl)⟩
  have hpr := put_row (t := .int .u8 c) v hl
  unfold Var
  rw [hpr, hc, hc]
  congr 2
  have hb : ∀ y : Bs n, (TV.bytes n y).cells = y.l.map fun c => Value.int .u8 (c.toNat : Int) := fun y => by simp only [TV.cells]
  have h1' := cells_field ts i o (.bytes n (x.set k (UInt8.ofNat c.toNat))) (.bytes n x) hi (by rw [hsz, hsz]) ho
  have h0' := cells_field ts i o (.bytes n x) (.bytes n x) hi rfl ho
  have hself : ts.set i (.bytes n x) = ts := by
    obtain ⟨g1, g2⟩ := List.getElem?_eq_some_iff.1 hi
    rw [← g2, List.set_getElem_self]
  rw [hself, hsz, hb] at h0'
  rw [← h1', hsz, hb]
  obtain ⟨P, hP⟩ : ∃ P, P = (TVs.cells ts).take o := ⟨_, rfl⟩
  obtain ⟨Q, hQ⟩ : ∃ Q, Q = (TVs.cells ts).drop (o + n) := ⟨_, rfl⟩
  rw [← hP, ← hQ] at h0' ⊢
  have hPl : P.length = o := by
    rw [hP, List.length_take, ← hc, TV.cells_length]
    simp only [TV.size]
    omega
  have hcut := list_cut P (x.l.map fun c => Value.int .u8 (c.toNat : Int)) Q [] [.int .u8 c] k 1 (by rw [List.length_map, x.h]; omega)
  rw [hPl, List.append_nil, List.append_nil, ← List.append_assoc P, h0'] at hcut
  have hcell : (TV.int IntKind.u8 c).cells = [.int .u8 c] := rfl
  rw [hcell]
  show List.take (o + k) _ ++ _ ++ List.drop (o + k + 1) _ = _
  rw [hcut]
  congr 2
  simp only [Bs.set, List.map_set]
  have e : ((UInt8.ofNat c.toNat).toNat : Int) = c := by
    rw [UInt8.toNat_ofNat']
    omega
  rw [e, List.set_eq_take_append_cons_drop, if_pos (by rw [List.length_map, x.h]; exact hkn)]
  simp

theorem bsOf_snoc {n i : Nat} {l : List UInt8} {c : UInt8} (hc : l[i]? = some c) (hi : i < n) : (bsOf n (l.take i)).set i c = bsOf n (l.take (i + 1)) := by
  apply Bs.ext'
  have hil := (List.getElem?_eq_some_iff.1 hc).1
  show (List.take n (l.take i ++ List.replicate n 0)).set i c = List.take n (l.take (i + 1) ++ List.replicate n 0)
  rw [List.take_add_one, hc]
  apply List.ext_getElem?
  intro j
  rw [List.getElem?_set, List.length_take, List.length_append, List.length_take, List.length_replicate, List.getElem?_take, List.getElem?_take]
  by_cases hij : i = j
  · subst hij
    rw [if_pos rfl, if_pos (by omega), if_pos hi, List.append_assoc, List.getElem?_append_right (by rw [List.length_take]; omega), List.length_take, Nat.min_eq_left (by omega), Nat.sub_self]
    rfl
  · rw [if_neg hij]
    by_cases hjn : j < n
    · rw [if_pos hjn, if_pos hjn]
      by_cases hji : j < i
      · rw [List.getElem?_append_left (by rw [List.length_take]; omega), List.append_assoc, List.getElem?_append_left (by rw [List.length_take]; omega)]
      · rw [List.getElem?_append_right (by rw [List.length_take]; omega), List.length_take, Nat.min_eq_left (by omega), List.getElem?_append_right (by rw [List.length_append, List.length_take]; simp; omega), List.length_append, List.length_take, Nat.min_eq_left (by omega)]
        simp only [Option.toList, List.length_singleton, List.getElem?_replicate]
        rw [if_pos (by omega), if_pos (by omega)]
    · rw [if_neg hjn, if_neg hjn]

theorem cut_prefix {sz : Nat} {h : Heap} {s : Sl} {ts : List TV} (e : Elems sz h s ts) {n : Nat} (hn : n ≤ ts.length) : Elems sz h (cutSl s 0 n sz) (ts.take n) := by
  have ha : (cutSl s 0 n sz).a = s.a := by
    unfold cutSl
    cases s.a with
    | none => simp
    | some l => simp
  refine ⟨by rw [List.length_take]; show _ = n - 0; omega, fun hx => ?_, fun l hl i t ht => ?_⟩
  · rw [ha] at hx
    rw [e.nil hx]
    simp
  · rw [ha] at hl
    rw [List.getElem?_take] at ht
    split at ht
    · exact e.get l hl i t ht
    · cases ht

end Go.Vc
end

section
/- Bytes as numbers, as rows of bits, as messages: plain lists, no program in sight. -/
namespace Go.Proofs.Ytldocdpdjdekiaa.Board
open Go Go.Vc

/-! ### Numbers -/

def num : List UInt8 → Nat
  | [] => 0
  | c :: s => c.toNat + 256 * num s

theorem num_lt : ∀ s : List UInt8, num s < 256 ^ s.length
  | [] => by decide
  | c :: s => by
    have h := num_lt s
    have hc := c.toNat_lt
    rw [num, List.length_cons, Nat.pow_succ]
    omega

theorem num_snoc : ∀ (s : List UInt8) (c : UInt8), num (s ++ [c]) = num s + 256 ^ s.length * c.toNat
  | [], c => by simp [num]
  | a :: s, c => by
    rw [List.cons_append, num, num_snoc s c, num, List.length_cons, Nat.pow_succ, Nat.mul_add, ← Nat.mul_assoc, Nat.mul_comm 256 (256 ^ s.length)]
    omega

theorem num_lt8 {s : List UInt8} (h : s.length ≤ 8) : num s < 18446744073709551616 := by
  have h1 := num_lt s
  have h2 : 256 ^ s.length ≤ 256 ^ 8 := Nat.pow_le_pow_right (by decide) h
  have h3 : 256 ^ 8 = 18446744073709551616 := by decide
  omega

/-! ### Bits -/

def bitAt (c : UInt8) (k : Nat) : Bool := decide (c.toNat / 2 ^ k % 2 = 1)
def bits8 (c : UInt8) : List Bool := (List.range 8).map (bitAt c)
def bitsOf (s : List UInt8) : List Bool := s.flatMap bits8

theorem bits8_length (c : UInt8) : (bits8 c).length = 8 := by simp [bits8]
theorem bitsOf_length : ∀ s : List UInt8, (bitsOf s).length = 8 * s.length
  | [] => rfl
  | c :: s => by
    show (bits8 c ++ bitsOf s).length = _
    rw [List.length_append, bits8_length, bitsOf_length s, List.length_cons]
    omega

theorem bitsOf_get : ∀ (s : List UInt8) (i : Nat), i < 8 * s.length → (bitsOf s)[i]? = some (bitAt (s.getD (i / 8) 0) (i % 8))
  | [], i, h => by simp at h
  | c :: s, i, h => by
    show (bits8 c ++ bitsOf s)[i]? = _
    by_cases h8 : i < 8
    · rw [List.getElem?_append_left (by rw [bits8_length]; exact h8)]
      have e1 : i / 8 = 0 := by omega
      have e2 : i % 8 = i := by omega
      rw [e1, e2]
      simp [bits8, h8]
    · rw [List.getElem?_append_right (by rw [bits8_length]; omega), bits8_length, bitsOf_get s (i - 8) (by rw [List.length_cons] at h; omega)]
      have e1 : i / 8 = (i - 8) / 8 + 1 := by omega
      have e2 : (i - 8) % 8 = i % 8 := by omega
      rw [e1, e2]
      rfl

theorem bitsOf_snoc (s : List UInt8) (c : UInt8) : bitsOf (s ++ [c]) = bitsOf s ++ bits8 c := by
  unfold bitsOf
  rw [List.flatMap_append]
  simp

/-- The place of the highest bit. -/
def topBit (c : UInt8) : Nat := c.toNat.log2

theorem top_facts : ∀ n : Fin 256, n.val ≠ 0 → n.val.log2 < 8 ∧ n.val / 2 ^ n.val.log2 % 2 = 1 ∧ ∀ k : Fin 8, n.val.log2 < k.val → n.val / 2 ^ k.val % 2 = 0 := by decide +kernel

theorem topBit_lt {c : UInt8} (h : c ≠ 0) : topBit c < 8 := by
  have hn : c.toNat ≠ 0 := fun e => h (UInt8.toNat_inj.1 e)
  exact (top_facts ⟨c.toNat, c.toNat_lt⟩ hn).1

theorem topBit_yes {c : UInt8} (h : c ≠ 0) : bitAt c (topBit c) = true := by
  have hn : c.toNat ≠ 0 := fun e => h (UInt8.toNat_inj.1 e)
  exact decide_eq_true (top_facts ⟨c.toNat, c.toNat_lt⟩ hn).2.1

theorem topBit_no {c : UInt8} (h : c ≠ 0) {k : Nat} (hk : topBit c < k) (h8 : k < 8) : bitAt c k = false := by
  have hn : c.toNat ≠ 0 := fun e => h (UInt8.toNat_inj.1 e)
  refine decide_eq_false fun e => ?_
  have := (top_facts ⟨c.toNat, c.toNat_lt⟩ hn).2.2 ⟨k, h8⟩ hk
  rw [this] at e
  cases e

theorem bit_zero (k : Nat) : bitAt 0 k = false := by
  refine decide_eq_false fun e => ?_
  have : (0 : UInt8).toNat = 0 := rfl
  rw [this, Nat.zero_div] at e
  cases e

/-- How many places a row of bytes has; without the last bit, that says where it ends. -/
def rowLen (s : List UInt8) : Nat := 8 * (s.length - 1) + topBit (s.getLastD 0)

/-- The row of bytes; none: there is none up to most. -/
def getF (s : List UInt8) (most : Nat) : Option (List Bool) :=
  if s = [] ∨ s.getLastD 0 = 0 then none else if most < rowLen s then none else some ((bitsOf s).take (rowLen s))

/-! ### Messages -/

structure Dm where
  kind : Int
  slot : Int
  target : Bs 32
  member : Int
  body : Int
  row : List Bool
  tag : Bs 16

def Dm.ms (d : Dm) (b : Sl) : Ms := ⟨d.kind, d.slot, d.target, d.member, d.body, b, d.tag⟩
def Dm.zero : Dm := ⟨0, 0, Bs.zero 32, 0, 0, [], Bs.zero 16⟩


def chk (d : Dm) : Option Dm := if goodF (d.ms Sl.nil) d.row = true then some d else none

/-- The message of bytes. -/
def decF (s : List UInt8) : Option Dm :=
  if s.length < 53 then none
  else if s.getD 0 0 = 1 then
    if s.length = 63 then chk ⟨1, (num ((s.drop 1).take 4) : Nat), bsOf 32 ((s.drop 5).take 32), (num ((s.drop 37).take 2) : Nat), (num ((s.drop 39).take 8) : Nat), [], bsOf 16 (s.drop 47)⟩ else none
  else if s.getD 0 0 = 2 then
    if s.length = 55 then chk ⟨2, (num ((s.drop 1).take 4) : Nat), bsOf 32 ((s.drop 5).take 32), (num ((s.drop 37).take 2) : Nat), 0, [], bsOf 16 (s.drop 39)⟩ else none
  else if s.getD 0 0 = 3 then
    match getF ((s.drop 37).take (s.length - 53)) 16 with
    | none => none
    | some row => chk ⟨3, (num ((s.drop 1).take 4) : Nat), bsOf 32 ((s.drop 5).take 32), 0, 0, row, bsOf 16 (s.drop (s.length - 16))⟩
  else none

theorem chk_some {d e : Dm} (h : chk d = some e) : e = d ∧ goodF (d.ms Sl.nil) d.row = true := by
  unfold chk at h
  split at h
  · rename_i hg; exact ⟨(Option.some.inj h).symm, hg⟩
  · cases h

theorem good_ms {d : Dm} (b : Sl) : goodF (d.ms b) d.row = goodF (d.ms Sl.nil) d.row := rfl

theorem dec_good {s : List UInt8} {d : Dm} (h : decF s = some d) : goodF (d.ms Sl.nil) d.row = true := by
  unfold decF at h
  split at h
  · cases h
  split at h
  · split at h
    · obtain ⟨rfl, hg⟩ := chk_some h; exact hg
    · cases h
  split at h
  · split at h
    · obtain ⟨rfl, hg⟩ := chk_some h; exact hg
    · cases h
  split at h
  · split at h
    · cases h
    · obtain ⟨rfl, hg⟩ := chk_some h; exact hg
  · cases h

end Go.Proofs.Ytldocdpdjdekiaa.Board
end

section
/- The conditions of functions, as the generator reckons them out, each with the proof that it is that. -/
namespace Go.Proofs.Ytldocdpdjdekiaa
open Go Go.Vc
set_option maxRecDepth 100000
set_option linter.unusedVariables false

def le_From_vc (s_ : List UInt8) (h : Heap) (R : Value → Heap → Prop) : Prop :=
 Vc.Bind (newTV h (TV.agg [TV.str s_, TV.bool false]) (194 : Nat)) fun (h_1 : Array Obj) ↦ R (TV.val (TV.ptr (some (Loc.mk (Array.size h) (0 : Nat))))) h_1

theorem le_From_calls (s_ : List UInt8) (h : Heap) (R : Value → Heap → Prop) (H : le_From_vc s_ h R) : CallsH Try.prog 79 (TVs.vals [TV.str s_]) h R :=
 vcFn_sound (C := ctx) ctx_ok (fn := Try.f79) Try.func79 ((by kernel_rfl : le_From_vc s_ h R = vcFn ctx Try.f79 [TV.str s_] h R) ▸ H)


def le_Reader_Uint_vc (r : Option Go.Vc.Loc) (width : Int) (h : Heap) (R : Value → Heap → Prop) : Prop :=
 Join
 (fun (s : Int) (h : Array Obj) ↦
 CallsH Try.prog (81 : Nat) (TVs.vals [TV.ptr r, TV.int IntKind.i64 s]) h fun (v : Value) (h : Array Obj) ↦
 ∃ (s_1 : List UInt8),
 v = TV.val (TV.str s_1) ∧
 Go.Vc.Loop ((0 : Int), IntKind.wrap IntKind.i64 ((↑(List.length s_1) : Int) - (1 : Int))) h
 fun (s_2 : Int × Int) (h : Array Obj) (K : Int × Int → Array Obj → Prop) ↦
 If (decide ((0 : Int) ≤ s_2.snd))
 ((0 : Int) ≤ (8 : Int) ∧
 (0 : Int) ≤ s_2.snd ∧
 s_2.snd < (↑(List.length s_1) : Int) ∧
 K
 (IntKind.wrap IntKind.u64
 (↑(BitVec.toNat
 (BitVec.ofInt (IntKind.bits IntKind.u64)
 (IntKind.wrap IntKind.u64 (s_2.fst * (2 : Int) ^ min (Int.toNat (8 : Int)) (IntKind.bits IntKind.u64))) |||
 BitVec.ofInt (IntKind.bits IntKind.u64)
 (IntKind.wrap IntKind.u64 (↑(UInt8.toNat (List.getD s_1 (Int.toNat s_2.snd) (0 : UInt8))) : Int)))) :
 Int),
 IntKind.wrap IntKind.i64 (s_2.snd - (1 : Int)))
 h)
 (R (TV.val (TV.int IntKind.u64 s_2.fst)) h))
 fun (J : Int → Array Obj → Prop) ↦ If (decide ((8 : Int) < width)) (J (-1 : Int) h) (J width h)

theorem le_Reader_Uint_calls (r : Option Go.Vc.Loc) (width : Int) (h : Heap) (R : Value → Heap → Prop) (H : le_Reader_Uint_vc r width h R) : CallsH Try.prog 80 (TVs.vals [TV.ptr r, TV.int IntKind.i64 width]) h R :=
 vcFn_sound (C := ctx) ctx_ok (fn := Try.f80) Try.func80 ((by kernel_rfl : le_Reader_Uint_vc r width h R = vcFn ctx Try.f80 [TV.ptr r, TV.int IntKind.i64 width] h R) ▸ H)


def le_Reader_Bytes_vc (r : Option Go.Vc.Loc) (n : Int) (h : Heap) (R : Value → Heap → Prop) : Prop :=
 Join
 (fun (s : List UInt8) (h : Array Obj) ↦
 Nn r fun (l : Go.Vc.Loc) ↦
 ∃ (s : List UInt8),
 at1 h l.b l.o (Value.string (ByteArray.mk (List.toArray s))) ∧
 (0 : Int) ≤ n ∧
 n ≤ (↑(List.length s) : Int) ∧
 Nn r fun (l : Go.Vc.Loc) ↦
 ∃ (s_1 : List UInt8),
 at1 h l.b l.o (Value.string (ByteArray.mk (List.toArray s_1))) ∧
 (0 : Int) ≤ n ∧
 n ≤ (↑(List.length s_1) : Int) ∧
 Nn r fun (l : Go.Vc.Loc) ↦
 wok h l.b l.o (1 : Nat) ∧
 Vc.Bind (TV.put h l.b l.o (TV.str (List.take (List.length s_1 - Int.toNat n) (List.drop (Int.toNat n) s_1)))) fun (h : Array Obj) ↦
 R (TV.val (TV.str (List.take (Int.toNat n - (0 : Nat)) (List.drop (0 : Nat) s)))) h)
 fun (J : List UInt8 → Array Obj → Prop) ↦
 Join
 (fun (s : Bool) (h : Array Obj) ↦
 If s
 (If (!Option.isNone r)
 (Nn r fun (l : Go.Vc.Loc) ↦
 wok h l.b (l.o + (1 : Nat)) (1 : Nat) ∧
 Vc.Bind (TV.put h l.b (l.o + (1 : Nat)) (TV.bool true)) fun (h : Array Obj) ↦
 Nn r fun (l : Go.Vc.Loc) ↦
 wok h l.b l.o (1 : Nat) ∧
 Vc.Bind (TV.put h l.b l.o (TV.str (ByteArray.mk #[]).data.toList)) fun (h : Array Obj) ↦
 R (TV.val (TV.str (ByteArray.mk #[]).data.toList)) h)
 (R (TV.val (TV.str (ByteArray.mk #[]).data.toList)) h))
 (J (ByteArray.mk #[]).data.toList h))
 fun (J : Bool → Array Obj → Prop) ↦
 If (Option.isNone r) (J true h)
 (Nn r fun (l : Go.Vc.Loc) ↦
 ∃ (b : Bool),
 at1 h l.b (l.o + (1 : Nat)) (Value.bool b) ∧
 If b (J true h)
 (If (decide (n < (0 : Int))) (J true h)
 (Nn r fun (l : Go.Vc.Loc) ↦
 ∃ (s : List UInt8), at1 h l.b l.o (Value.string (ByteArray.mk (List.toArray s))) ∧ J (decide ((↑(List.length s) : Int) < n)) h)))

theorem le_Reader_Bytes_calls (r : Option Go.Vc.Loc) (n : Int) (h : Heap) (R : Value → Heap → Prop) (H : le_Reader_Bytes_vc r n h R) : CallsH Try.prog 81 (TVs.vals [TV.ptr r, TV.int IntKind.i64 n]) h R :=
 vcFn_sound (C := ctx) ctx_ok (fn := Try.f81) Try.func81 ((by kernel_rfl : le_Reader_Bytes_vc r n h R = vcFn ctx Try.f81 [TV.ptr r, TV.int IntKind.i64 n] h R) ▸ H)


def bitlist_Get_vc (s_ : List UInt8) (most : Int) (h : Heap) (R : Value → Heap → Prop) : Prop :=
 Join
 (fun (s : Sl × Bool) (h : Array Obj) ↦
 (0 : Int) ≤ IntKind.wrap IntKind.i64 ((↑(List.length s_) : Int) - (1 : Int)) ∧
 IntKind.wrap IntKind.i64 ((↑(List.length s_) : Int) - (1 : Int)) < (↑(List.length s_) : Int) ∧
 CallsH Try.prog (113 : Nat)
 (TVs.vals
 [TV.int IntKind.u8
 (↑(UInt8.toNat (List.getD s_ (Int.toNat (IntKind.wrap IntKind.i64 ((↑(List.length s_) : Int) - (1 : Int)))) (0 : UInt8))) : Int)])
 h fun (v : Value) (h : Array Obj) ↦
 ∃ (n : Int),
 v = TV.val (TV.int IntKind.i64 n) ∧
 If
 (decide
 (most <
 IntKind.wrap IntKind.i64
 (IntKind.wrap IntKind.i64 (IntKind.wrap IntKind.i64 ((8 : Int) * IntKind.wrap IntKind.i64 ((↑(List.length s_) : Int) - (1 : Int))) + n) -
 (1 : Int))))
 (R (TV.val (TV.tup [TV.slice Sl.nil, TV.bool false])) h)
 ((0 : Int) ≤
 IntKind.wrap IntKind.i64
 (IntKind.wrap IntKind.i64 (IntKind.wrap IntKind.i64 ((8 : Int) * IntKind.wrap IntKind.i64 ((↑(List.length s_) : Int) - (1 : Int))) + n) -
 (1 : Int)) ∧
 IntKind.wrap IntKind.i64
 (IntKind.wrap IntKind.i64
 (IntKind.wrap IntKind.i64 ((8 : Int) * IntKind.wrap IntKind.i64 ((↑(List.length s_) : Int) - (1 : Int))) + n) -
 (1 : Int)) ≤
 IntKind.wrap IntKind.i64
 (IntKind.wrap IntKind.i64
 (IntKind.wrap IntKind.i64 ((8 : Int) * IntKind.wrap IntKind.i64 ((↑(List.length s_) : Int) - (1 : Int))) + n) -
 (1 : Int)) ∧
 (↑(1 : Nat) : Int) *
 IntKind.wrap IntKind.i64
 (IntKind.wrap IntKind.i64
 (IntKind.wrap IntKind.i64 ((8 : Int) * IntKind.wrap IntKind.i64 ((↑(List.length s_) : Int) - (1 : Int))) + n) -
 (1 : Int)) ≤
 (281474976710656 : Int) ∧
 IntKind.wrap IntKind.i64
 (IntKind.wrap IntKind.i64
 (IntKind.wrap IntKind.i64 ((8 : Int) * IntKind.wrap IntKind.i64 ((↑(List.length s_) : Int) - (1 : Int))) + n) -
 (1 : Int)) <
 (9223372036854775808 : Int) ∧
 Go.Vc.Loop (0 : Int)
 (Array.push h
 (row
 (zeros (TV.bool false)
 (Int.toNat
 (IntKind.wrap IntKind.i64
 (IntKind.wrap IntKind.i64
 (IntKind.wrap IntKind.i64 ((8 : Int) * IntKind.wrap IntKind.i64 ((↑(List.length s_) : Int) - (1 : Int))) + n) -
 (1 : Int)))))
 (4 : Nat)))
 fun (s : Int) (h_1 : Array Obj) (K : Int → Array Obj → Prop) ↦
 If
 (decide
 (s <
 (↑(Int.toNat
 (IntKind.wrap IntKind.i64
 (IntKind.wrap IntKind.i64
 (IntKind.wrap IntKind.i64 ((8 : Int) * IntKind.wrap IntKind.i64 ((↑(List.length s_) : Int) - (1 : Int))) + n) -
 (1 : Int)))) :
 Int)))
 ((8 : Int) ≠ (0 : Int) ∧
 (0 : Int) ≤ IntKind.wrap IntKind.i64 (Int.tdiv s (8 : Int)) ∧
 IntKind.wrap IntKind.i64 (Int.tdiv s (8 : Int)) < (↑(List.length s_) : Int) ∧
 (8 : Int) ≠ (0 : Int) ∧
 (0 : Int) ≤ Int.tmod s (8 : Int) ∧
 (0 : Int) ≤ s ∧
 s <
 (↑(Int.toNat
 (IntKind.wrap IntKind.i64
 (IntKind.wrap IntKind.i64
 (IntKind.wrap IntKind.i64
 ((8 : Int) * IntKind.wrap IntKind.i64 ((↑(List.length s_) : Int) - (1 : Int))) +
 n) -
 (1 : Int)))) :
 Int) ∧
 wok h_1 (Array.size h) ((0 : Nat) + Int.toNat s * (1 : Nat)) (1 : Nat) ∧
 Vc.Bind
 (TV.put h_1 (Array.size h) ((0 : Nat) + Int.toNat s * (1 : Nat))
 (TV.bool
 (decide
 (IntKind.wrap IntKind.u8
 (↑(BitVec.toNat
 (BitVec.ofInt (IntKind.bits IntKind.u8)
 (Int.fdiv
 (↑(UInt8.toNat
 (List.getD s_ (Int.toNat (IntKind.wrap IntKind.i64 (Int.tdiv s (8 : Int))))
 (0 : UInt8))) :
 Int)
 ((2 : Int) ^ min (Int.toNat (Int.tmod s (8 : Int))) (IntKind.bits IntKind.u8))) &&&
 BitVec.ofInt (IntKind.bits IntKind.u8) (1 : Int))) :
 Int) =
 (1 : Int)))))
 fun (h : Array Obj) ↦ K (IntKind.wrap IntKind.i64 (s + (1 : Int))) h)
 (R
 (TV.val
 (TV.tup
 [TV.slice
 (Sl.mk (some (Loc.mk (Array.size h) (0 : Nat)))
 (Int.toNat
 (IntKind.wrap IntKind.i64
 (IntKind.wrap IntKind.i64
 (IntKind.wrap IntKind.i64 ((8 : Int) * IntKind.wrap IntKind.i64 ((↑(List.length s_) : Int) - (1 : Int))) + n) -
 (1 : Int))))
 (Int.toNat
 (IntKind.wrap IntKind.i64
 (IntKind.wrap IntKind.i64
 (IntKind.wrap IntKind.i64 ((8 : Int) * IntKind.wrap IntKind.i64 ((↑(List.length s_) : Int) - (1 : Int))) + n) -
 (1 : Int))))),
 TV.bool true]))
 h_1)))
 fun (J : Sl × Bool → Array Obj → Prop) ↦
 If (decide (s_ = (ByteArray.mk #[]).data.toList)) (R (TV.val (TV.tup [TV.slice Sl.nil, TV.bool false])) h)
 ((0 : Int) ≤ IntKind.wrap IntKind.i64 ((↑(List.length s_) : Int) - (1 : Int)) ∧
 IntKind.wrap IntKind.i64 ((↑(List.length s_) : Int) - (1 : Int)) < (↑(List.length s_) : Int) ∧
 If
 (decide
 ((↑(UInt8.toNat (List.getD s_ (Int.toNat (IntKind.wrap IntKind.i64 ((↑(List.length s_) : Int) - (1 : Int)))) (0 : UInt8))) : Int) = (0 : Int)))
 (R (TV.val (TV.tup [TV.slice Sl.nil, TV.bool false])) h) (J (Sl.mk none (0 : Nat) (0 : Nat), false) h))

theorem bitlist_Get_calls (s_ : List UInt8) (most : Int) (h : Heap) (R : Value → Heap → Prop) (H : bitlist_Get_vc s_ most h R) : CallsH Try.prog 82 (TVs.vals [TV.str s_, TV.int IntKind.i64 most]) h R :=
 vcFn_sound (C := ctx) ctx_ok (fn := Try.f82) Try.func82 ((by kernel_rfl : bitlist_Get_vc s_ most h R = vcFn ctx Try.f82 [TV.str s_, TV.int IntKind.i64 most] h R) ▸ H)


def le_Reader_Left_vc (r : Option Go.Vc.Loc) (h : Heap) (R : Value → Heap → Prop) : Prop :=
 If (Option.isNone r) (R (TV.val (TV.int IntKind.i64 (0 : Int))) h)
 (Nn r fun (l : Go.Vc.Loc) ↦
 ∃ (s : List UInt8), at1 h l.b l.o (Value.string (ByteArray.mk (List.toArray s))) ∧ R (TV.val (TV.int IntKind.i64 (↑(List.length s) : Int))) h)

theorem le_Reader_Left_calls (r : Option Go.Vc.Loc) (h : Heap) (R : Value → Heap → Prop) (H : le_Reader_Left_vc r h R) : CallsH Try.prog 83 (TVs.vals [TV.ptr r]) h R :=
 vcFn_sound (C := ctx) ctx_ok (fn := Try.f83) Try.func83 ((by kernel_rfl : le_Reader_Left_vc r h R = vcFn ctx Try.f83 [TV.ptr r] h R) ▸ H)


def le_Reader_End_vc (r : Option Go.Vc.Loc) (h : Heap) (R : Value → Heap → Prop) : Prop :=
 If (!Option.isNone r)
 (Nn r fun (l : Go.Vc.Loc) ↦
 ∃ (b : Bool),
 at1 h l.b (l.o + (1 : Nat)) (Value.bool b) ∧
 If (!b)
 (Nn r fun (l : Go.Vc.Loc) ↦
 ∃ (s : List UInt8),
 at1 h l.b l.o (Value.string (ByteArray.mk (List.toArray s))) ∧ R (TV.val (TV.bool (decide (s = (ByteArray.mk #[]).data.toList)))) h)
 (R (TV.val (TV.bool false)) h))
 (R (TV.val (TV.bool false)) h)

theorem le_Reader_End_calls (r : Option Go.Vc.Loc) (h : Heap) (R : Value → Heap → Prop) (H : le_Reader_End_vc r h R) : CallsH Try.prog 84 (TVs.vals [TV.ptr r]) h R :=
 vcFn_sound (C := ctx) ctx_ok (fn := Try.f84) Try.func84 ((by kernel_rfl : le_Reader_End_vc r h R = vcFn ctx Try.f84 [TV.ptr r] h R) ▸ H)


def math_bits_Len8_vc (x : Int) (h : Heap) (R : Value → Heap → Prop) : Prop :=
 (0 : Int) ≤ x ∧
 x <
 (↑(List.length
 (ByteArray.mk
 (List.toArray
 (List.append
 (List.append
 [(0 : UInt8), (1 : UInt8), (2 : UInt8), (2 : UInt8), (3 : UInt8), (3 : UInt8), (3 : UInt8), (3 : UInt8), (4 : UInt8), (4 : UInt8),
 (4 : UInt8), (4 : UInt8), (4 : UInt8), (4 : UInt8), (4 : UInt8), (4 : UInt8), (5 : UInt8), (5 : UInt8), (5 : UInt8), (5 : UInt8),
 (5 : UInt8), (5 : UInt8), (5 : UInt8), (5 : UInt8), (5 : UInt8), (5 : UInt8), (5 : UInt8), (5 : UInt8), (5 : UInt8), (5 : UInt8),
 (5 : UInt8), (5 : UInt8), (6 : UInt8), (6 : UInt8), (6 : UInt8), (6 : UInt8), (6 : UInt8), (6 : UInt8), (6 : UInt8), (6 : UInt8),
 (6 : UInt8), (6 : UInt8), (6 : UInt8), (6 : UInt8), (6 : UInt8), (6 : UInt8), (6 : UInt8), (6 : UInt8), (6 : UInt8), (6 : UInt8),
 (6 : UInt8), (6 : UInt8), (6 : UInt8), (6 : UInt8), (6 : UInt8), (6 : UInt8), (6 : UInt8), (6 : UInt8), (6 : UInt8), (6 : UInt8),
 (6 : UInt8), (6 : UInt8), (6 : UInt8), (6 : UInt8)]
 [(7 : UInt8), (7 : UInt8), (7 : UInt8), (7 : UInt8), (7 : UInt8), (7 : UInt8), (7 : UInt8), (7 : UInt8), (7 : UInt8), (7 : UInt8),
 (7 : UInt8), (7 : UInt8), (7 : UInt8), (7 : UInt8), (7 : UInt8), (7 : UInt8), (7 : UInt8), (7 : UInt8), (7 : UInt8), (7 : UInt8),
 (7 : UInt8), (7 : UInt8), (7 : UInt8), (7 : UInt8), (7 : UInt8), (7 : UInt8), (7 : UInt8), (7 : UInt8), (7 : UInt8), (7 : UInt8),
 (7 : UInt8), (7 : UInt8), (7 : UInt8), (7 : UInt8), (7 : UInt8), (7 : UInt8), (7 : UInt8), (7 : UInt8), (7 : UInt8), (7 : UInt8),
 (7 : UInt8), (7 : UInt8), (7 : UInt8), (7 : UInt8), (7 : UInt8), (7 : UInt8), (7 : UInt8), (7 : UInt8), (7 : UInt8), (7 : UInt8),
 (7 : UInt8), (7 : UInt8), (7 : UInt8), (7 : UInt8), (7 : UInt8), (7 : UInt8), (7 : UInt8), (7 : UInt8), (7 : UInt8), (7 : UInt8),
 (7 : UInt8), (7 : UInt8), (7 : UInt8), (7 : UInt8)])
 (List.append
 [(8 : UInt8), (8 : UInt8), (8 : UInt8), (8 : UInt8), (8 : UInt8), (8 : UInt8), (8 : UInt8), (8 : UInt8), (8 : UInt8), (8 : UInt8),
 (8 : UInt8), (8 : UInt8), (8 : UInt8), (8 : UInt8), (8 : UInt8), (8 : UInt8), (8 : UInt8), (8 : UInt8), (8 : UInt8), (8 : UInt8),
 (8 : UInt8), (8 : UInt8), (8 : UInt8), (8 : UInt8), (8 : UInt8), (8 : UInt8), (8 : UInt8), (8 : UInt8), (8 : UInt8), (8 : UInt8),
 (8 : UInt8), (8 : UInt8), (8 : UInt8), (8 : UInt8), (8 : UInt8), (8 : UInt8), (8 : UInt8), (8 : UInt8), (8 : UInt8), (8 : UInt8),
 (8 : UInt8), (8 : UInt8), (8 : UInt8), (8 : UInt8), (8 : UInt8), (8 : UInt8), (8 : UInt8), (8 : UInt8), (8 : UInt8), (8 : UInt8),
 (8 : UInt8), (8 : UInt8), (8 : UInt8), (8 : UInt8), (8 : UInt8), (8 : UInt8), (8 : UInt8), (8 : UInt8), (8 : UInt8), (8 : UInt8),
 (8 : UInt8), (8 : UInt8), (8 : UInt8), (8 : UInt8)]
 [(8 : UInt8), (8 : UInt8), (8 : UInt8), (8 : UInt8), (8 : UInt8), (8 : UInt8), (8 : UInt8), (8 : UInt8), (8 : UInt8), (8 : UInt8),
 (8 : UInt8), (8 : UInt8), (8 : UInt8), (8 : UInt8), (8 : UInt8), (8 : UInt8), (8 : UInt8), (8 : UInt8), (8 : UInt8), (8 : UInt8),
 (8 : UInt8), (8 : UInt8), (8 : UInt8), (8 : UInt8), (8 : UInt8), (8 : UInt8), (8 : UInt8), (8 : UInt8), (8 : UInt8), (8 : UInt8),
 (8 : UInt8), (8 : UInt8), (8 : UInt8), (8 : UInt8), (8 : UInt8), (8 : UInt8), (8 : UInt8), (8 : UInt8), (8 : UInt8), (8 : UInt8),
 (8 : UInt8), (8 : UInt8), (8 : UInt8), (8 : UInt8), (8 : UInt8), (8 : UInt8), (8 : UInt8), (8 : UInt8), (8 : UInt8), (8 : UInt8),
 (8 : UInt8), (8 : UInt8), (8 : UInt8), (8 : UInt8), (8 : UInt8), (8 : UInt8), (8 : UInt8), (8 : UInt8), (8 : UInt8), (8 : UInt8),
 (8 : UInt8), (8 : UInt8), (8 : UInt8), (8 : UInt8)])))).data.toList) :
 Int) ∧
 R
 (TV.val
 (TV.int IntKind.i64
 (IntKind.wrap IntKind.i64
 (↑(UInt8.toNat
 (List.getD
 (ByteArray.mk
 (List.toArray
 (List.append
 (List.append
 [(0 : UInt8), (1 : UInt8), (2 : UInt8), (2 : UInt8), (3 : UInt8), (3 : UInt8), (3 : UInt8), (3 : UInt8), (4 : UInt8),
 (4 : UInt8), (4 : UInt8), (4 : UInt8), (4 : UInt8), (4 : UInt8), (4 : UInt8), (4 : UInt8), (5 : UInt8), (5 : UInt8),
 (5 : UInt8), (5 : UInt8), (5 : UInt8), (5 : UInt8), (5 : UInt8), (5 : UInt8), (5 : UInt8), (5 : UInt8), (5 : UInt8),
 (5 : UInt8), (5 : UInt8), (5 : UInt8), (5 : UInt8), (5 : UInt8), (6 : UInt8), (6 : UInt8), (6 : UInt8), (6 : UInt8),
 (6 : UInt8), (6 : UInt8), (6 : UInt8), (6 : UInt8), (6 : UInt8), (6 : UInt8), (6 : UInt8), (6 : UInt8), (6 : UInt8),
 (6 : UInt8), (6 : UInt8), (6 : UInt8), (6 : UInt8), (6 : UInt8), (6 : UInt8), (6 : UInt8), (6 : UInt8), (6 : UInt8),
 (6 : UInt8), (6 : UInt8), (6 : UInt8), (6 : UInt8), (6 : UInt8), (6 : UInt8), (6 : UInt8), (6 : UInt8), (6 : UInt8),
 (6 : UInt8)]
 [(7 : UInt8), (7 : UInt8), (7 : UInt8), (7 : UInt8), (7 : UInt8), (7 : UInt8), (7 : UInt8), (7 : UInt8), (7 : UInt8),
 (7 : UInt8), (7 : UInt8), (7 : UInt8), (7 : UInt8), (7 : UInt8), (7 : UInt8), (7 : UInt8), (7 : UInt8), (7 : UInt8),
 (7 : UInt8), (7 : UInt8), (7 : UInt8), (7 : UInt8), (7 : UInt8), (7 : UInt8), (7 : UInt8), (7 : UInt8), (7 : UInt8),
 (7 : UInt8), (7 : UInt8), (7 : UInt8), (7 : UInt8), (7 : UInt8), (7 : UInt8), (7 : UInt8), (7 : UInt8), (7 : UInt8),
 (7 : UInt8), (7 : UInt8), (7 : UInt8), (7 : UInt8), (7 : UInt8), (7 : UInt8), (7 : UInt8), (7 : UInt8), (7 : UInt8),
 (7 : UInt8), (7 : UInt8), (7 : UInt8), (7 : UInt8), (7 : UInt8), (7 : UInt8), (7 : UInt8), (7 : UInt8), (7 : UInt8),
 (7 : UInt8), (7 : UInt8), (7 : UInt8), (7 : UInt8), (7 : UInt8), (7 : UInt8), (7 : UInt8), (7 : UInt8), (7 : UInt8),
 (7 : UInt8)])
 (List.append
 [(8 : UInt8), (8 : UInt8), (8 : UInt8), (8 : UInt8), (8 : UInt8), (8 : UInt8), (8 : UInt8), (8 : UInt8), (8 : UInt8),
 (8 : UInt8), (8 : UInt8), (8 : UInt8), (8 : UInt8), (8 : UInt8), (8 : UInt8), (8 : UInt8), (8 : UInt8), (8 : UInt8),
 (8 : UInt8), (8 : UInt8), (8 : UInt8), (8 : UInt8), (8 : UInt8), (8 : UInt8), (8 : UInt8), (8 : UInt8), (8 : UInt8),
 (8 : UInt8), (8 : UInt8), (8 : UInt8), (8 : UInt8), (8 : UInt8), (8 : UInt8), (8 : UInt8), (8 : UInt8), (8 : UInt8),
 (8 : UInt8), (8 : UInt8), (8 : UInt8), (8 : UInt8), (8 : UInt8), (8 : UInt8), (8 : UInt8), (8 : UInt8), (8 : UInt8),
 (8 : UInt8), (8 : UInt8), (8 : UInt8), (8 : UInt8), (8 : UInt8), (8 : UInt8), (8 : UInt8), (8 : UInt8), (8 : UInt8),
 (8 : UInt8), (8 : UInt8), (8 : UInt8), (8 : UInt8), (8 : UInt8), (8 : UInt8), (8 : UInt8), (8 : UInt8), (8 : UInt8),
 (8 : UInt8)]
 [(8 : UInt8), (8 : UInt8), (8 : UInt8), (8 : UInt8), (8 : UInt8), (8 : UInt8), (8 : UInt8), (8 : UInt8), (8 : UInt8),
 (8 : UInt8), (8 : UInt8), (8 : UInt8), (8 : UInt8), (8 : UInt8), (8 : UInt8), (8 : UInt8), (8 : UInt8), (8 : UInt8),
 (8 : UInt8), (8 : UInt8), (8 : UInt8), (8 : UInt8), (8 : UInt8), (8 : UInt8), (8 : UInt8), (8 : UInt8), (8 : UInt8),
 (8 : UInt8), (8 : UInt8), (8 : UInt8), (8 : UInt8), (8 : UInt8), (8 : UInt8), (8 : UInt8), (8 : UInt8), (8 : UInt8),
 (8 : UInt8), (8 : UInt8), (8 : UInt8), (8 : UInt8), (8 : UInt8), (8 : UInt8), (8 : UInt8), (8 : UInt8), (8 : UInt8),
 (8 : UInt8), (8 : UInt8), (8 : UInt8), (8 : UInt8), (8 : UInt8), (8 : UInt8), (8 : UInt8), (8 : UInt8), (8 : UInt8),
 (8 : UInt8), (8 : UInt8), (8 : UInt8), (8 : UInt8), (8 : UInt8), (8 : UInt8), (8 : UInt8), (8 : UInt8), (8 : UInt8),
 (8 : UInt8)])))).data.toList
 (Int.toNat x) (0 : UInt8))) :
 Int))))
 h

theorem math_bits_Len8_calls (x : Int) (h : Heap) (R : Value → Heap → Prop) (H : math_bits_Len8_vc x h R) : CallsH Try.prog 113 (TVs.vals [TV.int IntKind.u8 x]) h R :=
 vcFn_sound (C := ctx) ctx_ok (fn := Try.f113) Try.func113 ((by kernel_rfl : math_bits_Len8_vc x h R = vcFn ctx Try.f113 [TV.int IntKind.u8 x] h R) ▸ H)


end Go.Proofs.Ytldocdpdjdekiaa
end

section
/- The program's reader of bytes, and its rows of bits. -/
namespace Go.Proofs.Ytldocdpdjdekiaa.Board
open Go Go.Vc
section
variable {R : Value → Heap → Prop} {h : Heap} {b : Nat} {r : List UInt8} {sh : Bool}

/-- The next so many bytes of what is left, and what is left then, and whether it was too short. -/
def rdB (r : List UInt8) (sh : Bool) (n : Int) : List UInt8 × List UInt8 × Bool :=
  if sh = true ∨ n < 0 ∨ (r.length : Int) < n then ([], [], true) else (r.take n.toNat, r.drop n.toNat, sh)

theorem rdB_len {n : Int} : (rdB r sh n).1.length ≤ n.toNat := by
  unfold rdB
  split
  · exact Nat.zero_le _
  · rw [List.length_take]; omega

theorem rdB_ok {n : Nat} (h : n ≤ r.length) : rdB r false (n : Int) = (r.take n, r.drop n, false) := by
  unfold rdB
  rw [if_neg]
  · rfl
  · rintro (h1 | h1 | h1)
    · cases h1
    · omega
    · omega

theorem rdB_bad {n : Int} (h : sh = true ∨ n < 0 ∨ (r.length : Int) < n) : rdB r sh n = ([], [], true) := if_pos h

/-- A reader in memory: what is left, and whether it is short. -/
def Rd (h : Heap) (b : Nat) (r : List UInt8) (sh : Bool) : Prop := Var 194 h b (.agg [.str r, .bool sh])

theorem rbytes_spec {n : Int} (v : Rd h b r sh) (hr : ∀ h', Rd h' b (rdB r sh n).2.1 (rdB r sh n).2.2 → Only (· = b) h h' → R (TV.str (rdB r sh n).1).val h') :
    CallsH Try.prog 81 (TVs.vals [.ptr (some ⟨b, 0⟩), .int .i64 n]) h R := by
  apply le_Reader_Bytes_calls
  unfold le_Reader_Bytes_vc
  have v : Var 194 h b (.agg [.str r, .bool sh]) := v
  intro J HJ J2 HJ2
  have bad : (sh = true ∨ n < 0 ∨ (r.length : Int) < n) → J2 true h := by
    intro hb
    rw [rdB_bad hb] at hr
    refine HJ2 true h (If.yes (If.yes ?_))
    refine field_in (i := 1) (t := .bool true) (t0 := .bool sh) v rfl rfl rfl rfl fun h1 v1 f1 s1 => ?_
    refine field_in (i := 0) (t := .str []) (t0 := .str r) v1 rfl rfl rfl rfl fun h2 v2 f2 s2 => ?_
    exact hr h2 v2 (f1.trans f2)
  refine If.no ⟨sh, v.at1 rfl, ?_⟩
  refine If.split (fun hb => bad (.inl (by simpa using hb))) fun hs => If.dec.2 ⟨fun hn => bad (.inr (.inl hn)), fun hn => ⟨r, v.at1 rfl, ?_⟩⟩
  have hs : sh = false := by simpa using hs
  by_cases hl : (r.length : Int) < n
  · rw [decide_eq_true hl]
    exact bad (.inr (.inr hl))
  rw [decide_eq_false hl]
  have hg : rdB r sh n = (r.take n.toNat, r.drop n.toNat, sh) := if_neg (by rw [hs]; rintro (h1 | h1 | h1) <;> first | cases h1 | exact hn h1 | exact hl h1)
  rw [hg] at hr
  refine HJ2 false h (If.no (HJ _ h ⟨r, v.at1 rfl, by omega, by omega, r, v.at1 rfl, by omega, by omega, ?_⟩))
  have e1 : List.take (r.length - n.toNat) (r.drop n.toNat) = r.drop n.toNat := List.take_of_length_le (by rw [List.length_drop]; omega)
  refine ?_
  show wok h b 0 1 ∧ Bind _ _
  rw [e1]
  refine field_in (i := 0) (t := .str (r.drop n.toNat)) (t0 := .str r) v rfl rfl rfl rfl fun h2 v2 f2 s2 => ?_
  exact hr h2 v2 f2

set_option maxRecDepth 100000 in
theorem or_parts64 (A B : Nat) (hB : B < 2 ^ 8) (hA : A * 2 ^ 8 + B < 18446744073709551616) : ((BitVec.toNat (BitVec.ofInt 64 ((A * 2 ^ 8 : Nat) : Int) ||| BitVec.ofInt 64 (B : Int)) : Nat) : Int) = ((A * 2 ^ 8 + B : Nat) : Int) := by
  rw [BitVec.ofInt_natCast, BitVec.ofInt_natCast, BitVec.toNat_or, BitVec.toNat_ofNat, BitVec.toNat_ofNat, Nat.mod_eq_of_lt (by omega), Nat.mod_eq_of_lt (by omega)]
  have := Nat.shiftLeft_add_eq_or_of_lt hB A
  rw [Nat.shiftLeft_eq] at this
  rw [this]

theorem shl8 (A : Nat) (c : UInt8) (hA : A < 72057594037927936) :
    IntKind.wrap .u64 (↑(BitVec.toNat (BitVec.ofInt (IntKind.bits .u64) (IntKind.wrap .u64 ((A : Int) * 2 ^ min (Int.toNat 8) (IntKind.bits .u64))) ||| BitVec.ofInt (IntKind.bits .u64) (IntKind.wrap .u64 (c.toNat : Int)))) : Int) = ((c.toNat + 256 * A : Nat) : Int) := by
  have hc := c.toNat_lt
  have e1 : IntKind.wrap .u64 ((A : Int) * 2 ^ min (Int.toNat 8) (IntKind.bits .u64)) = ((A * 2 ^ 8 : Nat) : Int) := by
    show IntKind.wrap .u64 ((A : Int) * 256) = _
    rw [wrap_u64_small (by omega) (by omega)]
    omega
  have e2 : IntKind.wrap .u64 (c.toNat : Int) = (c.toNat : Int) := wrap_u64_small (by omega) (by omega)
  rw [e1, e2]
  show IntKind.wrap .u64 (↑(BitVec.toNat (BitVec.ofInt 64 ((A * 2 ^ 8 : Nat) : Int) ||| BitVec.ofInt 64 (c.toNat : Int))) : Int) = _
  rw [or_parts64 A c.toNat (by omega) (by omega), wrap_u64_small (by omega) (by omega)]
  omega

theorem ruint_spec {w : Int} (v : Rd h b r sh) (hw : w ≤ 8) (hr : ∀ h', Rd h' b (rdB r sh w).2.1 (rdB r sh w).2.2 → Only (· = b) h h' → R (TV.int .u64 (num (rdB r sh w).1 : Nat)).val h') :
    CallsH Try.prog 80 (TVs.vals [.ptr (some ⟨b, 0⟩), .int .i64 w]) h R := by
  apply le_Reader_Uint_calls
  unfold le_Reader_Uint_vc
  intro J HJ
  refine If.dec.2 ⟨fun h1 => by omega, fun _ => HJ w h ?_⟩
  refine rbytes_spec v fun h1 v1 f1 => ⟨_, rfl, ?_⟩
  have hl : (rdB r sh w).1.length ≤ 8 := Nat.le_trans rdB_len (by omega)
  have hr1 := hr h1 v1 f1
  generalize (rdB r sh w).1 = s at hl hr1
  refine ⟨fun σ hh => -1 ≤ σ.2 ∧ σ.2 < s.length ∧ hh = h1 ∧ σ.1 = ((num (s.drop (σ.2 + 1).toNat) : Nat) : Int), fun σ _ => (σ.2 + 1).toNat, ⟨?_, ?_, rfl, ?_⟩, ?_⟩
  · show -1 ≤ IntKind.wrap .i64 _
    rw [wrap_i64 (by omega) (by omega)]; omega
  · show IntKind.wrap .i64 _ < _
    rw [wrap_i64 (by omega) (by omega)]; omega
  · show (0 : Int) = ((num (s.drop (IntKind.wrap .i64 _ + 1).toNat) : Nat) : Int)
    rw [wrap_i64 (by omega) (by omega), List.drop_of_length_le (by omega)]
    rfl
  rintro ⟨a, i⟩ hh ⟨i0, i1, rfl, ha⟩
  dsimp only at i0 i1 ha ⊢
  refine If.dec.2 ⟨fun hi => ⟨by decide, hi, i1, ?_⟩, fun hi => ?_⟩
  · have hlt := num_lt (s.drop (i + 1).toNat)
    have hdl : (s.drop (i + 1).toNat).length ≤ 7 := by rw [List.length_drop]; omega
    have hp : 256 ^ (s.drop (i + 1).toNat).length ≤ 256 ^ 7 := Nat.pow_le_pow_right (by decide) hdl
    have hp7 : 256 ^ 7 = 72057594037927936 := by decide
    have hdrop : s.drop i.toNat = s.getD i.toNat 0 :: s.drop (i + 1).toNat := by
      rw [List.drop_eq_getElem_cons (by omega), List.getD_eq_getElem?_getD, List.getElem?_eq_getElem (by omega), show (i + 1).toNat = i.toNat + 1 by omega]
      rfl
    rw [ha, shl8 _ _ (by omega), wrap_i64 (n := i - 1) (by omega) (by omega)]
    refine ⟨⟨by first | omega | (dsimp only; omega), by first | omega | (dsimp only; omega), rfl, ?_⟩, by first | omega | (dsimp only; omega)⟩
    try dsimp only
    rw [show (i - 1 + 1).toNat = i.toNat by omega, hdrop, num]
  · have : (i + 1).toNat = 0 := by omega
    rw [ha, this]
    exact hr1

theorem from_spec {s : List UInt8} (hr : ∀ h', Rd h' h.size s false → Ext h h' → h'.size = h.size + 1 → R (TV.ptr (some ⟨h.size, 0⟩)).val h') : CallsH Try.prog 79 (TVs.vals [.str s]) h R := by
  apply le_From_calls
  unfold le_From_vc
  exact newTV_in fun h1 v1 x1 s1 => hr h1 v1 x1 s1

theorem left_spec (v : Rd h b r sh) (hr : R (TV.int .i64 (r.length : Int)).val h) : CallsH Try.prog 83 (TVs.vals [.ptr (some ⟨b, 0⟩)]) h R := by
  have v : Var 194 h b (.agg [.str r, .bool sh]) := v
  apply le_Reader_Left_calls
  unfold le_Reader_Left_vc
  exact If.no ⟨r, v.at1 rfl, hr⟩

theorem rend_spec (v : Rd h b r sh) (hr : R (TV.bool (!sh && decide (r = []))).val h) : CallsH Try.prog 84 (TVs.vals [.ptr (some ⟨b, 0⟩)]) h R := by
  have v : Var 194 h b (.agg [.str r, .bool sh]) := v
  apply le_Reader_End_calls
  unfold le_Reader_End_vc
  refine If.yes ⟨sh, v.at1 rfl, ?_⟩
  cases sh with
  | true => exact If.no hr
  | false => exact If.yes ⟨r, v.at1 rfl, hr⟩

/-! ### Rows of bits -/

def tab8 : List UInt8 := (List.range 256).map fun i => if i = 0 then 0 else UInt8.ofNat (Nat.log2 i + 1)

theorem len8_eq (x : Int) (h : Heap) (R : Value → Heap → Prop) : math_bits_Len8_vc x h R = (0 ≤ x ∧ x < 256 ∧ R (TV.int .i64 (IntKind.wrap .i64 ((tab8.getD x.toNat 0).toNat : Int))).val h) := by kernel_rfl

theorem tab8_get : ∀ n : Fin 256, n.val ≠ 0 → IntKind.wrap .i64 ((tab8.getD n.val 0).toNat : Int) = ((n.val.log2 + 1 : Nat) : Int) := by decide +kernel

theorem len8_spec {c : UInt8} (hc : c ≠ 0) (hr : R (TV.int .i64 ((topBit c + 1 : Nat) : Int)).val h) : CallsH Try.prog 113 (TVs.vals [.int .u8 (c.toNat : Int)]) h R := by
  apply math_bits_Len8_calls
  have hlt := c.toNat_lt
  have hn : c.toNat ≠ 0 := fun e => hc (UInt8.toNat_inj.1 e)
  rw [len8_eq]
  refine ⟨Int.natCast_nonneg _, by omega, ?_⟩
  rw [Int.toNat_natCast, tab8_get ⟨c.toNat, hlt⟩ hn]
  exact hr

theorem bit_test : ∀ c : Fin 256, ∀ k : Fin 8, decide (IntKind.wrap .u8 (↑(BitVec.toNat (BitVec.ofInt (IntKind.bits .u8) (Int.fdiv ((c.val : Nat) : Int) ((2 : Int) ^ min (Int.toNat ((k.val : Nat) : Int)) (IntKind.bits .u8))) &&& BitVec.ofInt (IntKind.bits .u8) 1)) : Int) = 1) = decide (c.val / 2 ^ k.val % 2 = 1) := by decide +kernel

theorem last_get {s : List UInt8} (_h : s ≠ []) : s.getD (s.length - 1) 0 = s.getLastD 0 := by
  rw [List.getLastD_eq_getLast?, List.getLast?_eq_getElem?, List.getD_eq_getElem?_getD]

/-- The row so far. -/
def rowTo (l : List Bool) (n i : Nat) : List Bool := l.take i ++ List.replicate (n - i) false

theorem rowTo_set {l : List Bool} {n i : Nat} {x : Bool} (hx : l[i]? = some x) (hn : i < n) : (rowTo l n i).set i x = rowTo l n (i + 1) := by
  have hi := (List.getElem?_eq_some_iff.1 hx).1
  unfold rowTo
  have hr : List.replicate (n - i) false = false :: List.replicate (n - (i + 1)) false := by
    rw [show n - i = (n - (i + 1)) + 1 by omega, List.replicate_succ]
  rw [List.set_append_right _ _ (by rw [List.length_take]; omega), List.length_take, Nat.min_eq_left (by omega), Nat.sub_self, hr, List.set_cons_zero, List.take_add_one, hx, List.append_assoc]
  rfl

set_option maxRecDepth 100000 in
theorem bget_spec {s : List UInt8} (hl : s.length < 100000) (hn : getF s 16 = none → R (TV.tup [.slice Sl.nil, .bool false]).val h)
    (hy : ∀ row h' t, getF s 16 = some row → Own 4 1 h' t (bools row) → Ext h h' → (∀ l, t.a = some l → h.size ≤ l.b) → R (TV.tup [.slice t, .bool true]).val h') :
    CallsH Try.prog 82 (TVs.vals [.str s, .int .i64 16]) h R := by
  apply bitlist_Get_calls
  unfold bitlist_Get_vc
  intro J HJ
  refine If.dec.2 ⟨fun h0 => ?_, fun h0 => ?_⟩
  · refine hn ?_
    have : s = [] := h0
    unfold getF
    rw [if_pos (.inl this)]
  have h0 : s ≠ [] := h0
  have hl0 : 0 < s.length := List.length_pos_iff.2 h0
  have w1 : IntKind.wrap .i64 ((s.length : Int) - 1) = ((s.length - 1 : Nat) : Int) := by rw [wrap_i64 (by omega) (by omega)]; omega
  rw [w1]
  rw [w1] at HJ
  refine ⟨by omega, by omega, ?_⟩
  rw [Int.toNat_natCast, last_get h0]
  rw [Int.toNat_natCast, last_get h0] at HJ
  refine If.dec.2 ⟨fun hz => ?_, fun hz => HJ _ _ ?_⟩
  · refine hn ?_
    have : s.getLastD 0 = 0 := UInt8.toNat_inj.1 (by show _ = 0; omega)
    unfold getF
    rw [if_pos (.inr this)]
  clear HJ J
  have hz : s.getLastD 0 ≠ 0 := fun e => hz (by rw [e]; rfl)
  have ht := topBit_lt hz
  refine ⟨by omega, by omega, len8_spec hz ⟨_, rfl, ?_⟩⟩
  have hg : getF s 16 = if 16 < rowLen s then none else some ((bitsOf s).take (rowLen s)) := by
    unfold getF
    rw [if_neg (by rintro (h1 | h1); exact h0 h1; exact hz h1)]
  have w2 : IntKind.wrap .i64 (IntKind.wrap .i64 (IntKind.wrap .i64 (8 * ((s.length - 1 : Nat) : Int)) + ((topBit (s.getLastD 0) + 1 : Nat) : Int)) - 1) = (rowLen s : Int) := by
    unfold rowLen
    rw [wrap_i64 (n := 8 * ((s.length - 1 : Nat) : Int)) (by omega) (by omega), wrap_i64 (n := 8 * ((s.length - 1 : Nat) : Int) + ((topBit (s.getLastD 0) + 1 : Nat) : Int)) (by omega) (by omega), wrap_i64 (by omega) (by omega)]
    omega
  rw [w2]
  have hrl : rowLen s < 8 * s.length := by unfold rowLen; omega
  refine If.dec.2 ⟨fun hm => hn (by rw [hg, if_pos (by omega)]), fun hm => ?_⟩
  rw [if_neg (by omega)] at hg
  generalize rowLen s = n at hg hm hrl
  have hbl : (bitsOf s).length = 8 * s.length := bitsOf_length s
  obtain ⟨row, hrow⟩ : ∃ row, row = (bitsOf s).take n := ⟨_, rfl⟩
  have hrn : row.length = n := by rw [hrow, List.length_take]; omega
  rw [← hrow] at hg
  refine ⟨by omega, by omega, by show (1 : Int) * (n : Int) ≤ _; omega, by omega, ?_⟩
  simp only [Int.toNat_natCast]
  have ob := Own.new (T := 4) (sz := 1) h (List.replicate n (TV.bool false)) (fun t ht => by rw [List.eq_of_mem_replicate ht]; rfl)
  rw [List.length_replicate, ← zeros_rep] at ob
  have e0 : List.replicate n (TV.bool false) = bools (rowTo row n 0) := by unfold rowTo; simp [bools]
  rw [e0] at ob
  have xp := Ext.push h (Vc.row (zeros (TV.bool false) n) 4)
  refine ⟨fun i hh => 0 ≤ i ∧ i ≤ n ∧ Ext h hh ∧ Own 4 1 hh ⟨some ⟨h.size, 0⟩, n, n⟩ (bools (rowTo row n i.toNat)), fun i _ => ((n : Int) - i).toNat, ⟨Int.le_refl 0, by omega, xp, ob⟩, ?_⟩
  rintro i hh ⟨i0, i1, x1, o1⟩
  have hbits := bitsOf_get s i.toNat
  refine If.dec.2 ⟨fun hi => ?_, fun hi => ?_⟩
  · have d8 : Int.tdiv i 8 = ((i.toNat / 8 : Nat) : Int) := by rw [Int.tdiv_eq_ediv_of_nonneg i0]; omega
    have m8 : Int.tmod i 8 = ((i.toNat % 8 : Nat) : Int) := by rw [Int.tmod_eq_emod_of_nonneg i0]; omega
    have w3 : IntKind.wrap .i64 (Int.tdiv i 8) = ((i.toNat / 8 : Nat) : Int) := by rw [d8, wrap_i64 (by omega) (by omega)]
    rw [w3, m8]
    refine ⟨by decide, by omega, by omega, by decide, by omega, i0, hi, ?_⟩
    have hx : row[i.toNat]? = some (bitAt (s.getD (i.toNat / 8) 0) (i.toNat % 8)) := by rw [hrow, List.getElem?_take, if_pos (by omega), hbits (by omega)]
    have hbt := bit_test ⟨(s.getD (i.toNat / 8) 0).toNat, UInt8.toNat_lt _⟩ ⟨i.toNat % 8, Nat.mod_lt _ (by decide)⟩
    rw [Int.toNat_natCast]
    dsimp only at hbt
    rw [hbt]
    refine (Own.put_in (n := 1) (t := TV.bool (bitAt (s.getD (i.toNat / 8) 0) (i.toNat % 8))) o1 i0 (by unfold rowTo; rw [List.length_map, List.length_append, List.length_take, List.length_replicate]; omega) rfl rfl fun h2 o2 f2 s2 => ?_).2.2
    rw [wrap_i64 (n := i + 1) (by omega) (by omega)]
    refine ⟨⟨by omega, by omega, Only.cut x1 f2 fun j ⟨l, hl, hj⟩ => by obtain rfl := Option.some.inj hl; rw [← hj]; exact Nat.le_refl _, ?_⟩, by first | omega | (dsimp only; omega)⟩
    rw [show (i + 1).toNat = i.toNat + 1 by omega, ← rowTo_set hx (by omega)]
    have : bools ((rowTo row n i.toNat).set i.toNat (bitAt (s.getD (i.toNat / 8) 0) (i.toNat % 8))) = (bools (rowTo row n i.toNat)).set i.toNat (TV.bool (bitAt (s.getD (i.toNat / 8) 0) (i.toNat % 8))) := List.map_set
    rw [this]
    exact o2
  · have hin : i.toNat = n := by omega
    have hall : rowTo row n i.toNat = row := by unfold rowTo; rw [hin, Nat.sub_self, List.take_of_length_le (by omega)]; simp
    rw [hall] at o1
    exact hy row hh _ hg o1 x1 fun l hl => by obtain rfl := Option.some.inj hl; exact Nat.le_refl _

end
end Go.Proofs.Ytldocdpdjdekiaa.Board
end

section
/- The conditions of functions, as the generator reckons them out, each with the proof that it is that. -/
namespace Go.Proofs.Ytldocdpdjdekiaa
open Go Go.Vc
set_option maxRecDepth 100000
set_option linter.unusedVariables false

def wire_Decode_vc (s_ : List UInt8) (h : Heap) (R : Value → Heap → Prop) : Prop :=
 Vc.Bind
 (newTV h
 (TV.agg
 [TV.int IntKind.i64 (0 : Int), TV.int IntKind.i64 (0 : Int), TV.bytes (32 : Nat) (Bs.zero (32 : Nat)), TV.int IntKind.i64 (0 : Int),
 TV.int IntKind.u64 (0 : Int), TV.slice Sl.nil, TV.bytes (16 : Nat) (Bs.zero (16 : Nat))])
 (63 : Nat))
 fun (h_1 : Array Obj) ↦
 CallsH Try.prog (79 : Nat) (TVs.vals [TV.str s_]) h_1 fun (v : Value) (h_2 : Array Obj) ↦
 ∃ (p : Option Go.Vc.Loc),
 v = TV.val (TV.ptr p) ∧
 CallsH Try.prog (80 : Nat) (TVs.vals [TV.ptr p, TV.int IntKind.i64 (1 : Int)]) h_2 fun (v : Value) (h_3 : Array Obj) ↦
 ∃ (n : Int),
 v = TV.val (TV.int IntKind.u64 n) ∧
 CallsH Try.prog (80 : Nat) (TVs.vals [TV.ptr p, TV.int IntKind.i64 (4 : Int)]) h_3 fun (v : Value) (h_4 : Array Obj) ↦
 ∃ (n_1 : Int),
 v = TV.val (TV.int IntKind.u64 n_1) ∧
 Vc.Bind
 (newTV h_4
 (TV.agg
 [TV.int IntKind.i64 (0 : Int), TV.int IntKind.i64 (0 : Int), TV.bytes (32 : Nat) (Bs.zero (32 : Nat)), TV.int IntKind.i64 (0 : Int),
 TV.int IntKind.u64 (0 : Int), TV.slice Sl.nil, TV.bytes (16 : Nat) (Bs.zero (16 : Nat))])
 (63 : Nat))
 fun (h_5 : Array Obj) ↦
 wok h_5 (Array.size h_4) (0 : Nat) (53 : Nat) ∧
 Vc.Bind
 (TV.put h_5 (Array.size h_4) (0 : Nat)
 (TV.agg
 [TV.int IntKind.i64 (IntKind.wrap IntKind.i64 n), TV.int IntKind.i64 (IntKind.wrap IntKind.i64 n_1),
 TV.bytes (32 : Nat) (Bs.zero (32 : Nat)), TV.int IntKind.i64 (0 : Int), TV.int IntKind.u64 (0 : Int), TV.slice Sl.nil,
 TV.bytes (16 : Nat) (Bs.zero (16 : Nat))]))
 fun (h_6 : Array Obj) ↦
 CallsH Try.prog (81 : Nat) (TVs.vals [TV.ptr p, TV.int IntKind.i64 (32 : Int)]) h_6 fun (v : Value) (h_7 : Array Obj) ↦
 ∃ (s : List UInt8),
 v = TV.val (TV.str s) ∧
 ((cutSl (Sl.mk (some (Loc.mk (Array.size h_4) (2 : Nat))) (32 : Nat) (32 : Nat)) (0 : Nat) (32 : Nat) (1 : Nat)).a = none →
 Join
 (fun (s : Bool) (h_8 : Array Obj) ↦
 CallsH Try.prog (81 : Nat) (TVs.vals [TV.ptr p, TV.int IntKind.i64 (16 : Int)]) h_8 fun (v : Value) (h_9 : Array Obj) ↦
 ∃ (s : List UInt8),
 v = TV.val (TV.str s) ∧
 ((cutSl (Sl.mk (some (Loc.mk (Array.size h_4) (37 : Nat))) (16 : Nat) (16 : Nat)) (0 : Nat) (16 : Nat)
 (1 : Nat)).a =
 none →
 CallsH Try.prog (84 : Nat) (TVs.vals [TV.ptr p]) h_9 fun (v : Value) (h_10 : Array Obj) ↦
 ∃ (b : Bool),
 v = TV.val (TV.bool b) ∧
 If (!b)
 (wok h_10 (Array.size h) (0 : Nat) (53 : Nat) ∧
 Vc.Bind
 (TV.put h_10 (Array.size h) (0 : Nat)
 (TV.agg
 [TV.int IntKind.i64 (0 : Int), TV.int IntKind.i64 (0 : Int),
 TV.bytes (32 : Nat) (Bs.zero (32 : Nat)), TV.int IntKind.i64 (0 : Int),
 TV.int IntKind.u64 (0 : Int), TV.slice Sl.nil, TV.bytes (16 : Nat) (Bs.zero (16 : Nat))]))
 fun (h_11 : Array Obj) ↦
 ∃ (n : Int),
 ∃ (n_2 : Int),
 ∃ (b : Bs (32 : Nat)),
 ∃ (n_3 : Int),
 ∃ (n_4 : Int),
 ∃ (s : Sl),
 ∃ (b_1 : Bs (16 : Nat)),
 (at1 h_11 (Array.size h) (0 : Nat) (Value.int IntKind.i64 n) ∧
 at1 h_11 (Array.size h) (1 : Nat) (Value.int IntKind.i64 n_2) ∧
 atBytes h_11 (Array.size h) (2 : Nat) (32 : Nat) b ∧
 at1 h_11 (Array.size h) (34 : Nat) (Value.int IntKind.i64 n_3) ∧
 at1 h_11 (Array.size h) (35 : Nat) (Value.int IntKind.u64 n_4) ∧
 at1 h_11 (Array.size h) (36 : Nat) (slVal s) ∧
 atBytes h_11 (Array.size h) (37 : Nat) (16 : Nat) b_1) ∧
 R
 (TV.val
 (TV.tup
 [TV.agg
 [TV.int IntKind.i64 n, TV.int IntKind.i64 n_2, TV.bytes (32 : Nat) b,
 TV.int IntKind.i64 n_3, TV.int IntKind.u64 n_4, TV.slice s,
 TV.bytes (16 : Nat) b_1],
 TV.bool false]))
 h_11)
 (∃ (n : Int),
 ∃ (n_2 : Int),
 ∃ (b : Bs (32 : Nat)),
 ∃ (n_3 : Int),
 ∃ (n_4 : Int),
 ∃ (s : Sl),
 ∃ (b_1 : Bs (16 : Nat)),
 (at1 h_10 (Array.size h_4) (0 : Nat) (Value.int IntKind.i64 n) ∧
 at1 h_10 (Array.size h_4) (1 : Nat) (Value.int IntKind.i64 n_2) ∧
 atBytes h_10 (Array.size h_4) (2 : Nat) (32 : Nat) b ∧
 at1 h_10 (Array.size h_4) (34 : Nat) (Value.int IntKind.i64 n_3) ∧
 at1 h_10 (Array.size h_4) (35 : Nat) (Value.int IntKind.u64 n_4) ∧
 at1 h_10 (Array.size h_4) (36 : Nat) (slVal s) ∧
 atBytes h_10 (Array.size h_4) (37 : Nat) (16 : Nat) b_1) ∧
 CallsH Try.prog (85 : Nat)
 (TVs.vals
 [TV.agg
 [TV.int IntKind.i64 n, TV.int IntKind.i64 n_2, TV.bytes (32 : Nat) b,
 TV.int IntKind.i64 n_3, TV.int IntKind.u64 n_4, TV.slice s,
 TV.bytes (16 : Nat) b_1]])
 h_10 fun (v : Value) (h_11 : Array Obj) ↦
 ∃ (b : Bool),
 v = TV.val (TV.bool b) ∧
 If (!b)
 (wok h_11 (Array.size h) (0 : Nat) (53 : Nat) ∧
 Vc.Bind
 (TV.put h_11 (Array.size h) (0 : Nat)
 (TV.agg
 [TV.int IntKind.i64 (0 : Int), TV.int IntKind.i64 (0 : Int),
 TV.bytes (32 : Nat) (Bs.zero (32 : Nat)),
 TV.int IntKind.i64 (0 : Int), TV.int IntKind.u64 (0 : Int),
 TV.slice Sl.nil, TV.bytes (16 : Nat) (Bs.zero (16 : Nat))]))
 fun (h_12 : Array Obj) ↦
 ∃ (n : Int),
 ∃ (n_5 : Int),
 ∃ (b : Bs (32 : Nat)),
 ∃ (n_6 : Int),
 ∃ (n_7 : Int),
 ∃ (s : Sl),
 ∃ (b_2 : Bs (16 : Nat)),
 (at1 h_12 (Array.size h) (0 : Nat)
 (Value.int IntKind.i64 n) ∧
 at1 h_12 (Array.size h) (1 : Nat)
 (Value.int IntKind.i64 n_5) ∧
 atBytes h_12 (Array.size h) (2 : Nat) (32 : Nat) b ∧
 at1 h_12 (Array.size h) (34 : Nat)
 (Value.int IntKind.i64 n_6) ∧
 at1 h_12 (Array.size h) (35 : Nat)
 (Value.int IntKind.u64 n_7) ∧
 at1 h_12 (Array.size h) (36 : Nat) (slVal s) ∧
 atBytes h_12 (Array.size h) (37 : Nat)
 (16 : Nat) b_2) ∧
 R
 (TV.val
 (TV.tup
 [TV.agg
 [TV.int IntKind.i64 n, TV.int IntKind.i64 n_5,
 TV.bytes (32 : Nat) b, TV.int IntKind.i64 n_6,
 TV.int IntKind.u64 n_7, TV.slice s,
 TV.bytes (16 : Nat) b_2],
 TV.bool false]))
 h_12)
 (∃ (n : Int),
 ∃ (n_5 : Int),
 ∃ (b : Bs (32 : Nat)),
 ∃ (n_6 : Int),
 ∃ (n_7 : Int),
 ∃ (s : Sl),
 ∃ (b_2 : Bs (16 : Nat)),
 (at1 h_11 (Array.size h_4) (0 : Nat) (Value.int IntKind.i64 n) ∧
 at1 h_11 (Array.size h_4) (1 : Nat)
 (Value.int IntKind.i64 n_5) ∧
 atBytes h_11 (Array.size h_4) (2 : Nat) (32 : Nat) b ∧
 at1 h_11 (Array.size h_4) (34 : Nat)
 (Value.int IntKind.i64 n_6) ∧
 at1 h_11 (Array.size h_4) (35 : Nat)
 (Value.int IntKind.u64 n_7) ∧
 at1 h_11 (Array.size h_4) (36 : Nat) (slVal s) ∧
 atBytes h_11 (Array.size h_4) (37 : Nat)
 (16 : Nat) b_2) ∧
 wok h_11 (Array.size h) (0 : Nat) (53 : Nat) ∧
 Vc.Bind
 (TV.put h_11 (Array.size h) (0 : Nat)
 (TV.agg
 [TV.int IntKind.i64 n, TV.int IntKind.i64 n_5,
 TV.bytes (32 : Nat) b, TV.int IntKind.i64 n_6,
 TV.int IntKind.u64 n_7, TV.slice s,
 TV.bytes (16 : Nat) b_2]))
 fun (h_12 : Array Obj) ↦
 ∃ (n : Int),
 ∃ (n_8 : Int),
 ∃ (b : Bs (32 : Nat)),
 ∃ (n_9 : Int),
 ∃ (n_10 : Int),
 ∃ (s : Sl),
 ∃ (b_3 : Bs (16 : Nat)),
 (at1 h_12 (Array.size h) (0 : Nat)
 (Value.int IntKind.i64 n) ∧
 at1 h_12 (Array.size h) (1 : Nat)
 (Value.int IntKind.i64 n_8) ∧
 atBytes h_12 (Array.size h) (2 : Nat)
 (32 : Nat) b ∧
 at1 h_12 (Array.size h) (34 : Nat)
 (Value.int IntKind.i64 n_9) ∧
 at1 h_12 (Array.size h) (35 : Nat)
 (Value.int IntKind.u64 n_10) ∧
 at1 h_12 (Array.size h)
 (36 : Nat) (slVal s) ∧
 atBytes h_12 (Array.size h)
 (37 : Nat) (16 : Nat) b_3) ∧
 R
 (TV.val
 (TV.tup
 [TV.agg
 [TV.int IntKind.i64 n,
 TV.int IntKind.i64 n_8,
 TV.bytes (32 : Nat) b,
 TV.int IntKind.i64 n_9,
 TV.int IntKind.u64 n_10,
 TV.slice s,
 TV.bytes (16 : Nat) b_3],
 TV.bool true]))
 h_12))) ∧
 ∀ (l : Go.Vc.Loc),
 (cutSl (Sl.mk (some (Loc.mk (Array.size h_4) (37 : Nat))) (16 : Nat) (16 : Nat)) (0 : Nat) (16 : Nat)
 (1 : Nat)).a =
 some l →
 wok h_9 l.b l.o
 (Nat.min (List.length s)
 (cutSl (Sl.mk (some (Loc.mk (Array.size h_4) (37 : Nat))) (16 : Nat) (16 : Nat)) (0 : Nat) (16 : Nat)
 (1 : Nat)).len) ∧
 Vc.Bind
 (putl h_9 l.b l.o
 (List.map (fun (c : UInt8) ↦ Value.int IntKind.u8 (↑(UInt8.toNat c) : Int))
 (List.take
 (Nat.min (List.length s)
 (cutSl (Sl.mk (some (Loc.mk (Array.size h_4) (37 : Nat))) (16 : Nat) (16 : Nat)) (0 : Nat)
 (16 : Nat) (1 : Nat)).len)
 s)))
 fun (h_10 : Array Obj) ↦
 CallsH Try.prog (84 : Nat) (TVs.vals [TV.ptr p]) h_10 fun (v : Value) (h_11 : Array Obj) ↦
 ∃ (b : Bool),
 v = TV.val (TV.bool b) ∧
 If (!b)
 (wok h_11 (Array.size h) (0 : Nat) (53 : Nat) ∧
 Vc.Bind
 (TV.put h_11 (Array.size h) (0 : Nat)
 (TV.agg
 [TV.int IntKind.i64 (0 : Int), TV.int IntKind.i64 (0 : Int),
 TV.bytes (32 : Nat) (Bs.zero (32 : Nat)), TV.int IntKind.i64 (0 : Int),
 TV.int IntKind.u64 (0 : Int), TV.slice Sl.nil,
 TV.bytes (16 : Nat) (Bs.zero (16 : Nat))]))
 fun (h_12 : Array Obj) ↦
 ∃ (n : Int),
 ∃ (n_2 : Int),
 ∃ (b : Bs (32 : Nat)),
 ∃ (n_3 : Int),
 ∃ (n_4 : Int),
 ∃ (s : Sl),
 ∃ (b_1 : Bs (16 : Nat)),
 (at1 h_12 (Array.size h) (0 : Nat) (Value.int IntKind.i64 n) ∧
 at1 h_12 (Array.size h) (1 : Nat) (Value.int IntKind.i64 n_2) ∧
 atBytes h_12 (Array.size h) (2 : Nat) (32 : Nat) b ∧
 at1 h_12 (Array.size h) (34 : Nat) (Value.int IntKind.i64 n_3) ∧
 at1 h_12 (Array.size h) (35 : Nat) (Value.int IntKind.u64 n_4) ∧
 at1 h_12 (Array.size h) (36 : Nat) (slVal s) ∧
 atBytes h_12 (Array.size h) (37 : Nat) (16 : Nat) b_1) ∧
 R
 (TV.val
 (TV.tup
 [TV.agg
 [TV.int IntKind.i64 n, TV.int IntKind.i64 n_2,
 TV.bytes (32 : Nat) b, TV.int IntKind.i64 n_3,
 TV.int IntKind.u64 n_4, TV.slice s, TV.bytes (16 : Nat) b_1],
 TV.bool false]))
 h_12)
 (∃ (n : Int),
 ∃ (n_2 : Int),
 ∃ (b : Bs (32 : Nat)),
 ∃ (n_3 : Int),
 ∃ (n_4 : Int),
 ∃ (s : Sl),
 ∃ (b_1 : Bs (16 : Nat)),
 (at1 h_11 (Array.size h_4) (0 : Nat) (Value.int IntKind.i64 n) ∧
 at1 h_11 (Array.size h_4) (1 : Nat) (Value.int IntKind.i64 n_2) ∧
 atBytes h_11 (Array.size h_4) (2 : Nat) (32 : Nat) b ∧
 at1 h_11 (Array.size h_4) (34 : Nat) (Value.int IntKind.i64 n_3) ∧
 at1 h_11 (Array.size h_4) (35 : Nat) (Value.int IntKind.u64 n_4) ∧
 at1 h_11 (Array.size h_4) (36 : Nat) (slVal s) ∧
 atBytes h_11 (Array.size h_4) (37 : Nat) (16 : Nat) b_1) ∧
 CallsH Try.prog (85 : Nat)
 (TVs.vals
 [TV.agg
 [TV.int IntKind.i64 n, TV.int IntKind.i64 n_2, TV.bytes (32 : Nat) b,
 TV.int IntKind.i64 n_3, TV.int IntKind.u64 n_4, TV.slice s,
 TV.bytes (16 : Nat) b_1]])
 h_11 fun (v : Value) (h_12 : Array Obj) ↦
 ∃ (b : Bool),
 v = TV.val (TV.bool b) ∧
 If (!b)
 (wok h_12 (Array.size h) (0 : Nat) (53 : Nat) ∧
 Vc.Bind
 (TV.put h_12 (Array.size h) (0 : Nat)
 (TV.agg
 [TV.int IntKind.i64 (0 : Int), TV.int IntKind.i64 (0 : Int),
 TV.bytes (32 : Nat) (Bs.zero (32 : Nat)),
 TV.int IntKind.i64 (0 : Int), TV.int IntKind.u64 (0 : Int),
 TV.slice Sl.nil, TV.bytes (16 : Nat) (Bs.zero (16 : Nat))]))
 fun (h_13 : Array Obj) ↦
 ∃ (n : Int),
 ∃ (n_5 : Int),
 ∃ (b : Bs (32 : Nat)),
 ∃ (n_6 : Int),
 ∃ (n_7 : Int),
 ∃ (s : Sl),
 ∃ (b_2 : Bs (16 : Nat)),
 (at1 h_13 (Array.size h) (0 : Nat)
 (Value.int IntKind.i64 n) ∧
 at1 h_13 (Array.size h) (1 : Nat)
 (Value.int IntKind.i64 n_5) ∧
 atBytes h_13 (Array.size h) (2 : Nat) (32 : Nat)
 b ∧
 at1 h_13 (Array.size h) (34 : Nat)
 (Value.int IntKind.i64 n_6) ∧
 at1 h_13 (Array.size h) (35 : Nat)
 (Value.int IntKind.u64 n_7) ∧
 at1 h_13 (Array.size h) (36 : Nat)
 (slVal s) ∧
 atBytes h_13 (Array.size h) (37 : Nat)
 (16 : Nat) b_2) ∧
 R
 (TV.val
 (TV.tup
 [TV.agg
 [TV.int IntKind.i64 n,
 TV.int IntKind.i64 n_5,
 TV.bytes (32 : Nat) b,
 TV.int IntKind.i64 n_6,
 TV.int IntKind.u64 n_7, TV.slice s,
 TV.bytes (16 : Nat) b_2],
 TV.bool false]))
 h_13)
 (∃ (n : Int),
 ∃ (n_5 : Int),
 ∃ (b : Bs (32 : Nat)),
 ∃ (n_6 : Int),
 ∃ (n_7 : Int),
 ∃ (s : Sl),
 ∃ (b_2 : Bs (16 : Nat)),
 (at1 h_12 (Array.size h_4) (0 : Nat)
 (Value.int IntKind.i64 n) ∧
 at1 h_12 (Array.size h_4) (1 : Nat)
 (Value.int IntKind.i64 n_5) ∧
 atBytes h_12 (Array.size h_4) (2 : Nat) (32 : Nat)
 b ∧
 at1 h_12 (Array.size h_4) (34 : Nat)
 (Value.int IntKind.i64 n_6) ∧
 at1 h_12 (Array.size h_4) (35 : Nat)
 (Value.int IntKind.u64 n_7) ∧
 at1 h_12 (Array.size h_4) (36 : Nat)
 (slVal s) ∧
 atBytes h_12 (Array.size h_4) (37 : Nat)
 (16 : Nat) b_2) ∧
 wok h_12 (Array.size h) (0 : Nat) (53 : Nat) ∧
 Vc.Bind
 (TV.put h_12 (Array.size h) (0 : Nat)
 (TV.agg
 [TV.int IntKind.i64 n, TV.int IntKind.i64 n_5,
 TV.bytes (32 : Nat) b, TV.int IntKind.i64 n_6,
 TV.int IntKind.u64 n_7, TV.slice s,
 TV.bytes (16 : Nat) b_2]))
 fun (h_13 : Array Obj) ↦
 ∃ (n : Int),
 ∃ (n_8 : Int),
 ∃ (b : Bs (32 : Nat)),
 ∃ (n_9 : Int),
 ∃ (n_10 : Int),
 ∃ (s : Sl),
 ∃ (b_3 : Bs (16 : Nat)),
 (at1 h_13 (Array.size h) (0 : Nat)
 (Value.int IntKind.i64 n) ∧
 at1 h_13 (Array.size h) (1 : Nat)
 (Value.int IntKind.i64 n_8) ∧
 atBytes h_13 (Array.size h)
 (2 : Nat) (32 : Nat) b ∧
 at1 h_13 (Array.size h)
 (34 : Nat)
 (Value.int IntKind.i64
 n_9) ∧
 at1 h_13 (Array.size h)
 (35 : Nat)
 (Value.int IntKind.u64
 n_10) ∧
 at1 h_13 (Array.size h)
 (36 : Nat) (slVal s) ∧
 atBytes h_13
 (Array.size h)
 (37 : Nat) (16 : Nat)
 b_3) ∧
 R
 (TV.val
 (TV.tup
 [TV.agg
 [TV.int IntKind.i64 n,
 TV.int IntKind.i64 n_8,
 TV.bytes (32 : Nat) b,
 TV.int IntKind.i64 n_9,
 TV.int IntKind.u64 n_10,
 TV.slice s,
 TV.bytes (16 : Nat)
 b_3],
 TV.bool true]))
 h_13)))
 fun (J : Bool → Array Obj → Prop) ↦
 ∃ (n : Int),
 at1 h_7 (Array.size h_4) (0 : Nat) (Value.int IntKind.i64 n) ∧
 If (decide (n = (1 : Int)))
 (CallsH Try.prog (80 : Nat) (TVs.vals [TV.ptr p, TV.int IntKind.i64 (2 : Int)]) h_7
 fun (v : Value) (h : Array Obj) ↦
 ∃ (n : Int),
 v = TV.val (TV.int IntKind.u64 n) ∧
 CallsH Try.prog (80 : Nat) (TVs.vals [TV.ptr p, TV.int IntKind.i64 (8 : Int)]) h
 fun (v : Value) (h : Array Obj) ↦
 ∃ (n_2 : Int),
 v = TV.val (TV.int IntKind.u64 n_2) ∧
 wok h (Array.size h_4) (34 : Nat) (1 : Nat) ∧
 Vc.Bind (TV.put h (Array.size h_4) (34 : Nat) (TV.int IntKind.i64 (IntKind.wrap IntKind.i64 n)))
 fun (h : Array Obj) ↦
 wok h (Array.size h_4) (35 : Nat) (1 : Nat) ∧
 Vc.Bind (TV.put h (Array.size h_4) (35 : Nat) (TV.int IntKind.u64 n_2)) fun (h : Array Obj) ↦
 J false h)
 (If (decide (n = (2 : Int)))
 (CallsH Try.prog (80 : Nat) (TVs.vals [TV.ptr p, TV.int IntKind.i64 (2 : Int)]) h_7
 fun (v : Value) (h : Array Obj) ↦
 ∃ (n : Int),
 v = TV.val (TV.int IntKind.u64 n) ∧
 wok h (Array.size h_4) (34 : Nat) (1 : Nat) ∧
 Vc.Bind (TV.put h (Array.size h_4) (34 : Nat) (TV.int IntKind.i64 (IntKind.wrap IntKind.i64 n)))
 fun (h : Array Obj) ↦ J false h)
 (If (decide (n = (3 : Int)))
 (CallsH Try.prog (83 : Nat) (TVs.vals [TV.ptr p]) h_7 fun (v : Value) (h_8 : Array Obj) ↦
 ∃ (n : Int),
 v = TV.val (TV.int IntKind.i64 n) ∧
 CallsH Try.prog (81 : Nat)
 (TVs.vals [TV.ptr p, TV.int IntKind.i64 (IntKind.wrap IntKind.i64 (n - (16 : Int)))]) h_8
 fun (v : Value) (h_9 : Array Obj) ↦
 ∃ (s : List UInt8),
 v = TV.val (TV.str s) ∧
 CallsH Try.prog (82 : Nat) (TVs.vals [TV.str s, TV.int IntKind.i64 (16 : Int)]) h_9
 fun (v : Value) (h_10 : Array Obj) ↦
 ∃ (s : Sl),
 ∃ (b : Bool),
 v = TV.val (TV.tup [TV.slice s, TV.bool b]) ∧
 If (!b)
 (wok h_10 (Array.size h) (0 : Nat) (53 : Nat) ∧
 Vc.Bind
 (TV.put h_10 (Array.size h) (0 : Nat)
 (TV.agg
 [TV.int IntKind.i64 (0 : Int), TV.int IntKind.i64 (0 : Int),
 TV.bytes (32 : Nat) (Bs.zero (32 : Nat)), TV.int IntKind.i64 (0 : Int),
 TV.int IntKind.u64 (0 : Int), TV.slice Sl.nil,
 TV.bytes (16 : Nat) (Bs.zero (16 : Nat))]))
 fun (h_11 : Array Obj) ↦
 ∃ (n : Int),
 ∃ (n_2 : Int),
 ∃ (b : Bs (32 : Nat)),
 ∃ (n_3 : Int),
 ∃ (n_4 : Int),
 ∃ (s : Sl),
 ∃ (b_1 : Bs (16 : Nat)),
 (at1 h_11 (Array.size h) (0 : Nat) (Value.int IntKind.i64 n) ∧
 at1 h_11 (Array.size h) (1 : Nat) (Value.int IntKind.i64 n_2) ∧
 atBytes h_11 (Array.size h) (2 : Nat) (32 : Nat) b ∧
 at1 h_11 (Array.size h) (34 : Nat) (Value.int IntKind.i64 n_3) ∧
 at1 h_11 (Array.size h) (35 : Nat)
 (Value.int IntKind.u64 n_4) ∧
 at1 h_11 (Array.size h) (36 : Nat) (slVal s) ∧
 atBytes h_11 (Array.size h) (37 : Nat) (16 : Nat) b_1) ∧
 R
 (TV.val
 (TV.tup
 [TV.agg
 [TV.int IntKind.i64 n, TV.int IntKind.i64 n_2,
 TV.bytes (32 : Nat) b, TV.int IntKind.i64 n_3,
 TV.int IntKind.u64 n_4, TV.slice s,
 TV.bytes (16 : Nat) b_1],
 TV.bool false]))
 h_11)
 (wok h_10 (Array.size h_4) (36 : Nat) (1 : Nat) ∧
 Vc.Bind (TV.put h_10 (Array.size h_4) (36 : Nat) (TV.slice s)) fun (h : Array Obj) ↦
 J false h))
 (J false h_7)))) ∧
 ∀ (l : Go.Vc.Loc),
 (cutSl (Sl.mk (some (Loc.mk (Array.size h_4) (2 : Nat))) (32 : Nat) (32 : Nat)) (0 : Nat) (32 : Nat) (1 : Nat)).a = some l →
 wok h_7 l.b l.o
 (Nat.min (List.length s)
 (cutSl (Sl.mk (some (Loc.mk (Array.size h_4) (2 : Nat))) (32 : Nat) (32 : Nat)) (0 : Nat) (32 : Nat)
 (1 : Nat)).len) ∧
 Vc.Bind
 (putl h_7 l.b l.o
 (List.map (fun (c : UInt8) ↦ Value.int IntKind.u8 (↑(UInt8.toNat c) : Int))
 (List.take
 (Nat.min (List.length s)
 (cutSl (Sl.mk (some (Loc.mk (Array.size h_4) (2 : Nat))) (32 : Nat) (32 : Nat)) (0 : Nat) (32 : Nat)
 (1 : Nat)).len)
 s)))
 fun (h_8 : Array Obj) ↦
 Join
 (fun (s : Bool) (h_9 : Array Obj) ↦
 CallsH Try.prog (81 : Nat) (TVs.vals [TV.ptr p, TV.int IntKind.i64 (16 : Int)]) h_9
 fun (v : Value) (h_10 : Array Obj) ↦
 ∃ (s : List UInt8),
 v = TV.val (TV.str s) ∧
 ((cutSl (Sl.mk (some (Loc.mk (Array.size h_4) (37 : Nat))) (16 : Nat) (16 : Nat)) (0 : Nat) (16 : Nat)
 (1 : Nat)).a =
 none →
 CallsH Try.prog (84 : Nat) (TVs.vals [TV.ptr p]) h_10 fun (v : Value) (h_11 : Array Obj) ↦
 ∃ (b : Bool),
 v = TV.val (TV.bool b) ∧
 If (!b)
 (wok h_11 (Array.size h) (0 : Nat) (53 : Nat) ∧
 Vc.Bind
 (TV.put h_11 (Array.size h) (0 : Nat)
 (TV.agg
 [TV.int IntKind.i64 (0 : Int), TV.int IntKind.i64 (0 : Int),
 TV.bytes (32 : Nat) (Bs.zero (32 : Nat)), TV.int IntKind.i64 (0 : Int),
 TV.int IntKind.u64 (0 : Int), TV.slice Sl.nil,
 TV.bytes (16 : Nat) (Bs.zero (16 : Nat))]))
 fun (h_12 : Array Obj) ↦
 ∃ (n : Int),
 ∃ (n_2 : Int),
 ∃ (b : Bs (32 : Nat)),
 ∃ (n_3 : Int),
 ∃ (n_4 : Int),
 ∃ (s : Sl),
 ∃ (b_1 : Bs (16 : Nat)),
 (at1 h_12 (Array.size h) (0 : Nat) (Value.int IntKind.i64 n) ∧
 at1 h_12 (Array.size h) (1 : Nat) (Value.int IntKind.i64 n_2) ∧
 atBytes h_12 (Array.size h) (2 : Nat) (32 : Nat) b ∧
 at1 h_12 (Array.size h) (34 : Nat) (Value.int IntKind.i64 n_3) ∧
 at1 h_12 (Array.size h) (35 : Nat) (Value.int IntKind.u64 n_4) ∧
 at1 h_12 (Array.size h) (36 : Nat) (slVal s) ∧
 atBytes h_12 (Array.size h) (37 : Nat) (16 : Nat) b_1) ∧
 R
 (TV.val
 (TV.tup
 [TV.agg
 [TV.int IntKind.i64 n, TV.int IntKind.i64 n_2,
 TV.bytes (32 : Nat) b, TV.int IntKind.i64 n_3,
 TV.int IntKind.u64 n_4, TV.slice s, TV.bytes (16 : Nat) b_1],
 TV.bool false]))
 h_12)
 (∃ (n : Int),
 ∃ (n_2 : Int),
 ∃ (b : Bs (32 : Nat)),
 ∃ (n_3 : Int),
 ∃ (n_4 : Int),
 ∃ (s : Sl),
 ∃ (b_1 : Bs (16 : Nat)),
 (at1 h_11 (Array.size h_4) (0 : Nat) (Value.int IntKind.i64 n) ∧
 at1 h_11 (Array.size h_4) (1 : Nat) (Value.int IntKind.i64 n_2) ∧
 atBytes h_11 (Array.size h_4) (2 : Nat) (32 : Nat) b ∧
 at1 h_11 (Array.size h_4) (34 : Nat) (Value.int IntKind.i64 n_3) ∧
 at1 h_11 (Array.size h_4) (35 : Nat) (Value.int IntKind.u64 n_4) ∧
 at1 h_11 (Array.size h_4) (36 : Nat) (slVal s) ∧
 atBytes h_11 (Array.size h_4) (37 : Nat) (16 : Nat) b_1) ∧
 CallsH Try.prog (85 : Nat)
 (TVs.vals
 [TV.agg
 [TV.int IntKind.i64 n, TV.int IntKind.i64 n_2, TV.bytes (32 : Nat) b,
 TV.int IntKind.i64 n_3, TV.int IntKind.u64 n_4, TV.slice s,
 TV.bytes (16 : Nat) b_1]])
 h_11 fun (v : Value) (h_12 : Array Obj) ↦
 ∃ (b : Bool),
 v = TV.val (TV.bool b) ∧
 If (!b)
 (wok h_12 (Array.size h) (0 : Nat) (53 : Nat) ∧
 Vc.Bind
 (TV.put h_12 (Array.size h) (0 : Nat)
 (TV.agg
 [TV.int IntKind.i64 (0 : Int), TV.int IntKind.i64 (0 : Int),
 TV.bytes (32 : Nat) (Bs.zero (32 : Nat)),
 TV.int IntKind.i64 (0 : Int), TV.int IntKind.u64 (0 : Int),
 TV.slice Sl.nil, TV.bytes (16 : Nat) (Bs.zero (16 : Nat))]))
 fun (h_13 : Array Obj) ↦
 ∃ (n : Int),
 ∃ (n_5 : Int),
 ∃ (b : Bs (32 : Nat)),
 ∃ (n_6 : Int),
 ∃ (n_7 : Int),
 ∃ (s : Sl),
 ∃ (b_2 : Bs (16 : Nat)),
 (at1 h_13 (Array.size h) (0 : Nat)
 (Value.int IntKind.i64 n) ∧
 at1 h_13 (Array.size h) (1 : Nat)
 (Value.int IntKind.i64 n_5) ∧
 atBytes h_13 (Array.size h) (2 : Nat) (32 : Nat)
 b ∧
 at1 h_13 (Array.size h) (34 : Nat)
 (Value.int IntKind.i64 n_6) ∧
 at1 h_13 (Array.size h) (35 : Nat)
 (Value.int IntKind.u64 n_7) ∧
 at1 h_13 (Array.size h) (36 : Nat)
 (slVal s) ∧
 atBytes h_13 (Array.size h) (37 : Nat)
 (16 : Nat) b_2) ∧
 R
 (TV.val
 (TV.tup
 [TV.agg
 [TV.int IntKind.i64 n,
 TV.int IntKind.i64 n_5,
 TV.bytes (32 : Nat) b,
 TV.int IntKind.i64 n_6,
 TV.int IntKind.u64 n_7, TV.slice s,
 TV.bytes (16 : Nat) b_2],
 TV.bool false]))
 h_13)
 (∃ (n : Int),
 ∃ (n_5 : Int),
 ∃ (b : Bs (32 : Nat)),
 ∃ (n_6 : Int),
 ∃ (n_7 : Int),
 ∃ (s : Sl),
 ∃ (b_2 : Bs (16 : Nat)),
 (at1 h_12 (Array.size h_4) (0 : Nat)
 (Value.int IntKind.i64 n) ∧
 at1 h_12 (Array.size h_4) (1 : Nat)
 (Value.int IntKind.i64 n_5) ∧
 atBytes h_12 (Array.size h_4) (2 : Nat) (32 : Nat)
 b ∧
 at1 h_12 (Array.size h_4) (34 : Nat)
 (Value.int IntKind.i64 n_6) ∧
 at1 h_12 (Array.size h_4) (35 : Nat)
 (Value.int IntKind.u64 n_7) ∧
 at1 h_12 (Array.size h_4) (36 : Nat)
 (slVal s) ∧
 atBytes h_12 (Array.size h_4) (37 : Nat)
 (16 : Nat) b_2) ∧
 wok h_12 (Array.size h) (0 : Nat) (53 : Nat) ∧
 Vc.Bind
 (TV.put h_12 (Array.size h) (0 : Nat)
 (TV.agg
 [TV.int IntKind.i64 n, TV.int IntKind.i64 n_5,
 TV.bytes (32 : Nat) b, TV.int IntKind.i64 n_6,
 TV.int IntKind.u64 n_7, TV.slice s,
 TV.bytes (16 : Nat) b_2]))
 fun (h_13 : Array Obj) ↦
 ∃ (n : Int),
 ∃ (n_8 : Int),
 ∃ (b : Bs (32 : Nat)),
 ∃ (n_9 : Int),
 ∃ (n_10 : Int),
 ∃ (s : Sl),
 ∃ (b_3 : Bs (16 : Nat)),
 (at1 h_13 (Array.size h) (0 : Nat)
 (Value.int IntKind.i64 n) ∧
 at1 h_13 (Array.size h) (1 : Nat)
 (Value.int IntKind.i64 n_8) ∧
 atBytes h_13 (Array.size h)
 (2 : Nat) (32 : Nat) b ∧
 at1 h_13 (Array.size h)
 (34 : Nat)
 (Value.int IntKind.i64
 n_9) ∧
 at1 h_13 (Array.size h)
 (35 : Nat)
 (Value.int IntKind.u64
 n_10) ∧
 at1 h_13 (Array.size h)
 (36 : Nat) (slVal s) ∧
 atBytes h_13
 (Array.size h)
 (37 : Nat) (16 : Nat)
 b_3) ∧
 R
 (TV.val
 (TV.tup
 [TV.agg
 [TV.int IntKind.i64 n,
 TV.int IntKind.i64 n_8,
 TV.bytes (32 : Nat) b,
 TV.int IntKind.i64 n_9,
 TV.int IntKind.u64 n_10,
 TV.slice s,
 TV.bytes (16 : Nat)
 b_3],
 TV.bool true]))
 h_13))) ∧
 ∀ (l : Go.Vc.Loc),
 (cutSl (Sl.mk (some (Loc.mk (Array.size h_4) (37 : Nat))) (16 : Nat) (16 : Nat)) (0 : Nat) (16 : Nat)
 (1 : Nat)).a =
 some l →
 wok h_10 l.b l.o
 (Nat.min (List.length s)
 (cutSl (Sl.mk (some (Loc.mk (Array.size h_4) (37 : Nat))) (16 : Nat) (16 : Nat)) (0 : Nat)
 (16 : Nat) (1 : Nat)).len) ∧
 Vc.Bind
 (putl h_10 l.b l.o
 (List.map (fun (c : UInt8) ↦ Value.int IntKind.u8 (↑(UInt8.toNat c) : Int))
 (List.take
 (Nat.min (List.length s)
 (cutSl (Sl.mk (some (Loc.mk (Array.size h_4) (37 : Nat))) (16 : Nat) (16 : Nat)) (0 : Nat)
 (16 : Nat) (1 : Nat)).len)
 s)))
 fun (h_11 : Array Obj) ↦
 CallsH Try.prog (84 : Nat) (TVs.vals [TV.ptr p]) h_11 fun (v : Value) (h_12 : Array Obj) ↦
 ∃ (b : Bool),
 v = TV.val (TV.bool b) ∧
 If (!b)
 (wok h_12 (Array.size h) (0 : Nat) (53 : Nat) ∧
 Vc.Bind
 (TV.put h_12 (Array.size h) (0 : Nat)
 (TV.agg
 [TV.int IntKind.i64 (0 : Int), TV.int IntKind.i64 (0 : Int),
 TV.bytes (32 : Nat) (Bs.zero (32 : Nat)), TV.int IntKind.i64 (0 : Int),
 TV.int IntKind.u64 (0 : Int), TV.slice Sl.nil,
 TV.bytes (16 : Nat) (Bs.zero (16 : Nat))]))
 fun (h_13 : Array Obj) ↦
 ∃ (n : Int),
 ∃ (n_2 : Int),
 ∃ (b : Bs (32 : Nat)),
 ∃ (n_3 : Int),
 ∃ (n_4 : Int),
 ∃ (s : Sl),
 ∃ (b_1 : Bs (16 : Nat)),
 (at1 h_13 (Array.size h) (0 : Nat) (Value.int IntKind.i64 n) ∧
 at1 h_13 (Array.size h) (1 : Nat) (Value.int IntKind.i64 n_2) ∧
 atBytes h_13 (Array.size h) (2 : Nat) (32 : Nat) b ∧
 at1 h_13 (Array.size h) (34 : Nat) (Value.int IntKind.i64 n_3) ∧
 at1 h_13 (Array.size h) (35 : Nat)
 (Value.int IntKind.u64 n_4) ∧
 at1 h_13 (Array.size h) (36 : Nat) (slVal s) ∧
 atBytes h_13 (Array.size h) (37 : Nat) (16 : Nat) b_1) ∧
 R
 (TV.val
 (TV.tup
 [TV.agg
 [TV.int IntKind.i64 n, TV.int IntKind.i64 n_2,
 TV.bytes (32 : Nat) b, TV.int IntKind.i64 n_3,
 TV.int IntKind.u64 n_4, TV.slice s,
 TV.bytes (16 : Nat) b_1],
 TV.bool false]))
 h_13)
 (∃ (n : Int),
 ∃ (n_2 : Int),
 ∃ (b : Bs (32 : Nat)),
 ∃ (n_3 : Int),
 ∃ (n_4 : Int),
 ∃ (s : Sl),
 ∃ (b_1 : Bs (16 : Nat)),
 (at1 h_12 (Array.size h_4) (0 : Nat) (Value.int IntKind.i64 n) ∧
 at1 h_12 (Array.size h_4) (1 : Nat) (Value.int IntKind.i64 n_2) ∧
 atBytes h_12 (Array.size h_4) (2 : Nat) (32 : Nat) b ∧
 at1 h_12 (Array.size h_4) (34 : Nat) (Value.int IntKind.i64 n_3) ∧
 at1 h_12 (Array.size h_4) (35 : Nat) (Value.int IntKind.u64 n_4) ∧
 at1 h_12 (Array.size h_4) (36 : Nat) (slVal s) ∧
 atBytes h_12 (Array.size h_4) (37 : Nat) (16 : Nat) b_1) ∧
 CallsH Try.prog (85 : Nat)
 (TVs.vals
 [TV.agg
 [TV.int IntKind.i64 n, TV.int IntKind.i64 n_2,
 TV.bytes (32 : Nat) b, TV.int IntKind.i64 n_3,
 TV.int IntKind.u64 n_4, TV.slice s, TV.bytes (16 : Nat) b_1]])
 h_12 fun (v : Value) (h_13 : Array Obj) ↦
 ∃ (b : Bool),
 v = TV.val (TV.bool b) ∧
 If (!b)
 (wok h_13 (Array.size h) (0 : Nat) (53 : Nat) ∧
 Vc.Bind
 (TV.put h_13 (Array.size h) (0 : Nat)
 (TV.agg
 [TV.int IntKind.i64 (0 : Int),
 TV.int IntKind.i64 (0 : Int),
 TV.bytes (32 : Nat) (Bs.zero (32 : Nat)),
 TV.int IntKind.i64 (0 : Int),
 TV.int IntKind.u64 (0 : Int), TV.slice Sl.nil,
 TV.bytes (16 : Nat) (Bs.zero (16 : Nat))]))
 fun (h_14 : Array Obj) ↦
 ∃ (n : Int),
 ∃ (n_5 : Int),
 ∃ (b : Bs (32 : Nat)),
 ∃ (n_6 : Int),
 ∃ (n_7 : Int),
 ∃ (s : Sl),
 ∃ (b_2 : Bs (16 : Nat)),
 (at1 h_14 (Array.size h) (0 : Nat)
 (Value.int IntKind.i64 n) ∧
 at1 h_14 (Array.size h) (1 : Nat)
 (Value.int IntKind.i64 n_5) ∧
 atBytes h_14 (Array.size h) (2 : Nat)
 (32 : Nat) b ∧
 at1 h_14 (Array.size h) (34 : Nat)
 (Value.int IntKind.i64 n_6) ∧
 at1 h_14 (Array.size h) (35 : Nat)
 (Value.int IntKind.u64 n_7) ∧
 at1 h_14 (Array.size h) (36 : Nat)
 (slVal s) ∧
 atBytes h_14 (Array.size h)
 (37 : Nat) (16 : Nat) b_2) ∧
 R
 (TV.val
 (TV.tup
 [TV.agg
 [TV.int IntKind.i64 n,
 TV.int IntKind.i64 n_5,
 TV.bytes (32 : Nat) b,
 TV.int IntKind.i64 n_6,
 TV.int IntKind.u64 n_7,
 TV.slice s,
 TV.bytes (16 : Nat) b_2],
 TV.bool false]))
 h_14)
 (∃ (n : Int),
 ∃ (n_5 : Int),
 ∃ (b : Bs (32 : Nat)),
 ∃ (n_6 : Int),
 ∃ (n_7 : Int),
 ∃ (s : Sl),
 ∃ (b_2 : Bs (16 : Nat)),
 (at1 h_13 (Array.size h_4) (0 : Nat)
 (Value.int IntKind.i64 n) ∧
 at1 h_13 (Array.size h_4) (1 : Nat)
 (Value.int IntKind.i64 n_5) ∧
 atBytes h_13 (Array.size h_4) (2 : Nat)
 (32 : Nat) b ∧
 at1 h_13 (Array.size h_4) (34 : Nat)
 (Value.int IntKind.i64 n_6) ∧
 at1 h_13 (Array.size h_4) (35 : Nat)
 (Value.int IntKind.u64 n_7) ∧
 at1 h_13 (Array.size h_4) (36 : Nat)
 (slVal s) ∧
 atBytes h_13 (Array.size h_4)
 (37 : Nat) (16 : Nat) b_2) ∧
 wok h_13 (Array.size h) (0 : Nat) (53 : Nat) ∧
 Vc.Bind
 (TV.put h_13 (Array.size h) (0 : Nat)
 (TV.agg
 [TV.int IntKind.i64 n,
 TV.int IntKind.i64 n_5,
 TV.bytes (32 : Nat) b,
 TV.int IntKind.i64 n_6,
 TV.int IntKind.u64 n_7, TV.slice s,
 TV.bytes (16 : Nat) b_2]))
 fun (h_14 : Array Obj) ↦
 ∃ (n : Int),
 ∃ (n_8 : Int),
 ∃ (b : Bs (32 : Nat)),
 ∃ (n_9 : Int),
 ∃ (n_10 : Int),
 ∃ (s : Sl),
 ∃ (b_3 : Bs (16 : Nat)),
 (at1 h_14 (Array.size h)
 (0 : Nat)
 (Value.int IntKind.i64
 n) ∧
 at1 h_14 (Array.size h)
 (1 : Nat)
 (Value.int IntKind.i64
 n_8) ∧
 atBytes h_14
 (Array.size h)
 (2 : Nat) (32 : Nat)
 b ∧
 at1 h_14 (Array.size h)
 (34 : Nat)
 (Value.int
 IntKind.i64 n_9) ∧
 at1 h_14
 (Array.size h)
 (35 : Nat)
 (Value.int
 IntKind.u64
 n_10) ∧
 at1 h_14
 (Array.size h)
 (36 : Nat)
 (slVal s) ∧
 atBytes h_14
 (Array.size h)
 (37 : Nat)
 (16 : Nat)
 b_3) ∧
 R
 (TV.val
 (TV.tup
 [TV.agg
 [TV.int IntKind.i64
 n,
 TV.int IntKind.i64
 n_8,
 TV.bytes
 (32 : Nat) b,
 TV.int IntKind.i64
 n_9,
 TV.int IntKind.u64
 n_10,
 TV.slice s,
 TV.bytes
 (16 : Nat) b_3],
 TV.bool true]))
 h_14)))
 fun (J : Bool → Array Obj → Prop) ↦
 ∃ (n : Int),
 at1 h_8 (Array.size h_4) (0 : Nat) (Value.int IntKind.i64 n) ∧
 If (decide (n = (1 : Int)))
 (CallsH Try.prog (80 : Nat) (TVs.vals [TV.ptr p, TV.int IntKind.i64 (2 : Int)]) h_8
 fun (v : Value) (h : Array Obj) ↦
 ∃ (n : Int),
 v = TV.val (TV.int IntKind.u64 n) ∧
 CallsH Try.prog (80 : Nat) (TVs.vals [TV.ptr p, TV.int IntKind.i64 (8 : Int)]) h
 fun (v : Value) (h : Array Obj) ↦
 ∃ (n_2 : Int),
 v = TV.val (TV.int IntKind.u64 n_2) ∧
 wok h (Array.size h_4) (34 : Nat) (1 : Nat) ∧
 Vc.Bind (TV.put h (Array.size h_4) (34 : Nat) (TV.int IntKind.i64 (IntKind.wrap IntKind.i64 n)))
 fun (h : Array Obj) ↦
 wok h (Array.size h_4) (35 : Nat) (1 : Nat) ∧
 Vc.Bind (TV.put h (Array.size h_4) (35 : Nat) (TV.int IntKind.u64 n_2))
 fun (h : Array Obj) ↦ J false h)
 (If (decide (n = (2 : Int)))
 (CallsH Try.prog (80 : Nat) (TVs.vals [TV.ptr p, TV.int IntKind.i64 (2 : Int)]) h_8
 fun (v : Value) (h : Array Obj) ↦
 ∃ (n : Int),
 v = TV.val (TV.int IntKind.u64 n) ∧
 wok h (Array.size h_4) (34 : Nat) (1 : Nat) ∧
 Vc.Bind (TV.put h (Array.size h_4) (34 : Nat) (TV.int IntKind.i64 (IntKind.wrap IntKind.i64 n)))
 fun (h : Array Obj) ↦ J false h)
 (If (decide (n = (3 : Int)))
 (CallsH Try.prog (83 : Nat) (TVs.vals [TV.ptr p]) h_8 fun (v : Value) (h_9 : Array Obj) ↦
 ∃ (n : Int),
 v = TV.val (TV.int IntKind.i64 n) ∧
 CallsH Try.prog (81 : Nat)
 (TVs.vals [TV.ptr p, TV.int IntKind.i64 (IntKind.wrap IntKind.i64 (n - (16 : Int)))]) h_9
 fun (v : Value) (h_10 : Array Obj) ↦
 ∃ (s : List UInt8),
 v = TV.val (TV.str s) ∧
 CallsH Try.prog (82 : Nat) (TVs.vals [TV.str s, TV.int IntKind.i64 (16 : Int)]) h_10
 fun (v : Value) (h_11 : Array Obj) ↦
 ∃ (s : Sl),
 ∃ (b : Bool),
 v = TV.val (TV.tup [TV.slice s, TV.bool b]) ∧
 If (!b)
 (wok h_11 (Array.size h) (0 : Nat) (53 : Nat) ∧
 Vc.Bind
 (TV.put h_11 (Array.size h) (0 : Nat)
 (TV.agg
 [TV.int IntKind.i64 (0 : Int), TV.int IntKind.i64 (0 : Int),
 TV.bytes (32 : Nat) (Bs.zero (32 : Nat)), TV.int IntKind.i64 (0 : Int),
 TV.int IntKind.u64 (0 : Int), TV.slice Sl.nil,
 TV.bytes (16 : Nat) (Bs.zero (16 : Nat))]))
 fun (h_12 : Array Obj) ↦
 ∃ (n : Int),
 ∃ (n_2 : Int),
 ∃ (b : Bs (32 : Nat)),
 ∃ (n_3 : Int),
 ∃ (n_4 : Int),
 ∃ (s : Sl),
 ∃ (b_1 : Bs (16 : Nat)),
 (at1 h_12 (Array.size h) (0 : Nat) (Value.int IntKind.i64 n) ∧
 at1 h_12 (Array.size h) (1 : Nat)
 (Value.int IntKind.i64 n_2) ∧
 atBytes h_12 (Array.size h) (2 : Nat) (32 : Nat) b ∧
 at1 h_12 (Array.size h) (34 : Nat)
 (Value.int IntKind.i64 n_3) ∧
 at1 h_12 (Array.size h) (35 : Nat)
 (Value.int IntKind.u64 n_4) ∧
 at1 h_12 (Array.size h) (36 : Nat) (slVal s) ∧
 atBytes h_12 (Array.size h) (37 : Nat) (16 : Nat)
 b_1) ∧
 R
 (TV.val
 (TV.tup
 [TV.agg
 [TV.int IntKind.i64 n, TV.int IntKind.i64 n_2,
 TV.bytes (32 : Nat) b, TV.int IntKind.i64 n_3,
 TV.int IntKind.u64 n_4, TV.slice s,
 TV.bytes (16 : Nat) b_1],
 TV.bool false]))
 h_12)
 (wok h_11 (Array.size h_4) (36 : Nat) (1 : Nat) ∧
 Vc.Bind (TV.put h_11 (Array.size h_4) (36 : Nat) (TV.slice s))
 fun (h : Array Obj) ↦ J false h))
 (J false h_8)))

theorem wire_Decode_calls (s_ : List UInt8) (h : Heap) (R : Value → Heap → Prop) (H : wire_Decode_vc s_ h R) : CallsH Try.prog 53 (TVs.vals [TV.str s_]) h R :=
 vcFn_sound (C := ctx) ctx_ok (fn := Try.f53) Try.func53 ((by kernel_rfl : wire_Decode_vc s_ h R = vcFn ctx Try.f53 [TV.str s_] h R) ▸ H)


def wire_Root_vc (m_Kind : Int) (m_Slot : Int) (m_Target : Bs (32 : Nat)) (m_Member : Int) (m_Body : Int) (m_Bits : Sl) (m_Tag : Bs (16 : Nat)) (h : Heap) (R : Value → Heap → Prop) : Prop :=
 Vc.Bind
 (newTV h
 (TV.agg
 [TV.int IntKind.i64 m_Kind, TV.int IntKind.i64 m_Slot, TV.bytes (32 : Nat) m_Target, TV.int IntKind.i64 m_Member, TV.int IntKind.u64 m_Body,
 TV.slice m_Bits, TV.bytes (16 : Nat) m_Tag])
 (63 : Nat))
 fun (h_1 : Array Obj) ↦
 Vc.Bind (newTV h_1 (TV.bytes (32 : Nat) (Bs.zero (32 : Nat))) (50 : Nat)) fun (h_2 : Array Obj) ↦
 ∃ (n : Int),
 ∃ (n_1 : Int),
 ∃ (b : Bs (32 : Nat)),
 ∃ (n_2 : Int),
 ∃ (n_3 : Int),
 ∃ (s : Sl),
 ∃ (b_1 : Bs (16 : Nat)),
 (at1 h_2 (Array.size h) (0 : Nat) (Value.int IntKind.i64 n) ∧
 at1 h_2 (Array.size h) (1 : Nat) (Value.int IntKind.i64 n_1) ∧
 atBytes h_2 (Array.size h) (2 : Nat) (32 : Nat) b ∧
 at1 h_2 (Array.size h) (34 : Nat) (Value.int IntKind.i64 n_2) ∧
 at1 h_2 (Array.size h) (35 : Nat) (Value.int IntKind.u64 n_3) ∧
 at1 h_2 (Array.size h) (36 : Nat) (slVal s) ∧ atBytes h_2 (Array.size h) (37 : Nat) (16 : Nat) b_1) ∧
 ∃ (bs : List UInt8),
 strAt h_2 (cutSl (Sl.mk (some (Loc.mk (Array.size h) (37 : Nat))) (16 : Nat) (16 : Nat)) (0 : Nat) (16 : Nat) (1 : Nat)) bs ∧
 CallsH Try.prog (92 : Nat)
 (TVs.vals
 [TV.agg
 [TV.int IntKind.i64 n, TV.int IntKind.i64 n_1, TV.bytes (32 : Nat) b, TV.int IntKind.i64 n_2, TV.int IntKind.u64 n_3,
 TV.slice s, TV.bytes (16 : Nat) b_1]])
 h_2 fun (v : Value) (h : Array Obj) ↦
 ∃ (s : List UInt8),
 v = TV.val (TV.str s) ∧
 Ext h_2 h ∧
 CallsH Try.prog (91 : Nat) (TVs.vals [TV.slice (Sl.mk (some (Loc.mk (Array.size h) (0 : Nat))) (2 : Nat) (2 : Nat))])
 (Array.push h (row (TVs.cells [TV.str s, TV.str bs]) (9 : Nat))) fun (v : Value) (h : Array Obj) ↦
 ∃ (b : Bs (32 : Nat)),
 v = TV.val (TV.bytes (32 : Nat) b) ∧
 wok h (Array.size h_1) (0 : Nat) (32 : Nat) ∧
 Vc.Bind (TV.put h (Array.size h_1) (0 : Nat) (TV.bytes (32 : Nat) b)) fun (h : Array Obj) ↦
 ∃ (b : Bs (32 : Nat)), atBytes h (Array.size h_1) (0 : Nat) (32 : Nat) b ∧ R (TV.val (TV.bytes (32 : Nat) b)) h

theorem wire_Root_calls (m_Kind : Int) (m_Slot : Int) (m_Target : Bs (32 : Nat)) (m_Member : Int) (m_Body : Int) (m_Bits : Sl) (m_Tag : Bs (16 : Nat)) (h : Heap) (R : Value → Heap → Prop) (H : wire_Root_vc m_Kind m_Slot m_Target m_Member m_Body m_Bits m_Tag h R) : CallsH Try.prog 55 (TVs.vals [TV.agg [TV.int IntKind.i64 m_Kind, TV.int IntKind.i64 m_Slot, TV.bytes (32 : Nat) m_Target, TV.int IntKind.i64 m_Member, TV.int IntKind.u64 m_Body, TV.slice m_Bits, TV.bytes (16 : Nat) m_Tag]]) h R :=
 vcFn_sound (C := ctx) ctx_ok (fn := Try.f55) Try.func55 ((by kernel_rfl : wire_Root_vc m_Kind m_Slot m_Target m_Member m_Body m_Bits m_Tag h R = vcFn ctx Try.f55 [TV.agg [TV.int IntKind.i64 m_Kind, TV.int IntKind.i64 m_Slot, TV.bytes (32 : Nat) m_Target, TV.int IntKind.i64 m_Member, TV.int IntKind.u64 m_Body, TV.slice m_Bits, TV.bytes (16 : Nat) m_Tag]] h R) ▸ H)


end Go.Proofs.Ytldocdpdjdekiaa
end

section
/- The program's way from bytes to a message; its name. -/
namespace Go.Proofs.Ytldocdpdjdekiaa.Board
open Go Go.Vc

theorem rdB_sum {r : List UInt8} {sh : Bool} {n : Int} (h : (rdB r sh n).2.2 = false) : sh = false ∧ 0 ≤ n ∧ ((rdB r sh n).2.1.length : Int) + n = r.length := by
  unfold rdB at h ⊢
  split at h
  · cases h
  · rename_i hc
    rw [if_neg hc]
    refine ⟨h, by omega, ?_⟩
    rw [List.length_drop]
    omega

theorem rdB_true {r : List UInt8} {sh : Bool} {n : Int} (h : (rdB r sh n).2.2 = true) : rdB r sh n = ([], [], true) := by
  unfold rdB at h ⊢
  split at h
  · rename_i hc; rw [if_pos hc]
  · rename_i hc; exact absurd (.inl h) hc

theorem rdB_at {s : List UInt8} {a n : Nat} (h : a + n ≤ s.length) : rdB (s.drop a) false (n : Int) = ((s.drop a).take n, s.drop (a + n), false) := by
  rw [rdB_ok (by rw [List.length_drop]; omega), List.drop_drop]

theorem rdB_short (n : Int) : rdB [] true n = ([], [], true) := if_pos (.inl rfl)

theorem num_one {s : List UInt8} (h : 0 < s.length) : num (s.take 1) = (s.getD 0 0).toNat := by
  cases s with
  | nil => cases h
  | cons c s => simp [num]

theorem chk_kind {d : Dm} (h : ¬ (d.kind = 1 ∨ d.kind = 2 ∨ d.kind = 3)) : chk d = none := by
  unfold chk
  split
  · rename_i hg; exact absurd (good_kind hg) h
  · rfl

theorem dec_short {s : List UInt8} (h : s.length < 53) : decF s = none := by
  unfold decF; rw [if_pos h]

section
variable {s : List UInt8}

theorem dec_one (hl : 37 ≤ s.length) (h1 : s.getD 0 0 = 1) : decF s = if s.length = 63 then chk ⟨1, (num ((s.drop 1).take 4) : Nat), bsOf 32 ((s.drop 5).take 32), (num ((s.drop 37).take 2) : Nat), (num ((s.drop 39).take 8) : Nat), [], bsOf 16 (s.drop 47)⟩ else none := by
  unfold decF
  by_cases h53 : s.length < 53
  · rw [if_pos h53, if_neg (by omega)]
  · rw [if_neg h53, if_pos h1]

theorem dec_two (hl : 37 ≤ s.length) (h1 : s.getD 0 0 = 2) : decF s = if s.length = 55 then chk ⟨2, (num ((s.drop 1).take 4) : Nat), bsOf 32 ((s.drop 5).take 32), (num ((s.drop 37).take 2) : Nat), 0, [], bsOf 16 (s.drop 39)⟩ else none := by
  unfold decF
  by_cases h53 : s.length < 53
  · rw [if_pos h53, if_neg (by omega)]
  · rw [if_neg h53, if_neg (by rw [h1]; decide), if_pos h1]

theorem dec_three (hl : 53 ≤ s.length) (h1 : s.getD 0 0 = 3) : decF s = match getF ((s.drop 37).take (s.length - 53)) 16 with
    | none => none
    | some row => chk ⟨3, (num ((s.drop 1).take 4) : Nat), bsOf 32 ((s.drop 5).take 32), 0, 0, row, bsOf 16 (s.drop (s.length - 16))⟩ := by
  unfold decF
  rw [if_neg (by omega), if_neg (by rw [h1]; decide), if_neg (by rw [h1]; decide), if_pos h1]
  all_goals rfl

theorem dec_other (h1 : s.getD 0 0 ≠ 1) (h2 : s.getD 0 0 ≠ 2) (h3 : s.getD 0 0 ≠ 3) : decF s = none := by
  unfold decF
  by_cases h53 : s.length < 53
  · rw [if_pos h53]
  · rw [if_neg h53, if_neg h1, if_neg h2, if_neg h3]
end

section
variable {R : Value → Heap → Prop} {h : Heap}

/-- While bytes are read: the reader, the message so far, and the answer's place. -/
structure DS (h hh : Heap) (q mb : Nat) (r : List UInt8) (sh : Bool) (m : Ms) : Prop where
  rd : Rd hh q r sh
  msg : Var 63 hh mb m.tv
  ans : Var 63 hh h.size zeroM.tv
  only : Only (fun i => h.size ≤ i) h hh
  q0 : h.size < q
  m0 : q < mb

section
variable {hh : Heap} {q mb : Nat} {r : List UInt8} {sh : Bool} {m : Ms}

theorem DS.ext (d : DS h hh q mb r sh m) : Ext h hh := Only.cut (Ext.refl h) d.only fun _ hi => hi
theorem DS.more {h' : Heap} (d : DS h hh q mb r sh m) (x : Ext hh h') : DS h h' q mb r sh m := ⟨Var.ext d.rd x, d.msg.ext x, d.ans.ext x, d.only.trans (Only.of_ext x), d.q0, d.m0⟩
theorem DS.read {h' : Heap} {r' : List UInt8} {sh' : Bool} (d : DS h hh q mb r sh m) (v : Rd h' q r' sh') (f : Only (· = q) hh h') : DS h h' q mb r' sh' m :=
  ⟨v, d.msg.only f (by have := d.m0; omega), d.ans.only f (by have := d.q0; omega), d.only.trans (f.mono fun i hi => by have := d.q0; omega), d.q0, d.m0⟩
theorem DS.write {h' : Heap} {m' : Ms} (d : DS h hh q mb r sh m) (v : Var 63 h' mb m'.tv) (f : Only (· = mb) hh h') : DS h h' q mb r sh m' :=
  ⟨Var.only d.rd f (by have := d.m0; omega), v, d.ans.only f (by have := d.m0; have := d.q0; omega), d.only.trans (f.mono fun i hi => by have := d.q0; have := d.m0; omega), d.q0, d.m0⟩
end

set_option maxHeartbeats 1000000 in
set_option maxRecDepth 100000 in
theorem decode_spec {s : List UInt8} (hs : s.length < 100000) (hn : decF s = none → ∀ h', Ext h h' → R (TV.tup [zeroM.tv, .bool false]).val h')
    (hy : ∀ d h' b, decF s = some d → Elems 1 h' b (bools d.row) → Ext h h' → (∀ l, b.a = some l → h.size ≤ l.b ∧ l.b < h'.size) → R (TV.tup [(d.ms b).tv, .bool true]).val h') : CallsH Try.prog 53 (TVs.vals [.str s]) h R := by
  apply wire_Decode_calls
  unfold wire_Decode_vc
  refine newTV_in fun h1 v1 x1 s1 => from_spec fun h2 r2 x2 s2 => ⟨_, rfl, ?_⟩
  have v1 : Var 63 h1 h.size zeroM.tv := v1
  refine ruint_spec r2 (by decide) fun h3 r3 f3 => ⟨_, rfl, ruint_spec r3 (by decide) fun h4 r4 f4 => ⟨_, rfl, ?_⟩⟩
  obtain ⟨K, hK⟩ : ∃ K, K = IntKind.wrap .i64 ((num (rdB s false 1).1 : Nat) : Int) := ⟨_, rfl⟩
  obtain ⟨S, hS⟩ : ∃ S, S = IntKind.wrap .i64 ((num (rdB (rdB s false 1).2.1 (rdB s false 1).2.2 4).1 : Nat) : Int) := ⟨_, rfl⟩
  rw [← hK, ← hS]
  have z34 := (f3.trans f4).size
  refine newTV_in fun h5 v5 x5 s5 => put_n (t0 := zeroM.tv) v5 (t := (Ms.mk K S (Bs.zero 32) 0 0 Sl.nil (Bs.zero 16)).tv) mssz1 mssz fun h6 v6 f6 s6 => ?_
  have x46 : Ext h4 h6 := Only.cut x5 f6 fun i hi => by omega
  have d6 : DS h h6 h1.size h4.size _ _ (Ms.mk K S (Bs.zero 32) 0 0 Sl.nil (Bs.zero 16)) := ⟨Var.ext r4 x46, v6, (((v1.ext x2).only f3 (by omega)).only f4 (by omega)).ext x46,
    (((Only.of_ext (x1.trans x2)).trans ((f3.trans f4).mono fun i hi => by omega)).trans (Only.of_ext x46)), by omega, by omega⟩
  refine rbytes_spec d6.rd fun h7 r7 f7 => ⟨_, rfl, (fun hx => by cases hx), fun l hl => ?_⟩
  obtain rfl : Vc.Loc.mk h4.size 2 = l := Option.some.inj hl
  have d7 := d6.read r7 f7
  obtain ⟨A, hA⟩ : ∃ A, A = rdB (rdB (rdB s false 1).2.1 (rdB s false 1).2.2 4).2.1 (rdB (rdB s false 1).2.1 (rdB s false 1).2.2 4).2.2 32 := ⟨_, rfl⟩
  rw [← hA] at d7 ⊢
  refine bytes_copy (i := 2) d7.msg rfl rfl (by rw [hA]; exact rdB_len) fun h8 v8 f8 s8 => ?_
  have d8 : DS h h8 h1.size h4.size A.2.1 A.2.2 (Ms.mk K S (bsOf 32 A.1) 0 0 Sl.nil (Bs.zero 16)) := d7.write v8 f8
  generalize h1.size = q at *
  generalize h4.size = mb at *
  -- the answer when there is none
  have no : ∀ hh r sh m, DS h hh q mb r sh m → decF s = none → wok hh h.size 0 53 ∧ Bind (TV.put hh h.size 0 zeroM.tv) fun (h_2 : Heap) =>
      ∃ (n : Int), ∃ (n_1 : Int), ∃ (b_ : Bs 32), ∃ (n_2 : Int), ∃ (n_3 : Int), ∃ (s : Sl), ∃ (b_1 : Bs 16), (at1 h_2 h.size 0 (.int .i64 n) ∧ at1 h_2 h.size 1 (.int .i64 n_1) ∧ atBytes h_2 h.size 2 32 b_ ∧ at1 h_2 h.size 34 (.int .i64 n_2) ∧ at1 h_2 h.size 35 (.int .u64 n_3) ∧ at1 h_2 h.size 36 (slVal s) ∧ atBytes h_2 h.size 37 16 b_1) ∧
        R (TV.tup [.agg [.int .i64 n, .int .i64 n_1, .bytes 32 b_, .int .i64 n_2, .int .u64 n_3, .slice s, .bytes 16 b_1], .bool false]).val h_2 := by
    intro hh r sh m d hd
    refine put_n (t := zeroM.tv) d.ans mssz1 mssz fun h9 v9 f9 s9 => ms_at v9 ?_
    exact hn hd h9 (Only.cut d.ext f9 fun i hi => by omega)
  intro J HJ
  have fin : ∀ hh r sh m row, DS h hh q mb r sh m → m.tag = Bs.zero 16 → Elems 1 hh m.bits (bools row) → row.length < 100000 → (∀ l, m.bits.a = some l → l.b ≠ q ∧ l.b ≠ mb ∧ l.b ≠ h.size ∧ h.size ≤ l.b ∧ l.b < hh.size) → (sh = true ∨ r.length ≠ 16 → decF s = none) →
      (sh = false → r.length = 16 → decF s = chk ⟨m.kind, m.slot, m.target, m.member, m.body, row, bsOf 16 r⟩) → J false hh := by
    intro hh r sh m row d hz e hrl hloc hb hg
    refine HJ false hh ?_
    refine rbytes_spec d.rd fun h9 r9 f9 => ⟨_, rfl, (fun hx => by cases hx), fun l hl => ?_⟩
    obtain rfl : Vc.Loc.mk mb 37 = l := Option.some.inj hl
    have d9 := d.read r9 f9
    refine bytes_copy (i := 6) d9.msg (by rw [hz]; rfl) rfl rdB_len fun h10 v10 f10 s10 => ?_
    have d10 : DS h h10 q mb _ _ { m with tag := bsOf 16 (rdB r sh 16).1 } := d9.write v10 f10
    refine rend_spec d10.rd ⟨_, rfl, ?_⟩
    have e10 : Elems 1 h10 m.bits (bools row) := (e.only f9 fun l hl => (hloc l hl).1).only f10 fun l hl => (hloc l hl).2.1
    by_cases hc : sh = true ∨ r.length ≠ 16
    · have hend : (!(rdB r sh 16).2.2 && decide ((rdB r sh 16).2.1 = [])) = false := by
        cases hsh : (rdB r sh 16).2.2 with
        | true => rfl
        | false =>
          obtain ⟨h1', _, h3'⟩ := rdB_sum hsh
          have : (rdB r sh 16).2.1 ≠ [] := fun he => by
            rw [he] at h3'
            rcases hc with hc | hc
            · rw [h1'] at hc; cases hc
            · apply hc
              simp at h3'
              omega
          rw [decide_eq_false this]; rfl
      rw [hend]
      exact If.yes (no h10 _ _ _ d10 (hb hc))
    · have hsh : sh = false := by cases sh with
        | true => exact absurd (.inl rfl) hc
        | false => rfl
      have hl16 : r.length = 16 := Classical.byContradiction fun h => hc (.inr h)
      have hrd : rdB r sh 16 = (r.take 16, r.drop 16, false) := by rw [hsh]; exact rdB_ok (n := 16) (by omega)
      have hdec := hg hsh hl16
      rw [hrd] at d10 ⊢
      rw [List.take_of_length_le (by omega : r.length ≤ 16)] at d10
      have hend : (!false && decide (r.drop 16 = [])) = true := by rw [List.drop_of_length_le (by omega)]; rfl
      dsimp only
      rw [hend]
      refine If.no (ms_at d10.msg ?_)
      refine mgood_spec (m := { m with tag := bsOf 16 r }) (row := row) e10 hrl fun h11 x11 => ⟨_, rfl, ?_⟩
      have d11 := d10.more x11
      unfold chk at hdec
      have hgm : goodF { m with tag := bsOf 16 r } row = goodF ((Dm.mk m.kind m.slot m.target m.member m.body row (bsOf 16 r)).ms Sl.nil) row := rfl
      rw [hgm]
      cases hgood : goodF ((Dm.mk m.kind m.slot m.target m.member m.body row (bsOf 16 r)).ms Sl.nil) row with
      | false =>
        refine If.yes (no h11 _ _ _ d11 ?_)
        rw [hdec, if_neg]
        show ¬ goodF _ row = true
        rw [hgood]
        decide
      | true =>
        refine If.no (ms_at d11.msg ?_)
        refine put_n d11.ans (t := ({ m with tag := bsOf 16 r } : Ms).tv) mssz1 mssz fun h12 v12 f12 s12 => ms_at v12 ?_
        have hd : decF s = some (Dm.mk m.kind m.slot m.target m.member m.body row (bsOf 16 r)) := by rw [hdec]; exact if_pos hgood
        have x12 : Ext h h12 := Only.cut d11.ext f12 fun i hi => by omega
        have e12 : Elems 1 h12 m.bits (bools row) := (e10.ext x11).only f12 fun l hl => (hloc l hl).2.2.1
        exact hy _ h12 m.bits hd e12 x12 fun l hl => by
          have g := hloc l hl
          have g1 := f9.size
          have g2 := f10.size
          have g3 := x11.size
          have g4 := f12.size
          exact ⟨g.2.2.2.1, by omega⟩
  have no2 := no
  clear HJ no
  have hlong : 37 ≤ s.length → A = ((s.drop 5).take 32, s.drop 37, false) ∧ K = ((s.getD 0 0).toNat : Int) ∧ S = ((num ((s.drop 1).take 4) : Nat) : Int) := by
    intro hl
    have e1 : rdB s false 1 = (s.take 1, s.drop 1, false) := rdB_ok (n := 1) (by omega)
    have e2 : rdB (s.drop 1) false 4 = ((s.drop 1).take 4, s.drop 5, false) := rdB_at (a := 1) (n := 4) (by omega)
    have e3 : rdB (s.drop 5) false 32 = ((s.drop 5).take 32, s.drop 37, false) := rdB_at (a := 5) (n := 32) (by omega)
    refine ⟨by rw [hA, e1, e2, e3], ?_, ?_⟩
    · rw [hK, e1]
      dsimp only
      have := (s.getD 0 0).toNat_lt
      rw [num_one (by omega), wrap_i64 (by omega) (by omega)]
    · rw [hS, e1]
      dsimp only
      rw [e2]
      dsimp only
      have h1' := num_lt ((s.drop 1).take 4)
      have h2' : ((s.drop 1).take 4).length ≤ 4 := by rw [List.length_take]; omega
      have h3' : 256 ^ ((s.drop 1).take 4).length ≤ 256 ^ 4 := Nat.pow_le_pow_right (by decide) h2'
      have h4' : 256 ^ 4 = 4294967296 := by decide
      rw [wrap_i64 (by omega) (by omega)]
  have hshort : ¬ 37 ≤ s.length → A = ([], [], true) := by
    intro hl
    cases hsh : A.2.2 with
    | true => rw [hA] at hsh ⊢; exact rdB_true hsh
    | false =>
      exfalso
      rw [hA] at hsh
      obtain ⟨g1, _, g2⟩ := rdB_sum hsh
      obtain ⟨g3, _, g4⟩ := rdB_sum g1
      obtain ⟨g5, _, g6⟩ := rdB_sum g3
      omega
  have hlen : A.2.2 = false → 37 ≤ s.length ∧ A.2.1 = s.drop 37 := by
    intro hsh
    by_cases hl : 37 ≤ s.length
    · exact ⟨hl, by rw [(hlong hl).1]⟩
    · rw [hshort hl] at hsh; cases hsh
  have w2 : ∀ (l : List UInt8), l.length ≤ 2 → IntKind.wrap .i64 ((num l : Nat) : Int) = ((num l : Nat) : Int) := by
    intro l hl
    have h1' := num_lt l
    have h3' : 256 ^ l.length ≤ 256 ^ 2 := Nat.pow_le_pow_right (by decide) hl
    rw [wrap_i64 (by omega) (by omega)]
  have hc0 : ∀ c : UInt8, 37 ≤ s.length → K = (c.toNat : Int) → s.getD 0 0 = c := by
    intro c hl hk
    have := (hlong hl).2.1
    exact UInt8.toNat_inj.1 (by omega)
  refine ⟨K, d8.msg.at1 rfl, If.dec.2 ⟨fun k1 => ?_, fun k1 => If.dec.2 ⟨fun k2 => ?_, fun k2 => If.dec.2 ⟨fun k3 => ?_, fun k3 => ?_⟩⟩⟩⟩
  · refine ruint_spec d8.rd (by decide) fun h9 r9 f9 => ⟨_, rfl, ?_⟩
    have d9 := d8.read r9 f9
    refine ruint_spec d9.rd (by decide) fun h10 r10 f10 => ⟨_, rfl, ?_⟩
    have d10 := d9.read r10 f10
    refine field_in (i := 3) (t := .int .i64 (IntKind.wrap .i64 ((num (rdB A.2.1 A.2.2 2).1 : Nat) : Int))) (t0 := .int .i64 0) d10.msg rfl rfl rfl rfl fun h11 v11 f11 s11 => ?_
    refine field_in (i := 4) (t := .int .u64 ((num (rdB (rdB A.2.1 A.2.2 2).2.1 (rdB A.2.1 A.2.2 2).2.2 8).1 : Nat) : Int)) (t0 := .int .u64 0) v11 rfl rfl rfl rfl fun h12 v12 f12 s12 => ?_
    have d12 : DS h h12 q mb _ _ (Ms.mk K S (bsOf 32 A.1) (IntKind.wrap .i64 ((num (rdB A.2.1 A.2.2 2).1 : Nat) : Int)) ((num (rdB (rdB A.2.1 A.2.2 2).2.1 (rdB A.2.1 A.2.2 2).2.2 8).1 : Nat) : Int) Sl.nil (Bs.zero 16)) := d10.write v12 (f11.trans f12)
    have good : s.length = 63 → rdB A.2.1 A.2.2 2 = ((s.drop 37).take 2, s.drop 39, false) ∧ rdB (rdB A.2.1 A.2.2 2).2.1 (rdB A.2.1 A.2.2 2).2.2 8 = ((s.drop 39).take 8, s.drop 47, false) := by
      intro hl
      have e0 := (hlong (by omega)).1
      have e1 : rdB (s.drop 37) false 2 = ((s.drop 37).take 2, s.drop 39, false) := rdB_at (a := 37) (n := 2) (by omega)
      have e2 : rdB (s.drop 39) false 8 = ((s.drop 39).take 8, s.drop 47, false) := rdB_at (a := 39) (n := 8) (by omega)
      rw [e0]
      dsimp only
      rw [e1]
      exact ⟨rfl, e2⟩
    refine fin h12 _ _ _ [] d12 rfl (Elems.nil_ 1 h12) (by decide) (fun l hl => by cases hl) (fun hb => ?_) fun hsh hl16 => ?_
    · by_cases hl : 37 ≤ s.length
      · rw [dec_one hl (hc0 1 hl k1)]
        by_cases h63 : s.length = 63
        · exfalso
          rw [(good h63).2] at hb
          rcases hb with hb | hb
          · cases hb
          · apply hb
            dsimp only
            rw [List.length_drop]; omega
        · rw [if_neg h63]
      · exact dec_short (by omega)
    · obtain ⟨g1, _, g2⟩ := rdB_sum hsh
      obtain ⟨g3, _, g4⟩ := rdB_sum g1
      obtain ⟨g5, g6⟩ := hlen g3
      have g7 : A.2.1.length = s.length - 37 := by rw [g6, List.length_drop]
      have h63 : s.length = 63 := by omega
      obtain ⟨e0, _, eS⟩ := hlong g5
      rw [dec_one g5 (hc0 1 g5 k1), if_pos h63, (good h63).2, (good h63).1, e0, eS, k1]
      dsimp only
      rw [w2 _ (by rw [List.length_take]; omega)]
  · refine ruint_spec d8.rd (by decide) fun h9 r9 f9 => ⟨_, rfl, ?_⟩
    have d9 := d8.read r9 f9
    refine field_in (i := 3) (t := .int .i64 (IntKind.wrap .i64 ((num (rdB A.2.1 A.2.2 2).1 : Nat) : Int))) (t0 := .int .i64 0) d9.msg rfl rfl rfl rfl fun h11 v11 f11 s11 => ?_
    have d12 : DS h h11 q mb _ _ (Ms.mk K S (bsOf 32 A.1) (IntKind.wrap .i64 ((num (rdB A.2.1 A.2.2 2).1 : Nat) : Int)) 0 Sl.nil (Bs.zero 16)) := d9.write v11 f11
    have good : s.length = 55 → rdB A.2.1 A.2.2 2 = ((s.drop 37).take 2, s.drop 39, false) := by
      intro hl
      have e0 := (hlong (by omega)).1
      have e1 : rdB (s.drop 37) false 2 = ((s.drop 37).take 2, s.drop 39, false) := rdB_at (a := 37) (n := 2) (by omega)
      rw [e0]
      exact e1
    refine fin h11 _ _ _ [] d12 rfl (Elems.nil_ 1 h11) (by decide) (fun l hl => by cases hl) (fun hb => ?_) fun hsh hl16 => ?_
    · by_cases hl : 37 ≤ s.length
      · rw [dec_two hl (hc0 2 hl k2)]
        by_cases h63 : s.length = 55
        · exfalso
          rw [good h63] at hb
          rcases hb with hb | hb
          · cases hb
          · apply hb
            dsimp only
            rw [List.length_drop]; omega
        · rw [if_neg h63]
      · exact dec_short (by omega)
    · obtain ⟨g1, _, g2⟩ := rdB_sum hsh
      obtain ⟨g5, g6⟩ := hlen g1
      have g7 : A.2.1.length = s.length - 37 := by rw [g6, List.length_drop]
      have h63 : s.length = 55 := by omega
      obtain ⟨e0, _, eS⟩ := hlong g5
      rw [dec_two g5 (hc0 2 g5 k2), if_pos h63, good h63, e0, eS, k2]
      dsimp only
      rw [w2 _ (by rw [List.length_take]; omega)]
  · refine left_spec d8.rd ⟨_, rfl, rbytes_spec d8.rd fun h9 r9 f9 => ⟨_, rfl, ?_⟩⟩
    have d9 := d8.read r9 f9
    have hAl : A.2.1.length ≤ s.length := by
      by_cases hl : 37 ≤ s.length
      · rw [(hlong hl).1]; dsimp only; rw [List.length_drop]; omega
      · rw [hshort hl]; exact Nat.zero_le _
    rw [wrap_i64 (by omega) (by omega)] at d9 ⊢
    obtain ⟨B, hB⟩ : ∃ B, B = rdB A.2.1 A.2.2 ((A.2.1.length : Int) - 16) := ⟨_, rfl⟩
    rw [← hB] at d9 ⊢
    have good : 53 ≤ s.length → B = ((s.drop 37).take (s.length - 53), s.drop (s.length - 16), false) := by
      intro hl
      have e0 := (hlong (by omega)).1
      rw [hB, e0]
      dsimp only
      have e1 : (((s.drop 37).length : Nat) : Int) - 16 = ((s.length - 53 : Nat) : Int) := by rw [List.length_drop]; omega
      rw [e1, rdB_at (a := 37) (n := s.length - 53) (by omega), show 37 + (s.length - 53) = s.length - 16 by omega]
    have short : ¬ 53 ≤ s.length → B.1 = [] := by
      intro hl
      by_cases h37 : 37 ≤ s.length
      · have e0 := (hlong h37).1
        rw [hB, e0]
        dsimp only
        rw [rdB_bad (.inr (.inl (by rw [List.length_drop]; omega)))]
      · rw [hB, hshort h37]
        dsimp only
        rw [rdB_short]
    have hBl : B.1.length < 100000 := by
      by_cases hl : 53 ≤ s.length
      · rw [good hl]; dsimp only; rw [List.length_take, List.length_drop]; omega
      · rw [short hl]; decide
    have hz8 := d9.msg.lt
    refine bget_spec hBl (fun hno => ⟨_, _, rfl, If.yes (no2 h9 _ _ _ d9 ?_)⟩) fun row h10 t hrow o10 x10 loc10 => ⟨_, _, rfl, If.no ?_⟩
    · by_cases hl : 53 ≤ s.length
      · rw [dec_three hl (hc0 3 (by omega) k3)]
        rw [good hl] at hno
        dsimp only at hno
        rw [hno]
      · exact dec_short (by omega)
    · have d10 := d9.more x10
      refine field_in (i := 5) (t := .slice t) (t0 := .slice Sl.nil) d10.msg rfl rfl rfl rfl fun h11 v11 f11 s11 => ?_
      have d11 : DS h h11 q mb _ _ (Ms.mk K S (bsOf 32 A.1) 0 0 t (Bs.zero 16)) := d10.write v11 f11
      have h53 : 53 ≤ s.length := by
        apply Classical.byContradiction
        intro hl
        rw [short hl] at hrow
        cases hrow
      have hB2 := good h53
      obtain ⟨e0, _, eS⟩ := hlong (by omega)
      have hq := d9.m0
      have hq0 := d9.q0
      have hrl : row.length ≤ 16 := by
        unfold getF at hrow
        split at hrow
        · cases hrow
        · split at hrow
          · cases hrow
          · rw [← Option.some.inj hrow, List.length_take]; omega
      rw [hB2] at hrow d11
      dsimp only at hrow
      have hdec : decF s = chk ⟨3, ((num ((s.drop 1).take 4) : Nat) : Int), bsOf 32 ((s.drop 5).take 32), 0, 0, row, bsOf 16 (s.drop (s.length - 16))⟩ := by
        rw [dec_three h53 (hc0 3 (by omega) k3), hrow]
      refine fin h11 _ _ _ row d11 rfl (o10.elems.only f11 fun l hl => by have := loc10 l hl; omega) (by omega) (fun l hl => by have := loc10 l hl; have := o10.lt l hl; have := f11.size; omega) (fun hb => ?_) fun hsh hl16 => ?_
      · exfalso
        rcases hb with hb | hb
        · cases hb
        · apply hb
          dsimp only
          rw [List.length_drop]; omega
      · rw [hdec, e0, eS, k3]
  · refine fin h8 _ _ _ [] d8 rfl (Elems.nil_ 1 h8) (by decide) (fun l hl => by cases hl) (fun hb => ?_) fun hsh hl16 => ?_
    all_goals
      have hno : decF s = none := by
        by_cases hl : 37 ≤ s.length
        · have hk := (hlong hl).2.1
          refine dec_other (fun h1 => k1 ?_) (fun h1 => k2 ?_) (fun h1 => k3 ?_) <;> rw [hk, h1] <;> rfl
        · exact dec_short (by omega)
    · exact hno
    · rw [hno, chk_kind]
      rintro (h1 | h1 | h1)
      · exact k1 h1
      · exact k2 h1
      · exact k3 h1

end
end Go.Proofs.Ytldocdpdjdekiaa.Board
end

section
/- The conditions of functions, as the generator reckons them out, each with the proof that it is that. -/
namespace Go.Proofs.Ytldocdpdjdekiaa
open Go Go.Vc
set_option maxRecDepth 100000
set_option linter.unusedVariables false

def tollerref07_Bytes_vc (m_Kind : Int) (m_Slot : Int) (m_Target : Bs (32 : Nat)) (m_Member : Int) (m_Body : Int) (m_Bits : Sl) (m_Tag : Bs (16 : Nat)) (h : Heap) (R : Value → Heap → Prop) : Prop :=
 Vc.Bind
 (newTV h
 (TV.agg
 [TV.int IntKind.i64 m_Kind, TV.int IntKind.i64 m_Slot, TV.bytes (32 : Nat) m_Target, TV.int IntKind.i64 m_Member, TV.int IntKind.u64 m_Body,
 TV.slice m_Bits, TV.bytes (16 : Nat) m_Tag])
 (63 : Nat))
 fun (h_1 : Array Obj) ↦
 ∃ (n : Int),
 ∃ (n_1 : Int),
 ∃ (b : Bs (32 : Nat)),
 ∃ (n_2 : Int),
 ∃ (n_3 : Int),
 ∃ (s : Sl),
 ∃ (b_1 : Bs (16 : Nat)),
 (at1 h_1 (Array.size h) (0 : Nat) (Value.int IntKind.i64 n) ∧
 at1 h_1 (Array.size h) (1 : Nat) (Value.int IntKind.i64 n_1) ∧
 atBytes h_1 (Array.size h) (2 : Nat) (32 : Nat) b ∧
 at1 h_1 (Array.size h) (34 : Nat) (Value.int IntKind.i64 n_2) ∧
 at1 h_1 (Array.size h) (35 : Nat) (Value.int IntKind.u64 n_3) ∧
 at1 h_1 (Array.size h) (36 : Nat) (slVal s) ∧ atBytes h_1 (Array.size h) (37 : Nat) (16 : Nat) b_1) ∧
 (CallsH Try.prog (93 : Nat)
 (TVs.vals
 [TV.agg
 [TV.int IntKind.i64 n, TV.int IntKind.i64 n_1, TV.bytes (32 : Nat) b, TV.int IntKind.i64 n_2, TV.int IntKind.u64 n_3, TV.slice s,
 TV.bytes (16 : Nat) b_1]])
 h_1 fun (v : Value) (h_2 : Array Obj) ↦
 ∃ (s : List UInt8),
 v = TV.val (TV.str s) ∧
 Ext h_2 (Array.push h_2 (row (TVs.cells []) (5 : Nat))) ∧
 ∃ (new : List Value),
 slAt (Array.push h_2 (row (TVs.cells []) (5 : Nat)))
 (cutSl (Sl.mk (some (Loc.mk (Array.size h) (37 : Nat))) (16 : Nat) (16 : Nat)) (0 : Nat) (16 : Nat) (1 : Nat)) (1 : Nat) new ∧
 (∀ (v : Value), v ∈ new → isOne v = true) ∧
 vcAppend Ytldocdpdjdekiaa.ctx (5 : Nat) (Sl.mk (some (Loc.mk (Array.size h_2) (0 : Nat))) (0 : Nat) (0 : Nat))
 (cutSl (Sl.mk (some (Loc.mk (Array.size h) (37 : Nat))) (16 : Nat) (16 : Nat)) (0 : Nat) (16 : Nat) (1 : Nat)).len new
 (Array.push h_2 (row (TVs.cells []) (5 : Nat))) fun (s_1 : Sl) (h : Array Obj) ↦
 CallsH Try.prog (94 : Nat) (TVs.vals [TV.slice s_1]) h fun (v : Value) (h : Array Obj) ↦
 ∃ (s_2 : List UInt8),
 v = TV.val (TV.str s_2) ∧
 (↑(List.length s + List.length s_2) : Int) ≤ (9223372036854775807 : Int) ∧ R (TV.val (TV.str (s ++ s_2))) h) ∧
 Ext h_1 (Array.push h_1 (row (TVs.cells []) (5 : Nat))) ∧
 CallsH Try.prog (93 : Nat)
 (TVs.vals
 [TV.agg
 [TV.int IntKind.i64 n, TV.int IntKind.i64 n_1, TV.bytes (32 : Nat) b, TV.int IntKind.i64 n_2, TV.int IntKind.u64 n_3, TV.slice s,
 TV.bytes (16 : Nat) b_1]])
 (Array.push h_1 (row (TVs.cells []) (5 : Nat))) fun (v : Value) (h_2 : Array Obj) ↦
 ∃ (s : List UInt8),
 v = TV.val (TV.str s) ∧
 ∃ (new : List Value),
 slAt h_2 (cutSl (Sl.mk (some (Loc.mk (Array.size h) (37 : Nat))) (16 : Nat) (16 : Nat)) (0 : Nat) (16 : Nat) (1 : Nat)) (1 : Nat)
 new ∧
 (∀ (v : Value), v ∈ new → isOne v = true) ∧
 vcAppend Ytldocdpdjdekiaa.ctx (5 : Nat) (Sl.mk (some (Loc.mk (Array.size h_1) (0 : Nat))) (0 : Nat) (0 : Nat))
 (cutSl (Sl.mk (some (Loc.mk (Array.size h) (37 : Nat))) (16 : Nat) (16 : Nat)) (0 : Nat) (16 : Nat) (1 : Nat)).len new h_2
 fun (s_1 : Sl) (h : Array Obj) ↦
 CallsH Try.prog (94 : Nat) (TVs.vals [TV.slice s_1]) h fun (v : Value) (h : Array Obj) ↦
 ∃ (s_2 : List UInt8),
 v = TV.val (TV.str s_2) ∧
 (↑(List.length s + List.length s_2) : Int) ≤ (9223372036854775807 : Int) ∧ R (TV.val (TV.str (s ++ s_2))) h

theorem tollerref07_Bytes_calls (m_Kind : Int) (m_Slot : Int) (m_Target : Bs (32 : Nat)) (m_Member : Int) (m_Body : Int) (m_Bits : Sl) (m_Tag : Bs (16 : Nat)) (h : Heap) (R : Value → Heap → Prop) (H : tollerref07_Bytes_vc m_Kind m_Slot m_Target m_Member m_Body m_Bits m_Tag h R) : CallsH Try.prog 58 (TVs.vals [TV.agg [TV.int IntKind.i64 m_Kind, TV.int IntKind.i64 m_Slot, TV.bytes (32 : Nat) m_Target, TV.int IntKind.i64 m_Member, TV.int IntKind.u64 m_Body, TV.slice m_Bits, TV.bytes (16 : Nat) m_Tag]]) h R :=
 vcFn_sound (C := ctx) ctx_ok (fn := Try.f58) Try.func58 ((by kernel_rfl : tollerref07_Bytes_vc m_Kind m_Slot m_Target m_Member m_Body m_Bits m_Tag h R = vcFn ctx Try.f58 [TV.agg [TV.int IntKind.i64 m_Kind, TV.int IntKind.i64 m_Slot, TV.bytes (32 : Nat) m_Target, TV.int IntKind.i64 m_Member, TV.int IntKind.u64 m_Body, TV.slice m_Bits, TV.bytes (16 : Nat) m_Tag]] h R) ▸ H)


def tollerref01_Reader_Bytes_vc (r : Option Go.Vc.Loc) (n : Int) (h : Heap) (R : Value → Heap → Prop) : Prop :=
 Join
 (fun (s : List UInt8) (h : Array Obj) ↦
 Nn r fun (l : Go.Vc.Loc) ↦
 ∃ (n_1 : Int),
 at1 h l.b (l.o + (1 : Nat)) (Value.int IntKind.i64 n_1) ∧
 Nn r fun (l : Go.Vc.Loc) ↦
 wok h l.b (l.o + (1 : Nat)) (1 : Nat) ∧
 Vc.Bind (TV.put h l.b (l.o + (1 : Nat)) (TV.int IntKind.i64 (IntKind.wrap IntKind.i64 (n_1 + n)))) fun (h : Array Obj) ↦
 Nn r fun (l : Go.Vc.Loc) ↦
 ∃ (s : List UInt8),
 at1 h l.b l.o (Value.string (ByteArray.mk (List.toArray s))) ∧
 Nn r fun (l : Go.Vc.Loc) ↦
 ∃ (n_2 : Int),
 at1 h l.b (l.o + (1 : Nat)) (Value.int IntKind.i64 n_2) ∧
 Nn r fun (l : Go.Vc.Loc) ↦
 ∃ (n_3 : Int),
 at1 h l.b (l.o + (1 : Nat)) (Value.int IntKind.i64 n_3) ∧
 (0 : Int) ≤ n_3 ∧
 n_3 ≤ (↑(List.length s) : Int) ∧
 (0 : Int) ≤ IntKind.wrap IntKind.i64 (n_2 - n) ∧
 IntKind.wrap IntKind.i64 (n_2 - n) ≤ n_3 ∧
 R
 (TV.val
 (TV.str
 (List.take (Int.toNat n_3 - Int.toNat (IntKind.wrap IntKind.i64 (n_2 - n)))
 (List.drop (Int.toNat (IntKind.wrap IntKind.i64 (n_2 - n))) s))))
 h)
 fun (J : List UInt8 → Array Obj → Prop) ↦
 Join
 (fun (s : Bool) (h : Array Obj) ↦
 If s
 (Nn r fun (l : Go.Vc.Loc) ↦
 wok h l.b (l.o + (2 : Nat)) (1 : Nat) ∧
 Vc.Bind (TV.put h l.b (l.o + (2 : Nat)) (TV.bool true)) fun (h : Array Obj) ↦
 Nn r fun (l : Go.Vc.Loc) ↦
 ∃ (s : List UInt8),
 at1 h l.b l.o (Value.string (ByteArray.mk (List.toArray s))) ∧
 Nn r fun (l : Go.Vc.Loc) ↦
 wok h l.b (l.o + (1 : Nat)) (1 : Nat) ∧
 Vc.Bind (TV.put h l.b (l.o + (1 : Nat)) (TV.int IntKind.i64 (↑(List.length s) : Int))) fun (h : Array Obj) ↦
 R (TV.val (TV.str (ByteArray.mk #[]).data.toList)) h)
 (J (ByteArray.mk #[]).data.toList h))
 fun (J : Bool → Array Obj → Prop) ↦
 Nn r fun (l : Go.Vc.Loc) ↦
 ∃ (b : Bool),
 at1 h l.b (l.o + (2 : Nat)) (Value.bool b) ∧
 If b (J true h)
 (If (decide (n < (0 : Int))) (J true h)
 (Nn r fun (l : Go.Vc.Loc) ↦
 ∃ (s : List UInt8),
 at1 h l.b l.o (Value.string (ByteArray.mk (List.toArray s))) ∧
 Nn r fun (l : Go.Vc.Loc) ↦
 ∃ (n_1 : Int),
 at1 h l.b (l.o + (1 : Nat)) (Value.int IntKind.i64 n_1) ∧ J (decide (IntKind.wrap IntKind.i64 ((↑(List.length s) : Int) - n_1) < n)) h))

theorem tollerref01_Reader_Bytes_calls (r : Option Go.Vc.Loc) (n : Int) (h : Heap) (R : Value → Heap → Prop) (H : tollerref01_Reader_Bytes_vc r n h R) : CallsH Try.prog 65 (TVs.vals [TV.ptr r, TV.int IntKind.i64 n]) h R :=
 vcFn_sound (C := ctx) ctx_ok (fn := Try.f65) Try.func65 ((by kernel_rfl : tollerref01_Reader_Bytes_vc r n h R = vcFn ctx Try.f65 [TV.ptr r, TV.int IntKind.i64 n] h R) ▸ H)


def tollerref01_Reader_Uint_vc (r : Option Go.Vc.Loc) (width : Int) (h : Heap) (R : Value → Heap → Prop) : Prop :=
 Join
 (fun (s : Int) (h : Array Obj) ↦
 CallsH Try.prog (65 : Nat) (TVs.vals [TV.ptr r, TV.int IntKind.i64 s]) h fun (v : Value) (h : Array Obj) ↦
 ∃ (s_1 : List UInt8),
 v = TV.val (TV.str s_1) ∧
 ∀ (c : Nat),
 List.length s_1 ≤ c →
 Go.Vc.Loop ((0 : Int), (1 : Int), (0 : Int)) (Array.push h (strRow s_1 c (5 : Nat)))
 fun (s_2 : Int × Int × Int) (h_1 : Array Obj) (K : Int × Int × Int → Array Obj → Prop) ↦
 If (decide (s_2.snd.snd < (↑(List.length s_1) : Int)))
 ((0 : Int) ≤ s_2.snd.snd ∧
 s_2.snd.snd < (↑(List.length s_1) : Int) ∧
 ∃ (n : Int),
 at1 h_1 (Array.size h) ((0 : Nat) + Int.toNat s_2.snd.snd * (1 : Nat)) (Value.int IntKind.u8 n) ∧
 K
 (IntKind.wrap IntKind.u64 (s_2.fst + IntKind.wrap IntKind.u64 (s_2.snd.fst * IntKind.wrap IntKind.u64 n)),
 IntKind.wrap IntKind.u64 (s_2.snd.fst * (256 : Int)), IntKind.wrap IntKind.i64 (s_2.snd.snd + (1 : Int)))
 h_1)
 (R (TV.val (TV.int IntKind.u64 s_2.fst)) h_1))
 fun (J : Int → Array Obj → Prop) ↦ If (decide ((8 : Int) < width)) (J (-1 : Int) h) (J width h)

theorem tollerref01_Reader_Uint_calls (r : Option Go.Vc.Loc) (width : Int) (h : Heap) (R : Value → Heap → Prop) (H : tollerref01_Reader_Uint_vc r width h R) : CallsH Try.prog 63 (TVs.vals [TV.ptr r, TV.int IntKind.i64 width]) h R :=
 vcFn_sound (C := ctx) ctx_ok (fn := Try.f63) Try.func63 ((by kernel_rfl : tollerref01_Reader_Uint_vc r width h R = vcFn ctx Try.f63 [TV.ptr r, TV.int IntKind.i64 width] h R) ▸ H)


def tollerref01_Reader_End_vc (r : Option Go.Vc.Loc) (h : Heap) (R : Value → Heap → Prop) : Prop :=
 Nn r fun (l : Go.Vc.Loc) ↦
 ∃ (b : Bool),
 at1 h l.b (l.o + (2 : Nat)) (Value.bool b) ∧
 If (!b)
 (Nn r fun (l : Go.Vc.Loc) ↦
 ∃ (n : Int),
 at1 h l.b (l.o + (1 : Nat)) (Value.int IntKind.i64 n) ∧
 Nn r fun (l : Go.Vc.Loc) ↦
 ∃ (s : List UInt8),
 at1 h l.b l.o (Value.string (ByteArray.mk (List.toArray s))) ∧ R (TV.val (TV.bool (decide (n = (↑(List.length s) : Int))))) h)
 (R (TV.val (TV.bool false)) h)

theorem tollerref01_Reader_End_calls (r : Option Go.Vc.Loc) (h : Heap) (R : Value → Heap → Prop) (H : tollerref01_Reader_End_vc r h R) : CallsH Try.prog 66 (TVs.vals [TV.ptr r]) h R :=
 vcFn_sound (C := ctx) ctx_ok (fn := Try.f66) Try.func66 ((by kernel_rfl : tollerref01_Reader_End_vc r h R = vcFn ctx Try.f66 [TV.ptr r] h R) ▸ H)


end Go.Proofs.Ytldocdpdjdekiaa
end

section
/- A message's name; the document's reader, rows, bytes, names. -/
namespace Go.Proofs.Ytldocdpdjdekiaa.Board
open Go Go.Vc

def nameF (m : Ms) (row : List Bool) : Bs 32 := docF (plainF m row ++ m.tag.l)
/-- A message's bytes. -/
def bytesF (m : Ms) (row : List Bool) : List UInt8 := plainF m row ++ m.tag.l

theorem bytesF_len (m : Ms) (row : List Bool) : (bytesF m row).length ≤ 76 + row.length := by
  unfold bytesF
  have := plainF_len m row
  rw [List.length_append, m.tag.h]
  omega

section
variable {R : Value → Heap → Prop} {h : Heap} {b : Nat}

theorem str_field {o n c : Nat} {x : Bs n} (a : atBytes h b o n x) : strAt h ⟨some ⟨b, o⟩, n, c⟩ x.l := by
  refine ⟨x.h, .inr ⟨⟨b, o⟩, rfl, fun j hj => ?_⟩⟩
  have := a j (by rw [← x.h]; exact hj)
  rw [List.getD_eq_getElem?_getD, List.getElem?_eq_getElem hj] at this
  exact this

theorem mroot_spec {m : Ms} {row : List Bool} (e : Elems 1 h m.bits (bools row)) (hl : row.length < 500) (hr : ∀ h', Ext h h' → R (TV.bytes 32 (nameF m row)).val h') : CallsH Try.prog 55 (TVs.vals [m.tv]) h R := by
  apply wire_Root_calls m.kind m.slot m.target m.member m.body m.bits m.tag
  unfold wire_Root_vc
  refine newTV_in fun h1 v1 x1 s1 => newTV_in fun h2 v2 x2 s2 => ?_
  have v1 : Var 63 h2 h.size m.tv := Var.ext (t := m.tv) v1 x2
  have x02 := x1.trans x2
  refine ms_at v1 ⟨m.tag.l, str_field v1.at.2.2.2.2.2.2, ?_⟩
  refine plain_spec (e.ext x02) hl fun h3 x3 => ⟨_, rfl, x3, ?_⟩
  have hpl := plainF_len m row
  have hf : [plainF m row, m.tag.l].flatten = plainF m row ++ m.tag.l := by simp
  refine of2_spec (ts := [plainF m row, m.tag.l]) (strs_elems (T := 9) h3 [plainF m row, m.tag.l]) (by rw [hf, List.length_append, m.tag.h]; omega) (by show 2 < _; decide) fun h4 x4 => ⟨_, rfl, ?_⟩
  have x24 := x3.trans ((Ext.push _ _).trans x4)
  rw [hf]
  refine put_n (v2.ext x24) (t := .bytes 32 (nameF m row)) rfl bsz fun h5 v5 f5 s5 => ⟨_, v5.bytes, ?_⟩
  exact hr h5 (Only.cut (x02.trans x24) f5 fun i hi => by omega)

theorem docbytes_spec {m : Ms} {row : List Bool} (e : Elems 1 h m.bits (bools row)) (hl : row.length < 500) (hk : m.kind = 1 ∨ m.kind = 2 ∨ m.kind = 3) (hb : BodyOk m) (hr : ∀ h', Ext h h' → R (TV.str (bytesF m row)).val h') :
    CallsH Try.prog 58 (TVs.vals [m.tv]) h R := by
  apply tollerref07_Bytes_calls m.kind m.slot m.target m.member m.body m.bits m.tag
  unfold tollerref07_Bytes_vc
  refine newTV_in fun h1 v1 x1 s1 => ?_
  have v1 : Var 63 h1 h.size m.tv := v1
  have hpl := plainF_len m row
  have tagin : ∀ (hh : Heap) (s : Sl) (K : Sl → Value → Heap → Prop), Ext h1 hh → Row (fun i => h.size < i) hh s [] → (∀ s' h', Only (fun i => h.size < i) hh h' → K s' (TV.str m.tag.l).val h') →
      ∃ (new : List Value), slAt hh (cutSl (Sl.mk (some (Vc.Loc.mk h.size 37)) 16 16) 0 16 1) 1 new ∧ (∀ (v : Value), v ∈ new → isOne v = true) ∧ vcAppend ctx 5 s (cutSl (Sl.mk (some (Vc.Loc.mk h.size 37)) 16 16) 0 16 1).len new hh fun (s_2 : Sl) (h_4 : Array Obj) => CallsH Try.prog 94 (TVs.vals [TV.slice s_2]) h_4 (K s_2) := by
    intro hh s K xx r hk
    have hc : cutSl (Sl.mk (some (Vc.Loc.mk h.size 37)) 16 16) 0 16 1 = ⟨some ⟨h.size, 37⟩, 16, 16⟩ := rfl
    rw [hc]
    refine ⟨m.tag.l.map fun c => Value.int .u8 (c.toNat : Int), by rw [← bys_cells]; exact (elems_bytes (v1.ext xx).at.2.2.2.2.2.2).cells (bys_size _) (by decide), bcells_one m.tag.l, ?_⟩
    refine app_bytesN m.tag.h.symm r (by rw [m.tag.h]; decide) fun s3 h3 r3 f3 b3 => ?_
    apply tollerref07_text_calls
    exact ⟨_, r3.str, hk s3 h3 (r.cut f3)⟩
  refine ms_at v1 ⟨docplain_spec (e.ext x1) hl hk hb fun h2 x2 => ⟨_, rfl, Ext.push _ _, ?_⟩, Ext.push _ _, docplain_spec (e.ext (x1.trans (Ext.push _ _))) hl hk hb fun h2 x2 => ⟨_, rfl, ?_⟩⟩
  · have z2 := x2.size
    have xx := x2.trans (Ext.push h2 (Vc.row (TVs.cells []) 5))
    refine tagin _ _ (fun _ => _) xx (empty_row (by omega)) fun s' h4 o4 => ⟨_, rfl, by rw [m.tag.h]; omega, hr h4 (Only.cut (x1.trans xx) o4 fun i hi => by omega)⟩
  · have xx := (Ext.push h1 (Vc.row (TVs.cells []) 5)).trans x2
    refine tagin _ _ (fun _ => _) xx ((empty_row (by omega)).ext x2) fun s' h4 o4 => ⟨_, rfl, by rw [m.tag.h]; omega, hr h4 (Only.cut (x1.trans xx) o4 fun i hi => by omega)⟩


/-! ### The document's reader -/

/-- A reader of the document: its text, how much of it is over, whether it is short. -/
def RdD (h : Heap) (b : Nat) (s : List UInt8) (at_ : Nat) (sh : Bool) : Prop := Var 118 h b (.agg [.str s, .int .i64 (at_ : Int), .bool sh])

/-- What is over then. -/
def atD (s : List UInt8) (at_ : Nat) (sh : Bool) (n : Int) : Nat := if sh = true ∨ n < 0 ∨ ((s.length - at_ : Nat) : Int) < n then s.length else at_ + n.toNat

theorem atD_le {s : List UInt8} {at_ : Nat} {sh : Bool} {n : Int} (h : at_ ≤ s.length) : atD s at_ sh n ≤ s.length := by
  unfold atD; split <;> omega

theorem atD_rest {s : List UInt8} {at_ : Nat} {sh : Bool} {n : Int} (_h : at_ ≤ s.length) : s.drop (atD s at_ sh n) = (rdB (s.drop at_) sh n).2.1 := by
  unfold atD rdB
  rw [List.length_drop]
  split
  · rw [List.drop_length]
  · rw [List.drop_drop]

theorem dbytes_spec {s : List UInt8} {at_ : Nat} {sh : Bool} {n : Int} (v : RdD h b s at_ sh) (ha : at_ ≤ s.length) (hs : s.length < 100000) (hn : n < 100000)
    (hr : ∀ h', RdD h' b s (atD s at_ sh n) (rdB (s.drop at_) sh n).2.2 → Only (· = b) h h' → R (TV.str (rdB (s.drop at_) sh n).1).val h') : CallsH Try.prog 65 (TVs.vals [.ptr (some ⟨b, 0⟩), .int .i64 n]) h R := by
  apply tollerref01_Reader_Bytes_calls
  unfold tollerref01_Reader_Bytes_vc
  have v : Var 118 h b (.agg [.str s, .int .i64 (at_ : Int), .bool sh]) := v
  have hdl : (s.drop at_).length = s.length - at_ := List.length_drop
  intro J HJ J2 HJ2
  have bad : (sh = true ∨ n < 0 ∨ ((s.drop at_).length : Int) < n) → J2 true h := by
    intro hb
    rw [rdB_bad hb] at hr
    have hat : atD s at_ sh n = s.length := by unfold atD; rw [if_pos (by rw [← hdl]; exact hb)]
    rw [hat] at hr
    refine HJ2 true h (If.yes ?_)
    refine field_in (i := 2) (t := .bool true) (t0 := .bool sh) v rfl rfl rfl rfl fun h1 v1 f1 s1 => ⟨s, v1.at1 rfl, ?_⟩
    refine field_in (i := 1) (t := .int .i64 (s.length : Int)) (t0 := .int .i64 (at_ : Int)) v1 rfl rfl rfl rfl fun h2 v2 f2 s2 => ?_
    exact hr h2 v2 (f1.trans f2)
  refine ⟨sh, v.at1 rfl, ?_⟩
  refine If.split (fun hb => bad (.inl (by simpa using hb))) fun hs' => If.dec.2 ⟨fun hn => bad (.inr (.inl hn)), fun hn0 => ⟨s, v.at1 rfl, (at_ : Int), v.at1 rfl, ?_⟩⟩
  have hs' : sh = false := by simpa using hs'
  rw [wrap_i64 (by omega) (by omega)]
  by_cases hl : ((s.length : Int) - (at_ : Int)) < n
  · rw [decide_eq_true hl]
    exact bad (.inr (.inr (by omega)))
  rw [decide_eq_false hl]
  have hc : ¬ (sh = true ∨ n < 0 ∨ ((s.drop at_).length : Int) < n) := by rw [hs']; rintro (h1 | h1 | h1) <;> first | cases h1 | exact hn0 h1 | omega
  have hg : rdB (s.drop at_) sh n = ((s.drop at_).take n.toNat, (s.drop at_).drop n.toNat, sh) := if_neg hc
  have hat : atD s at_ sh n = at_ + n.toNat := by unfold atD; rw [if_neg (by rw [← hdl]; exact hc)]
  rw [hg, hat] at hr
  refine HJ2 false h (If.no (HJ _ h ⟨(at_ : Int), v.at1 rfl, ?_⟩))
  have e1 : IntKind.wrap .i64 ((at_ : Int) + n) = ((at_ + n.toNat : Nat) : Int) := by rw [wrap_i64 (by omega) (by omega)]; omega
  rw [e1]
  refine field_in (i := 1) (t := .int .i64 ((at_ + n.toNat : Nat) : Int)) (t0 := .int .i64 (at_ : Int)) v rfl rfl rfl rfl fun h2 v2 f2 s2 => ?_
  have e2 : IntKind.wrap .i64 (((at_ + n.toNat : Nat) : Int) - n) = (at_ : Int) := by rw [wrap_i64 (by omega) (by omega)]; omega
  refine ⟨s, v2.at1 rfl, _, v2.at1 rfl, _, v2.at1 rfl, by omega, by omega, by rw [e2]; omega, by rw [e2]; omega, ?_⟩
  rw [e2, Int.toNat_natCast, Int.toNat_natCast, Nat.add_sub_cancel_left]
  exact hr h2 v2 f2

theorem duint_spec {s : List UInt8} {at_ : Nat} {sh : Bool} {w : Int} (v : RdD h b s at_ sh) (ha : at_ ≤ s.length) (hs : s.length < 100000) (hw : w ≤ 8)
    (hr : ∀ h', RdD h' b s (atD s at_ sh w) (rdB (s.drop at_) sh w).2.2 → Only (fun i => i = b ∨ h.size ≤ i) h h' → R (TV.int .u64 (num (rdB (s.drop at_) sh w).1 : Nat)).val h') :
    CallsH Try.prog 63 (TVs.vals [.ptr (some ⟨b, 0⟩), .int .i64 w]) h R := by
  apply tollerref01_Reader_Uint_calls
  unfold tollerref01_Reader_Uint_vc
  intro J HJ
  refine If.dec.2 ⟨fun h1 => by omega, fun _ => HJ w h ?_⟩
  refine dbytes_spec v ha hs (by omega) fun h1 v1 f1 => ⟨_, rfl, fun c hc => ?_⟩
  have hl : (rdB (s.drop at_) sh w).1.length ≤ 8 := Nat.le_trans rdB_len (by omega)
  have x1 := Ext.push h1 (strRow (rdB (s.drop at_) sh w).1 c 5)
  have hr1 := hr _ (Var.ext v1 x1) (((f1.mono fun i hi => .inl hi)).trans (Only.of_ext x1))
  have hcell : ∀ i : Nat, (hi : i < (rdB (s.drop at_) sh w).1.length) → at1 (h1.push (strRow (rdB (s.drop at_) sh w).1 c 5)) h1.size (0 + i * 1) (.int .u8 (((rdB (s.drop at_) sh w).1.getD i 0).toNat : Int)) := by
    intro i hi
    unfold at1 cel
    rw [push_get]
    simp only [strRow, Nat.zero_add, Nat.mul_one, List.getElem?_toArray]
    rw [List.getElem?_append_left (by rw [List.length_map]; exact hi), List.getElem?_map, List.getElem?_eq_getElem hi, List.getD_eq_getElem?_getD, List.getElem?_eq_getElem hi]
    rfl
  generalize (rdB (s.drop at_) sh w).1 = t at hl hr1 hcell x1
  refine ⟨fun σ hh => 0 ≤ σ.2.2 ∧ σ.2.2 ≤ t.length ∧ hh = h1.push (strRow t c 5) ∧ σ.1 = ((num (t.take σ.2.2.toNat) : Nat) : Int) ∧ σ.2.1 = IntKind.wrap .u64 ((256 ^ σ.2.2.toNat : Nat) : Int), fun σ _ => ((t.length : Int) - σ.2.2).toNat, ⟨Int.le_refl 0, by first | omega | (dsimp only; omega), rfl, rfl, by decide⟩, ?_⟩
  rintro ⟨a, u, i⟩ hh ⟨i0, i1, rfl, ha, hu⟩
  dsimp only at i0 i1 ha hu ⊢
  refine If.dec.2 ⟨fun hi => ⟨i0, hi, _, hcell i.toNat (by omega), ?_⟩, fun hi => ?_⟩
  · have hi8 : i.toNat ≤ 7 := by omega
    have hp : 256 ^ i.toNat ≤ 256 ^ 7 := Nat.pow_le_pow_right (by decide) hi8
    have hp7 : 256 ^ 7 = 72057594037927936 := by decide
    have hget : t[i.toNat]? = some (t.getD i.toNat 0) := by rw [List.getD_eq_getElem?_getD, List.getElem?_eq_getElem (by omega)]; rfl
    have htk : t.take (i.toNat + 1) = t.take i.toNat ++ [t.getD i.toNat 0] := take_snoc hget
    have hsn := num_snoc (t.take i.toNat) (t.getD i.toNat 0)
    rw [List.length_take, Nat.min_eq_left (by omega)] at hsn
    have hlt := num_lt (t.take i.toNat ++ [t.getD i.toNat 0])
    have hlt8 := num_lt8 (s := t.take i.toNat ++ [t.getD i.toNat 0]) (by rw [List.length_append, List.length_take, List.length_singleton]; omega)
    have hc := (t.getD i.toNat 0).toNat_lt
    obtain ⟨P, hP⟩ : ∃ P, P = 256 ^ i.toNat := ⟨_, rfl⟩
    rw [← hP] at hsn hu hp
    have hw0 : IntKind.wrap .u64 (P : Int) = (P : Int) := wrap_u64_small (by omega) (by omega)
    rw [hw0] at hu
    have hmul : P * (t.getD i.toNat 0).toNat ≤ num (t.take i.toNat ++ [t.getD i.toNat 0]) := by omega
    have hw1 : IntKind.wrap .u64 ((t.getD i.toNat 0).toNat : Int) = ((t.getD i.toNat 0).toNat : Int) := wrap_u64_small (by omega) (by omega)
    have hm : u * ((t.getD i.toNat 0).toNat : Int) = ((P * (t.getD i.toNat 0).toNat : Nat) : Int) := by rw [hu]; push_cast; rfl
    rw [hw1, hm, wrap_u64_small (n := ((P * (t.getD i.toNat 0).toNat : Nat) : Int)) (by omega) (by omega), ha, wrap_u64_small (n := ((num (t.take i.toNat) : Nat) : Int) + _) (by omega) (by omega), wrap_i64 (n := i + 1) (by omega) (by omega)]
    refine ⟨⟨by first | omega | (dsimp only; omega), by first | omega | (dsimp only; omega), rfl, ?_, ?_⟩, by first | omega | (dsimp only; omega)⟩
    · try dsimp only
      rw [show (i + 1).toNat = i.toNat + 1 by omega, htk, hsn]
      omega
    · try dsimp only
      rw [show (i + 1).toNat = i.toNat + 1 by omega, Nat.pow_succ, ← hP, hu]
      congr 1
  · have : i.toNat = t.length := by omega
    rw [ha, this, List.take_length]
    exact hr1

theorem dend_spec {s : List UInt8} {at_ : Nat} {sh : Bool} (v : RdD h b s at_ sh) (ha : at_ ≤ s.length) (hr : R (TV.bool (!sh && decide (s.drop at_ = []))).val h) : CallsH Try.prog 66 (TVs.vals [.ptr (some ⟨b, 0⟩)]) h R := by
  have v : Var 118 h b (.agg [.str s, .int .i64 (at_ : Int), .bool sh]) := v
  apply tollerref01_Reader_End_calls
  unfold tollerref01_Reader_End_vc
  refine ⟨sh, v.at1 rfl, ?_⟩
  cases sh with
  | true => exact If.no hr
  | false =>
    refine If.yes ⟨_, v.at1 rfl, _, v.at1 rfl, ?_⟩
    have : decide ((at_ : Int) = (s.length : Int)) = decide (s.drop at_ = []) := by
      apply decide_eq_decide.2
      rw [List.drop_eq_nil_iff]
      omega
    rw [this]
    exact hr

end
end Go.Proofs.Ytldocdpdjdekiaa.Board
end

section
/- The conditions of functions, as the generator reckons them out, each with the proof that it is that. -/
namespace Go.Proofs.Ytldocdpdjdekiaa
open Go Go.Vc
set_option maxRecDepth 100000
set_option linter.unusedVariables false

def tollerref02_Get_vc (s_ : List UInt8) (most : Int) (h : Heap) (R : Value → Heap → Prop) : Prop :=
 Go.Vc.Loop (Sl.mk none (0 : Nat) (0 : Nat), (0 : Int)) h fun (s : Sl × Int) (h : Array Obj) (K : Sl × Int → Array Obj → Prop) ↦
 If (decide (s.snd < (↑(List.length s_) : Int)))
 ((0 : Int) ≤ s.snd ∧
 s.snd < (↑(List.length s_) : Int) ∧
 Go.Vc.Loop (s.fst, IntKind.wrap IntKind.i64 (↑(UInt8.toNat (List.getD s_ (Int.toNat s.snd) (0 : UInt8))) : Int), (0 : Int)) h
 fun (s_1 : Sl × Int × Int) (h : Array Obj) (K_1 : Sl × Int × Int → Array Obj → Prop) ↦
 If (decide (s_1.snd.snd < (8 : Int)))
 ((2 : Int) ≠ (0 : Int) ∧
 ∃ (new : List Value),
 slAt (Array.push h (row (TVs.cells [TV.bool (decide (Int.tmod s_1.snd.fst (2 : Int) = (1 : Int)))]) (4 : Nat)))
 (Sl.mk (some (Loc.mk (Array.size h) (0 : Nat))) (1 : Nat) (1 : Nat)) (1 : Nat) new ∧
 (∀ (v : Value), v ∈ new → isOne v = true) ∧
 vcAppend Ytldocdpdjdekiaa.ctx (4 : Nat) s_1.fst (1 : Nat) new
 (Array.push h (row (TVs.cells [TV.bool (decide (Int.tmod s_1.snd.fst (2 : Int) = (1 : Int)))]) (4 : Nat)))
 fun (s_2 : Sl) (h : Array Obj) ↦
 (2 : Int) ≠ (0 : Int) ∧
 K_1 (s_2, IntKind.wrap IntKind.i64 (Int.tdiv s_1.snd.fst (2 : Int)), IntKind.wrap IntKind.i64 (s_1.snd.snd + (1 : Int))) h)
 (K (s_1.fst, IntKind.wrap IntKind.i64 (s.snd + (1 : Int))) h))
 (Go.Vc.Loop (Sl.mk none (0 : Nat) (0 : Nat), false, IntKind.wrap IntKind.i64 ((↑s.fst.len : Int) - (1 : Int))) h
 fun (s_1 : Sl × Bool × Int) (h : Array Obj) (K : Sl × Bool × Int → Array Obj → Prop) ↦
 Join
 (fun (s_2 : PUnit) (h : Array Obj) ↦
 (0 : Int) ≤ s_1.snd.snd ∧
 s_1.snd.snd < (↑s.fst.len : Int) ∧
 Nn s.fst.a fun (l : Go.Vc.Loc) ↦
 ∃ (b : Bool),
 at1 h l.b (l.o + Int.toNat s_1.snd.snd * (1 : Nat)) (Value.bool b) ∧
 If b
 ((0 : Int) ≤ s_1.snd.snd ∧
 s_1.snd.snd ≤ (↑s.fst.cap : Int) ∧
 R (TV.val (TV.tup [TV.slice (cutSl s.fst (0 : Nat) (Int.toNat s_1.snd.snd) (1 : Nat)), TV.bool (decide (s_1.snd.snd ≤ most))])) h)
 (K (s_1.fst, s_1.snd.fst, IntKind.wrap IntKind.i64 (s_1.snd.snd - (1 : Int))) h))
 fun (J : PUnit → Array Obj → Prop) ↦
 If (decide ((0 : Int) ≤ s_1.snd.snd))
 (If (decide (IntKind.wrap IntKind.i64 ((↑s.fst.len : Int) - (8 : Int)) ≤ s_1.snd.snd)) (J PUnit.unit h)
 (R (TV.val (TV.tup [TV.slice Sl.nil, TV.bool false])) h))
 (R (TV.val (TV.tup [TV.slice Sl.nil, TV.bool false])) h))

theorem tollerref02_Get_calls (s_ : List UInt8) (most : Int) (h : Heap) (R : Value → Heap → Prop) (H : tollerref02_Get_vc s_ most h R) : CallsH Try.prog 64 (TVs.vals [TV.str s_, TV.int IntKind.i64 most]) h R :=
 vcFn_sound (C := ctx) ctx_ok (fn := Try.f64) Try.func64 ((by kernel_rfl : tollerref02_Get_vc s_ most h R = vcFn ctx Try.f64 [TV.str s_, TV.int IntKind.i64 most] h R) ▸ H)


def tollerref07_Decode_vc (s_ : List UInt8) (h : Heap) (R : Value → Heap → Prop) : Prop :=
 Vc.Bind
 (newTV h
 (TV.agg
 [TV.int IntKind.i64 (0 : Int), TV.int IntKind.i64 (0 : Int), TV.bytes (32 : Nat) (Bs.zero (32 : Nat)), TV.int IntKind.i64 (0 : Int),
 TV.int IntKind.u64 (0 : Int), TV.slice Sl.nil, TV.bytes (16 : Nat) (Bs.zero (16 : Nat))])
 (63 : Nat))
 fun (h_1 : Array Obj) ↦
 If (decide ((↑(List.length s_) : Int) < (54 : Int)))
 (wok h_1 (Array.size h) (0 : Nat) (53 : Nat) ∧
 Vc.Bind
 (TV.put h_1 (Array.size h) (0 : Nat)
 (TV.agg
 [TV.int IntKind.i64 (0 : Int), TV.int IntKind.i64 (0 : Int), TV.bytes (32 : Nat) (Bs.zero (32 : Nat)), TV.int IntKind.i64 (0 : Int),
 TV.int IntKind.u64 (0 : Int), TV.slice Sl.nil, TV.bytes (16 : Nat) (Bs.zero (16 : Nat))]))
 fun (h_2 : Array Obj) ↦
 ∃ (n : Int),
 ∃ (n_1 : Int),
 ∃ (b : Bs (32 : Nat)),
 ∃ (n_2 : Int),
 ∃ (n_3 : Int),
 ∃ (s : Sl),
 ∃ (b_1 : Bs (16 : Nat)),
 (at1 h_2 (Array.size h) (0 : Nat) (Value.int IntKind.i64 n) ∧
 at1 h_2 (Array.size h) (1 : Nat) (Value.int IntKind.i64 n_1) ∧
 atBytes h_2 (Array.size h) (2 : Nat) (32 : Nat) b ∧
 at1 h_2 (Array.size h) (34 : Nat) (Value.int IntKind.i64 n_2) ∧
 at1 h_2 (Array.size h) (35 : Nat) (Value.int IntKind.u64 n_3) ∧
 at1 h_2 (Array.size h) (36 : Nat) (slVal s) ∧ atBytes h_2 (Array.size h) (37 : Nat) (16 : Nat) b_1) ∧
 R
 (TV.val
 (TV.tup
 [TV.agg
 [TV.int IntKind.i64 n, TV.int IntKind.i64 n_1, TV.bytes (32 : Nat) b, TV.int IntKind.i64 n_2, TV.int IntKind.u64 n_3,
 TV.slice s, TV.bytes (16 : Nat) b_1],
 TV.bool false]))
 h_2)
 (Vc.Bind (newTV h_1 (TV.agg [TV.str s_, TV.int IntKind.i64 (0 : Int), TV.bool false]) (118 : Nat)) fun (h_2 : Array Obj) ↦
 Vc.Bind
 (newTV h_2
 (TV.agg
 [TV.int IntKind.i64 (0 : Int), TV.int IntKind.i64 (0 : Int), TV.bytes (32 : Nat) (Bs.zero (32 : Nat)), TV.int IntKind.i64 (0 : Int),
 TV.int IntKind.u64 (0 : Int), TV.slice Sl.nil, TV.bytes (16 : Nat) (Bs.zero (16 : Nat))])
 (63 : Nat))
 fun (h_3 : Array Obj) ↦
 CallsH Try.prog (63 : Nat) (TVs.vals [TV.ptr (some (Loc.mk (Array.size h_1) (0 : Nat))), TV.int IntKind.i64 (1 : Int)]) h_3
 fun (v : Value) (h_4 : Array Obj) ↦
 ∃ (n : Int),
 v = TV.val (TV.int IntKind.u64 n) ∧
 wok h_4 (Array.size h_2) (0 : Nat) (1 : Nat) ∧
 Vc.Bind (TV.put h_4 (Array.size h_2) (0 : Nat) (TV.int IntKind.i64 (IntKind.wrap IntKind.i64 n))) fun (h_5 : Array Obj) ↦
 CallsH Try.prog (63 : Nat) (TVs.vals [TV.ptr (some (Loc.mk (Array.size h_1) (0 : Nat))), TV.int IntKind.i64 (4 : Int)]) h_5
 fun (v : Value) (h_6 : Array Obj) ↦
 ∃ (n : Int),
 v = TV.val (TV.int IntKind.u64 n) ∧
 wok h_6 (Array.size h_2) (1 : Nat) (1 : Nat) ∧
 Vc.Bind (TV.put h_6 (Array.size h_2) (1 : Nat) (TV.int IntKind.i64 (IntKind.wrap IntKind.i64 n))) fun (h_7 : Array Obj) ↦
 Go.Vc.Loop (0 : Int) h_7 fun (s : Int) (h_8 : Array Obj) (K : Int → Array Obj → Prop) ↦
 If (decide (s < (32 : Int)))
 (CallsH Try.prog (63 : Nat) (TVs.vals [TV.ptr (some (Loc.mk (Array.size h_1) (0 : Nat))), TV.int IntKind.i64 (1 : Int)]) h_8
 fun (v : Value) (h : Array Obj) ↦
 ∃ (n : Int),
 v = TV.val (TV.int IntKind.u64 n) ∧
 (0 : Int) ≤ s ∧
 s < (↑(32 : Nat) : Int) ∧
 wok h (Array.size h_2) ((2 : Nat) + Int.toNat s * (1 : Nat)) (1 : Nat) ∧
 Vc.Bind
 (TV.put h (Array.size h_2) ((2 : Nat) + Int.toNat s * (1 : Nat)) (TV.int IntKind.u8 (IntKind.wrap IntKind.u8 n)))
 fun (h : Array Obj) ↦ K (IntKind.wrap IntKind.i64 (s + (1 : Int))) h)
 (Join
 (fun (s : Int) (h_9 : Array Obj) ↦
 Join
 (fun (s : Int) (h_10 : Array Obj) ↦
 Join
 (fun (s_1 : Bool × Int) (h_11 : Array Obj) ↦
 Go.Vc.Loop (0 : Int) h_11 fun (s_2 : Int) (h_12 : Array Obj) (K : Int → Array Obj → Prop) ↦
 If (decide (s_2 < (16 : Int)))
 (CallsH Try.prog (63 : Nat)
 (TVs.vals [TV.ptr (some (Loc.mk (Array.size h_1) (0 : Nat))), TV.int IntKind.i64 (1 : Int)]) h_12
 fun (v : Value) (h : Array Obj) ↦
 ∃ (n : Int),
 v = TV.val (TV.int IntKind.u64 n) ∧
 (0 : Int) ≤ s_2 ∧
 s_2 < (↑(16 : Nat) : Int) ∧
 wok h (Array.size h_2) ((37 : Nat) + Int.toNat s_2 * (1 : Nat)) (1 : Nat) ∧
 Vc.Bind
 (TV.put h (Array.size h_2) ((37 : Nat) + Int.toNat s_2 * (1 : Nat))
 (TV.int IntKind.u8 (IntKind.wrap IntKind.u8 n)))
 fun (h : Array Obj) ↦ K (IntKind.wrap IntKind.i64 (s_2 + (1 : Int))) h)
 (If (!decide (s_1.snd = (0 : Int)))
 (wok h_12 (Array.size h) (0 : Nat) (53 : Nat) ∧
 Vc.Bind
 (TV.put h_12 (Array.size h) (0 : Nat)
 (TV.agg
 [TV.int IntKind.i64 (0 : Int), TV.int IntKind.i64 (0 : Int), TV.bytes (32 : Nat) (Bs.zero (32 : Nat)),
 TV.int IntKind.i64 (0 : Int), TV.int IntKind.u64 (0 : Int), TV.slice Sl.nil,
 TV.bytes (16 : Nat) (Bs.zero (16 : Nat))]))
 fun (h_13 : Array Obj) ↦
 ∃ (n : Int),
 ∃ (n_1 : Int),
 ∃ (b : Bs (32 : Nat)),
 ∃ (n_2 : Int),
 ∃ (n_3 : Int),
 ∃ (s : Sl),
 ∃ (b_1 : Bs (16 : Nat)),
 (at1 h_13 (Array.size h) (0 : Nat) (Value.int IntKind.i64 n) ∧
 at1 h_13 (Array.size h) (1 : Nat) (Value.int IntKind.i64 n_1) ∧
 atBytes h_13 (Array.size h) (2 : Nat) (32 : Nat) b ∧
 at1 h_13 (Array.size h) (34 : Nat) (Value.int IntKind.i64 n_2) ∧
 at1 h_13 (Array.size h) (35 : Nat) (Value.int IntKind.u64 n_3) ∧
 at1 h_13 (Array.size h) (36 : Nat) (slVal s) ∧
 atBytes h_13 (Array.size h) (37 : Nat) (16 : Nat) b_1) ∧
 R
 (TV.val
 (TV.tup
 [TV.agg
 [TV.int IntKind.i64 n, TV.int IntKind.i64 n_1, TV.bytes (32 : Nat) b,
 TV.int IntKind.i64 n_2, TV.int IntKind.u64 n_3, TV.slice s,
 TV.bytes (16 : Nat) b_1],
 TV.bool false]))
 h_13)
 (CallsH Try.prog (66 : Nat) (TVs.vals [TV.ptr (some (Loc.mk (Array.size h_1) (0 : Nat)))]) h_12
 fun (v : Value) (h_13 : Array Obj) ↦
 ∃ (b : Bool),
 v = TV.val (TV.bool b) ∧
 If (!b)
 (wok h_13 (Array.size h) (0 : Nat) (53 : Nat) ∧
 Vc.Bind
 (TV.put h_13 (Array.size h) (0 : Nat)
 (TV.agg
 [TV.int IntKind.i64 (0 : Int), TV.int IntKind.i64 (0 : Int),
 TV.bytes (32 : Nat) (Bs.zero (32 : Nat)), TV.int IntKind.i64 (0 : Int),
 TV.int IntKind.u64 (0 : Int), TV.slice Sl.nil, TV.bytes (16 : Nat) (Bs.zero (16 : Nat))]))
 fun (h_14 : Array Obj) ↦
 ∃ (n : Int),
 ∃ (n_1 : Int),
 ∃ (b : Bs (32 : Nat)),
 ∃ (n_2 : Int),
 ∃ (n_3 : Int),
 ∃ (s : Sl),
 ∃ (b_1 : Bs (16 : Nat)),
 (at1 h_14 (Array.size h) (0 : Nat) (Value.int IntKind.i64 n) ∧
 at1 h_14 (Array.size h) (1 : Nat) (Value.int IntKind.i64 n_1) ∧
 atBytes h_14 (Array.size h) (2 : Nat) (32 : Nat) b ∧
 at1 h_14 (Array.size h) (34 : Nat) (Value.int IntKind.i64 n_2) ∧
 at1 h_14 (Array.size h) (35 : Nat) (Value.int IntKind.u64 n_3) ∧
 at1 h_14 (Array.size h) (36 : Nat) (slVal s) ∧
 atBytes h_14 (Array.size h) (37 : Nat) (16 : Nat) b_1) ∧
 R
 (TV.val
 (TV.tup
 [TV.agg
 [TV.int IntKind.i64 n, TV.int IntKind.i64 n_1, TV.bytes (32 : Nat) b,
 TV.int IntKind.i64 n_2, TV.int IntKind.u64 n_3, TV.slice s,
 TV.bytes (16 : Nat) b_1],
 TV.bool false]))
 h_14)
 (∃ (n : Int),
 ∃ (n_1 : Int),
 ∃ (b : Bs (32 : Nat)),
 ∃ (n_2 : Int),
 ∃ (n_3 : Int),
 ∃ (s : Sl),
 ∃ (b_1 : Bs (16 : Nat)),
 (at1 h_13 (Array.size h_2) (0 : Nat) (Value.int IntKind.i64 n) ∧
 at1 h_13 (Array.size h_2) (1 : Nat) (Value.int IntKind.i64 n_1) ∧
 atBytes h_13 (Array.size h_2) (2 : Nat) (32 : Nat) b ∧
 at1 h_13 (Array.size h_2) (34 : Nat) (Value.int IntKind.i64 n_2) ∧
 at1 h_13 (Array.size h_2) (35 : Nat) (Value.int IntKind.u64 n_3) ∧
 at1 h_13 (Array.size h_2) (36 : Nat) (slVal s) ∧
 atBytes h_13 (Array.size h_2) (37 : Nat) (16 : Nat) b_1) ∧
 CallsH Try.prog (57 : Nat)
 (TVs.vals
 [TV.agg
 [TV.int IntKind.i64 n, TV.int IntKind.i64 n_1, TV.bytes (32 : Nat) b,
 TV.int IntKind.i64 n_2, TV.int IntKind.u64 n_3, TV.slice s,
 TV.bytes (16 : Nat) b_1]])
 h_13 fun (v : Value) (h_14 : Array Obj) ↦
 ∃ (b : Bool),
 v = TV.val (TV.bool b) ∧
 If (!b)
 (wok h_14 (Array.size h) (0 : Nat) (53 : Nat) ∧
 Vc.Bind
 (TV.put h_14 (Array.size h) (0 : Nat)
 (TV.agg
 [TV.int IntKind.i64 (0 : Int), TV.int IntKind.i64 (0 : Int),
 TV.bytes (32 : Nat) (Bs.zero (32 : Nat)),
 TV.int IntKind.i64 (0 : Int), TV.int IntKind.u64 (0 : Int),
 TV.slice Sl.nil, TV.bytes (16 : Nat) (Bs.zero (16 : Nat))]))
 fun (h_15 : Array Obj) ↦
 ∃ (n : Int),
 ∃ (n_4 : Int),
 ∃ (b : Bs (32 : Nat)),
 ∃ (n_5 : Int),
 ∃ (n_6 : Int),
 ∃ (s : Sl),
 ∃ (b_2 : Bs (16 : Nat)),
 (at1 h_15 (Array.size h) (0 : Nat)
 (Value.int IntKind.i64 n) ∧
 at1 h_15 (Array.size h) (1 : Nat)
 (Value.int IntKind.i64 n_4) ∧
 atBytes h_15 (Array.size h) (2 : Nat) (32 : Nat) b ∧
 at1 h_15 (Array.size h) (34 : Nat)
 (Value.int IntKind.i64 n_5) ∧
 at1 h_15 (Array.size h) (35 : Nat)
 (Value.int IntKind.u64 n_6) ∧
 at1 h_15 (Array.size h) (36 : Nat) (slVal s) ∧
 atBytes h_15 (Array.size h) (37 : Nat)
 (16 : Nat) b_2) ∧
 R
 (TV.val
 (TV.tup
 [TV.agg
 [TV.int IntKind.i64 n, TV.int IntKind.i64 n_4,
 TV.bytes (32 : Nat) b, TV.int IntKind.i64 n_5,
 TV.int IntKind.u64 n_6, TV.slice s,
 TV.bytes (16 : Nat) b_2],
 TV.bool false]))
 h_15)
 (∃ (n : Int),
 ∃ (n_4 : Int),
 ∃ (b : Bs (32 : Nat)),
 ∃ (n_5 : Int),
 ∃ (n_6 : Int),
 ∃ (s : Sl),
 ∃ (b_2 : Bs (16 : Nat)),
 (at1 h_14 (Array.size h_2) (0 : Nat) (Value.int IntKind.i64 n) ∧
 at1 h_14 (Array.size h_2) (1 : Nat)
 (Value.int IntKind.i64 n_4) ∧
 atBytes h_14 (Array.size h_2) (2 : Nat) (32 : Nat) b ∧
 at1 h_14 (Array.size h_2) (34 : Nat)
 (Value.int IntKind.i64 n_5) ∧
 at1 h_14 (Array.size h_2) (35 : Nat)
 (Value.int IntKind.u64 n_6) ∧
 at1 h_14 (Array.size h_2) (36 : Nat) (slVal s) ∧
 atBytes h_14 (Array.size h_2) (37 : Nat)
 (16 : Nat) b_2) ∧
 wok h_14 (Array.size h) (0 : Nat) (53 : Nat) ∧
 Vc.Bind
 (TV.put h_14 (Array.size h) (0 : Nat)
 (TV.agg
 [TV.int IntKind.i64 n, TV.int IntKind.i64 n_4,
 TV.bytes (32 : Nat) b, TV.int IntKind.i64 n_5,
 TV.int IntKind.u64 n_6, TV.slice s,
 TV.bytes (16 : Nat) b_2]))
 fun (h_15 : Array Obj) ↦
 ∃ (n : Int),
 ∃ (n_7 : Int),
 ∃ (b : Bs (32 : Nat)),
 ∃ (n_8 : Int),
 ∃ (n_9 : Int),
 ∃ (s : Sl),
 ∃ (b_3 : Bs (16 : Nat)),
 (at1 h_15 (Array.size h) (0 : Nat)
 (Value.int IntKind.i64 n) ∧
 at1 h_15 (Array.size h) (1 : Nat)
 (Value.int IntKind.i64 n_7) ∧
 atBytes h_15 (Array.size h) (2 : Nat)
 (32 : Nat) b ∧
 at1 h_15 (Array.size h) (34 : Nat)
 (Value.int IntKind.i64 n_8) ∧
 at1 h_15 (Array.size h) (35 : Nat)
 (Value.int IntKind.u64 n_9) ∧
 at1 h_15 (Array.size h)
 (36 : Nat) (slVal s) ∧
 atBytes h_15 (Array.size h)
 (37 : Nat) (16 : Nat) b_3) ∧
 R
 (TV.val
 (TV.tup
 [TV.agg
 [TV.int IntKind.i64 n,
 TV.int IntKind.i64 n_7,
 TV.bytes (32 : Nat) b,
 TV.int IntKind.i64 n_8,
 TV.int IntKind.u64 n_9,
 TV.slice s,
 TV.bytes (16 : Nat) b_3],
 TV.bool true]))
 h_15)))))
 fun (J : Bool × Int → Array Obj → Prop) ↦
 ∃ (n : Int),
 at1 h_10 (Array.size h_2) (0 : Nat) (Value.int IntKind.i64 n) ∧
 If (decide (n = (3 : Int)))
 (CallsH Try.prog (65 : Nat) (TVs.vals [TV.ptr (some (Loc.mk (Array.size h_1) (0 : Nat))), TV.int IntKind.i64 s])
 h_10 fun (v : Value) (h_11 : Array Obj) ↦
 ∃ (s : List UInt8),
 v = TV.val (TV.str s) ∧
 CallsH Try.prog (64 : Nat) (TVs.vals [TV.str s, TV.int IntKind.i64 (16 : Int)]) h_11
 fun (v : Value) (h_12 : Array Obj) ↦
 ∃ (s : Sl),
 ∃ (b : Bool),
 v = TV.val (TV.tup [TV.slice s, TV.bool b]) ∧
 If (!b)
 (wok h_12 (Array.size h) (0 : Nat) (53 : Nat) ∧
 Vc.Bind
 (TV.put h_12 (Array.size h) (0 : Nat)
 (TV.agg
 [TV.int IntKind.i64 (0 : Int), TV.int IntKind.i64 (0 : Int),
 TV.bytes (32 : Nat) (Bs.zero (32 : Nat)), TV.int IntKind.i64 (0 : Int),
 TV.int IntKind.u64 (0 : Int), TV.slice Sl.nil,
 TV.bytes (16 : Nat) (Bs.zero (16 : Nat))]))
 fun (h_13 : Array Obj) ↦
 ∃ (n : Int),
 ∃ (n_1 : Int),
 ∃ (b : Bs (32 : Nat)),
 ∃ (n_2 : Int),
 ∃ (n_3 : Int),
 ∃ (s : Sl),
 ∃ (b_1 : Bs (16 : Nat)),
 (at1 h_13 (Array.size h) (0 : Nat) (Value.int IntKind.i64 n) ∧
 at1 h_13 (Array.size h) (1 : Nat) (Value.int IntKind.i64 n_1) ∧
 atBytes h_13 (Array.size h) (2 : Nat) (32 : Nat) b ∧
 at1 h_13 (Array.size h) (34 : Nat) (Value.int IntKind.i64 n_2) ∧
 at1 h_13 (Array.size h) (35 : Nat) (Value.int IntKind.u64 n_3) ∧
 at1 h_13 (Array.size h) (36 : Nat) (slVal s) ∧
 atBytes h_13 (Array.size h) (37 : Nat) (16 : Nat) b_1) ∧
 R
 (TV.val
 (TV.tup
 [TV.agg
 [TV.int IntKind.i64 n, TV.int IntKind.i64 n_1,
 TV.bytes (32 : Nat) b, TV.int IntKind.i64 n_2,
 TV.int IntKind.u64 n_3, TV.slice s, TV.bytes (16 : Nat) b_1],
 TV.bool false]))
 h_13)
 (wok h_12 (Array.size h_2) (36 : Nat) (1 : Nat) ∧
 Vc.Bind (TV.put h_12 (Array.size h_2) (36 : Nat) (TV.slice s)) fun (h : Array Obj) ↦
 J (false, (0 : Int)) h))
 (J (false, s) h_10))
 fun (J : Int → Array Obj → Prop) ↦
 ∃ (n : Int),
 at1 h_9 (Array.size h_2) (0 : Nat) (Value.int IntKind.i64 n) ∧
 If (decide (n = (1 : Int)))
 (CallsH Try.prog (63 : Nat)
 (TVs.vals [TV.ptr (some (Loc.mk (Array.size h_1) (0 : Nat))), TV.int IntKind.i64 (8 : Int)]) h_9
 fun (v : Value) (h : Array Obj) ↦
 ∃ (n : Int),
 v = TV.val (TV.int IntKind.u64 n) ∧
 wok h (Array.size h_2) (35 : Nat) (1 : Nat) ∧
 Vc.Bind (TV.put h (Array.size h_2) (35 : Nat) (TV.int IntKind.u64 n)) fun (h : Array Obj) ↦
 J (IntKind.wrap IntKind.i64 (s - (8 : Int))) h)
 (J s h_9))
 fun (J : Int → Array Obj → Prop) ↦
 ∃ (n : Int),
 at1 h_8 (Array.size h_2) (0 : Nat) (Value.int IntKind.i64 n) ∧
 If (decide (n = (1 : Int)))
 (CallsH Try.prog (63 : Nat) (TVs.vals [TV.ptr (some (Loc.mk (Array.size h_1) (0 : Nat))), TV.int IntKind.i64 (2 : Int)])
 h_8 fun (v : Value) (h : Array Obj) ↦
 ∃ (n : Int),
 v = TV.val (TV.int IntKind.u64 n) ∧
 wok h (Array.size h_2) (34 : Nat) (1 : Nat) ∧
 Vc.Bind (TV.put h (Array.size h_2) (34 : Nat) (TV.int IntKind.i64 (IntKind.wrap IntKind.i64 n)))
 fun (h : Array Obj) ↦
 J
 (IntKind.wrap IntKind.i64
 (IntKind.wrap IntKind.i64
 (IntKind.wrap IntKind.i64 ((↑(List.length s_) : Int) - (37 : Int)) - (16 : Int)) -
 (2 : Int)))
 h)
 (∃ (n : Int),
 at1 h_8 (Array.size h_2) (0 : Nat) (Value.int IntKind.i64 n) ∧
 If (decide (n = (2 : Int)))
 (CallsH Try.prog (63 : Nat)
 (TVs.vals [TV.ptr (some (Loc.mk (Array.size h_1) (0 : Nat))), TV.int IntKind.i64 (2 : Int)]) h_8
 fun (v : Value) (h : Array Obj) ↦
 ∃ (n : Int),
 v = TV.val (TV.int IntKind.u64 n) ∧
 wok h (Array.size h_2) (34 : Nat) (1 : Nat) ∧
 Vc.Bind (TV.put h (Array.size h_2) (34 : Nat) (TV.int IntKind.i64 (IntKind.wrap IntKind.i64 n)))
 fun (h : Array Obj) ↦
 J
 (IntKind.wrap IntKind.i64
 (IntKind.wrap IntKind.i64
 (IntKind.wrap IntKind.i64 ((↑(List.length s_) : Int) - (37 : Int)) - (16 : Int)) -
 (2 : Int)))
 h)
 (J (IntKind.wrap IntKind.i64 (IntKind.wrap IntKind.i64 ((↑(List.length s_) : Int) - (37 : Int)) - (16 : Int)))
 h_8))))

theorem tollerref07_Decode_calls (s_ : List UInt8) (h : Heap) (R : Value → Heap → Prop) (H : tollerref07_Decode_vc s_ h R) : CallsH Try.prog 28 (TVs.vals [TV.str s_]) h R :=
 vcFn_sound (C := ctx) ctx_ok (fn := Try.f28) Try.func28 ((by kernel_rfl : tollerref07_Decode_vc s_ h R = vcFn ctx Try.f28 [TV.str s_] h R) ▸ H)


end Go.Proofs.Ytldocdpdjdekiaa
end

section
/- The document's way from bytes to a message. -/
namespace Go.Proofs.Ytldocdpdjdekiaa.Board
open Go Go.Vc

theorem topBit_is {c : UInt8} {k : Nat} (h8 : k < 8) (hy : bitAt c k = true) (hn : ∀ j, k < j → j < 8 → bitAt c j = false) : c ≠ 0 ∧ topBit c = k := by
  have hc : c ≠ 0 := by
    rintro rfl
    rw [bit_zero] at hy
    cases hy
  refine ⟨hc, ?_⟩
  have h1 := topBit_lt hc
  have h2 := topBit_yes hc
  rcases Nat.lt_trichotomy (topBit c) k with h | h | h
  · rw [topBit_no hc h h8] at hy; cases hy
  · exact h
  · rw [hn _ h h1] at h2; cases h2

theorem zero_byte {c : UInt8} (hn : ∀ j, j < 8 → bitAt c j = false) : c = 0 := by
  apply Classical.byContradiction
  intro h
  have h1 := topBit_yes h
  rw [hn _ (topBit_lt h)] at h1
  cases h1

theorem bits8_take {c : UInt8} {k : Nat} (h : k < 8) : (bits8 c).take (k + 1) = (bits8 c).take k ++ [bitAt c k] := by
  refine take_snoc ?_
  simp [bits8, h]

section
variable {R : Value → Heap → Prop} {h : Heap}

set_option maxRecDepth 100000 in
set_option maxHeartbeats 1000000 in
theorem docget_spec {s : List UInt8} (hs : s.length < 1000) (hn : getF s 16 = none → ∀ h' t, Ext h h' → R (TV.tup [.slice t, .bool false]).val h')
    (hy : ∀ row h' t, getF s 16 = some row → Elems 1 h' t (bools row) → Ext h h' → (∀ l, t.a = some l → h.size ≤ l.b ∧ l.b < h'.size) → R (TV.tup [.slice t, .bool true]).val h') :
    CallsH Try.prog 64 (TVs.vals [.str s, .int .i64 16]) h R := by
  apply tollerref02_Get_calls
  unfold tollerref02_Get_vc
  refine ⟨fun σ hh => 0 ≤ σ.2 ∧ σ.2 ≤ s.length ∧ Own 4 1 hh σ.1 (bools (bitsOf (s.take σ.2.toNat))) ∧ (∀ l, σ.1.a = some l → h.size ≤ l.b) ∧ Ext h hh, fun σ _ => ((s.length : Int) - σ.2).toNat,
    ⟨Int.le_refl 0, by first | omega | (dsimp only; omega), Own.nil _ _ _, (fun l hl => by cases hl), Ext.refl _⟩, ?_⟩
  rintro ⟨t, i⟩ h1 ⟨i0, i1, o1, b1, x1⟩
  dsimp only at i0 i1 o1 b1 x1 ⊢
  refine If.dec.2 ⟨fun hi => ⟨i0, hi, ?_⟩, fun hi => ?_⟩
  · have hc := (s.getD i.toNat 0).toNat_lt
    have hget : s[i.toNat]? = some (s.getD i.toNat 0) := by rw [List.getD_eq_getElem?_getD, List.getElem?_eq_getElem (by omega)]; rfl
    have htk : bitsOf (s.take (i.toNat + 1)) = bitsOf (s.take i.toNat) ++ bits8 (s.getD i.toNat 0) := by rw [take_snoc hget, bitsOf_snoc]
    generalize s.getD i.toNat 0 = c at hc htk
    rw [wrap_i64 (n := (c.toNat : Int)) (by omega) (by omega)]
    refine ⟨fun σ hh => 0 ≤ σ.2.2 ∧ σ.2.2 ≤ 8 ∧ Own 4 1 hh σ.1 (bools (bitsOf (s.take i.toNat) ++ (bits8 c).take σ.2.2.toNat)) ∧ (∀ l, σ.1.a = some l → h.size ≤ l.b) ∧ Ext h hh ∧ σ.2.1 = ((c.toNat / 2 ^ σ.2.2.toNat : Nat) : Int), fun σ _ => ((8 : Int) - σ.2.2).toNat,
      ⟨Int.le_refl 0, by first | omega | (dsimp only; omega), by simpa using o1, b1, x1, by simp⟩, ?_⟩
    rintro ⟨t2, u, k⟩ h2 ⟨k0, k1, o2, b2, x2, hu⟩
    dsimp only at k0 k1 o2 b2 x2 hu ⊢
    refine If.dec.2 ⟨fun hk => ⟨by decide, ?_⟩, fun hk => ?_⟩
    · have hbit : decide (Int.tmod u 2 = 1) = bitAt c k.toNat := by
        unfold bitAt
        rw [hu, Int.tmod_eq_emod_of_nonneg (Int.natCast_nonneg _)]
        apply decide_eq_decide.2
        omega
      have ol := o2.len
      rw [List.length_map, List.length_append, bitsOf_length, List.length_take, List.length_take, bits8_length] at ol
      rw [hbit]
      refine append1 (C := ctx) (T := 4) (sz := 1) (x := .bool (bitAt c k.toNat)) sz4 zz4 (by rw [b4]; decide) (by rw [b4]; omega) o2 rfl rfl fun t3 h3 o3 f3 b3 => ⟨by decide, ?_⟩
      have z2 := x2.size
      have hdiv : Int.tdiv u 2 = ((c.toNat / 2 ^ (k.toNat + 1) : Nat) : Int) := by
        rw [hu, Int.tdiv_eq_ediv_of_nonneg (Int.natCast_nonneg _), Nat.pow_succ, ← Nat.div_div_eq_div_mul]
        omega
      have hle : c.toNat / 2 ^ (k.toNat + 1) ≤ c.toNat := Nat.div_le_self _ _
      have hk1 : (k + 1).toNat = k.toNat + 1 := by omega
      obtain ⟨Q, hQ⟩ : ∃ Q, Q = c.toNat / 2 ^ (k.toNat + 1) := ⟨_, rfl⟩
      rw [← hQ] at hdiv hle
      rw [hdiv, wrap_i64 (n := (Q : Int)) (by omega) (by omega), wrap_i64 (n := k + 1) (by omega) (by omega)]
      refine ⟨⟨by first | omega | (dsimp only; omega), by first | omega | (dsimp only; omega), ?_, fun p hp => ?_, Only.cut x2 f3 fun j ⟨p, hp, hj⟩ => by have := b2 p hp; omega, by rw [hk1, hQ]⟩, by first | omega | (dsimp only; omega)⟩
      · try dsimp only
        rw [hk1, bits8_take (by omega), ← List.append_assoc]
        simpa [bools] using o3
      · rcases b3 p hp with ⟨p', h1', h2'⟩ | h1'
        · have := b2 p' h1'; omega
        · omega
    · have hk8 : k.toNat = 8 := by omega
      have hb8 : (bits8 c).take 8 = bits8 c := List.take_of_length_le (by rw [bits8_length]; exact Nat.le_refl 8)
      rw [hk8, hb8, ← htk] at o2
      rw [wrap_i64 (n := i + 1) (by omega) (by omega)]
      refine ⟨⟨by first | omega | (dsimp only; omega), by first | omega | (dsimp only; omega), ?_, b2, x2⟩, by first | omega | (dsimp only; omega)⟩
      try dsimp only
      rw [show (i + 1).toNat = i.toNat + 1 by omega]
      exact o2
  · have hin : i.toNat = s.length := by omega
    rw [hin, List.take_length] at o1
    have ol := o1.len
    rw [List.length_map, bitsOf_length] at ol
    have hbget := bitsOf_get s
    have hw1 : IntKind.wrap .i64 ((t.len : Int) - 1) = (t.len : Int) - 1 := wrap_i64 (by omega) (by omega)
    have hw8 : IntKind.wrap .i64 ((t.len : Int) - 8) = (t.len : Int) - 8 := wrap_i64 (by omega) (by omega)
    rw [hw1, hw8]
    refine ⟨fun σ hh => -1 ≤ σ.2.2 ∧ σ.2.2 < t.len ∧ (t.len : Int) - 9 ≤ σ.2.2 ∧ hh = h1 ∧ ∀ j : Nat, σ.2.2 < j → j < t.len → (bitsOf s)[j]? = some false, fun σ _ => (σ.2.2 + 1).toNat,
      ⟨by first | omega | (dsimp only; omega), by first | omega | (dsimp only; omega), by first | omega | (dsimp only; omega), rfl, fun j h1' h2' => by dsimp only at h1'; omega⟩, ?_⟩
    rintro ⟨t0, b0, n⟩ hh ⟨n0, n1, n2, rfl, hall⟩
    dsimp only at n0 n1 n2 hall ⊢
    intro J HJ
    have lastF : ∀ (L : Nat), s.length = L + 1 → s.getLastD 0 = s.getD L 0 := by
      intro L hL
      have := last_get (s := s) (by intro he; rw [he] at hL; simp at hL)
      rw [← this, hL]
      rfl
    refine If.dec.2 ⟨fun hn0 => If.dec.2 ⟨fun hn8 => HJ _ _ ?_, fun hn8 => ?_⟩, fun hn0 => ?_⟩
    · refine read_bool o1.elems hn0 (by rw [bitsOf_length]; omega) fun x hx => ?_
      have hns := hbget n.toNat (by omega)
      rw [hns] at hx
      refine If.split (fun hb => ⟨hn0, by have := o1.cap; omega, ?_⟩) fun hb => ?_
      · obtain ⟨L, hL⟩ : ∃ L, s.length = L + 1 := ⟨s.length - 1, by omega⟩
        have hdiv : n.toNat / 8 = L := by omega
        have hx' : bitAt (s.getLastD 0) (n.toNat % 8) = true := by
          rw [lastF L hL, ← hdiv, Option.some.inj hx]; exact hb
        obtain ⟨hc, htop⟩ := topBit_is (Nat.mod_lt _ (by decide)) hx' fun j h1' h2' => by
          have h3' := hall (8 * L + j) (by omega) (by omega)
          rw [hbget _ (by omega), show (8 * L + j) / 8 = L by omega, show (8 * L + j) % 8 = j by omega, ← lastF L hL] at h3'
          exact Option.some.inj h3'
        have hrl : rowLen s = n.toNat := by unfold rowLen; rw [htop]; omega
        have hg : getF s 16 = if 16 < n.toNat then none else some ((bitsOf s).take n.toNat) := by
          unfold getF
          rw [if_neg (by rintro (h1 | h1); rw [h1] at hL; simp at hL; exact hc h1), hrl]
        by_cases h16 : n ≤ 16
        · rw [decide_eq_true h16]
          rw [if_neg (by omega)] at hg
          refine hy _ hh _ hg ?_ x1 fun l hl => (fun hl' => ⟨b1 l hl', o1.lt l hl'⟩) ?_
          · have := cut_prefix (n := n.toNat) o1.elems (by rw [List.length_map, bitsOf_length]; omega)
            rw [← List.map_take] at this
            exact this
          · have ha : (cutSl t 0 n.toNat 1).a = t.a := by
              unfold cutSl
              cases t.a with
              | none => simp
              | some l => simp
            rw [← ha]
            exact hl
        · rw [decide_eq_false h16]
          rw [if_pos (by omega)] at hg
          exact hn hg hh _ x1
      · rw [wrap_i64 (n := n - 1) (by omega) (by omega)]
        have hb' : x = false := by simpa using hb
        refine ⟨⟨by first | omega | (dsimp only; omega), by first | omega | (dsimp only; omega), by first | omega | (dsimp only; omega), rfl, fun j h1' h2' => ?_⟩, by first | omega | (dsimp only; omega)⟩
        try dsimp only at h1'
        by_cases hj : j = n.toNat
        · rw [hj, hns, hx, hb']
        · exact hall j (by omega) h2'
    · obtain ⟨L, hL⟩ : ∃ L, s.length = L + 1 := ⟨s.length - 1, by omega⟩
      refine hn ?_ hh _ x1
      have hz : s.getLastD 0 = 0 := zero_byte fun j hj => by
        have h3' := hall (8 * L + j) (by omega) (by omega)
        rw [hbget _ (by omega), show (8 * L + j) / 8 = L by omega, show (8 * L + j) % 8 = j by omega, ← lastF L hL] at h3'
        exact Option.some.inj h3'
      unfold getF
      rw [if_pos (.inr hz)]
    · refine hn ?_ hh _ x1
      by_cases he : s = []
      · unfold getF
        rw [if_pos (.inl he)]
      · obtain ⟨L, hL⟩ : ∃ L, s.length = L + 1 := ⟨s.length - 1, by have := List.length_pos_iff.2 he; omega⟩
        have hz : s.getLastD 0 = 0 := zero_byte fun j hj => by
          have h3' := hall (8 * L + j) (by omega) (by omega)
          rw [hbget _ (by omega), show (8 * L + j) / 8 = L by omega, show (8 * L + j) % 8 = j by omega, ← lastF L hL] at h3'
          exact Option.some.inj h3'
        unfold getF
        rw [if_pos (.inr hz)]

/-! ### Messages -/

structure DD (h hh : Heap) (q mb : Nat) (s : List UInt8) (at_ : Nat) (sh : Bool) (m : Ms) : Prop where
  rd : RdD hh q s at_ sh
  msg : Var 63 hh mb m.tv
  ans : Var 63 hh h.size zeroM.tv
  only : Only (fun i => h.size ≤ i) h hh
  q0 : h.size < q
  m0 : q < mb

section
variable {hh : Heap} {q mb : Nat} {s : List UInt8} {at_ : Nat} {sh : Bool} {m : Ms}

theorem DD.ext (d : DD h hh q mb s at_ sh m) : Ext h hh := Only.cut (Ext.refl h) d.only fun _ hi => hi
theorem DD.more {h' : Heap} (d : DD h hh q mb s at_ sh m) (x : Ext hh h') : DD h h' q mb s at_ sh m := ⟨Var.ext d.rd x, d.msg.ext x, d.ans.ext x, d.only.trans (Only.of_ext x), d.q0, d.m0⟩
theorem DD.read {h' : Heap} {at2 : Nat} {sh' : Bool} (d : DD h hh q mb s at_ sh m) (v : RdD h' q s at2 sh') (f : Only (fun i => i = q ∨ hh.size ≤ i) hh h') : DD h h' q mb s at2 sh' m :=
  ⟨v, d.msg.only f (by have := d.m0; have := d.msg.lt; omega), d.ans.only f (by have := d.q0; have := d.ans.lt; omega), d.only.trans (f.mono fun i hi => by have := d.q0; have := d.msg.lt; have := d.ans.lt; omega), d.q0, d.m0⟩
theorem DD.write {h' : Heap} {m' : Ms} (d : DD h hh q mb s at_ sh m) (v : Var 63 h' mb m'.tv) (f : Only (· = mb) hh h') : DD h h' q mb s at_ sh m' :=
  ⟨Var.only d.rd f (by have := d.m0; omega), v, d.ans.only f (by have := d.m0; have := d.q0; omega), d.only.trans (f.mono fun i hi => by have := d.q0; have := d.m0; omega), d.q0, d.m0⟩
end

theorem atD_ok {s : List UInt8} {a n : Nat} (h : a + n ≤ s.length) : atD s a false (n : Int) = a + n := by
  unfold atD
  rw [if_neg (by rintro (h1 | h1 | h1) <;> first | cases h1 | omega)]
  rfl


theorem w16 {l : List UInt8} (hl : l.length ≤ 2) : IntKind.wrap .i64 ((num l : Nat) : Int) = ((num l : Nat) : Int) := by
  have h1' := num_lt l
  have h3' : 256 ^ l.length ≤ 256 ^ 2 := Nat.pow_le_pow_right (by decide) hl
  rw [wrap_i64 (by omega) (by omega)]

theorem w32 {l : List UInt8} (hl : l.length ≤ 4) : IntKind.wrap .i64 ((num l : Nat) : Int) = ((num l : Nat) : Int) := by
  have h1' := num_lt l
  have h3' : 256 ^ l.length ≤ 256 ^ 4 := Nat.pow_le_pow_right (by decide) hl
  have h4' : 256 ^ 4 = 4294967296 := by decide
  rw [wrap_i64 (by omega) (by omega)]

theorem num1 {s : List UInt8} {a : Nat} (h : a < s.length) : num ((s.drop a).take 1) = (s.getD a 0).toNat := by
  rw [List.drop_eq_getElem_cons h, List.take_succ_cons, List.take_zero, num, num, List.getD_eq_getElem?_getD, List.getElem?_eq_getElem h]
  simp

theorem wrap_byte (c : UInt8) : IntKind.wrap .u8 ((c.toNat : Nat) : Int) = (c.toNat : Int) := by
  have := c.toNat_lt
  rw [wrap_u8]
  omega

theorem byte_is {c : UInt8} (k : UInt8) : ((c.toNat : Nat) : Int) = (k.toNat : Int) ↔ c = k := ⟨fun h => UInt8.toNat_inj.1 (by omega), fun h => by rw [h]⟩

theorem dec_53 {s : List UInt8} (h : s.length = 53) : decF s = none := by
  by_cases h1 : s.getD 0 0 = 1
  · rw [dec_one (by omega) h1, if_neg (by omega)]
  · by_cases h2 : s.getD 0 0 = 2
    · rw [dec_two (by omega) h2, if_neg (by omega)]
    · by_cases h3 : s.getD 0 0 = 3
      · rw [dec_three (by omega) h3, h]
        rfl
      · exact dec_other h1 h2 h3

theorem bsOf_zero (n : Nat) : bsOf n [] = Bs.zero n := by
  apply Bs.ext'
  simp [bsOf, Bs.zero]

set_option maxHeartbeats 2000000 in
set_option maxRecDepth 100000 in
theorem docdecode_spec {s : List UInt8} (hs : s.length < 1000) (hn : decF s = none → ∀ h', Ext h h' → R (TV.tup [zeroM.tv, .bool false]).val h')
    (hy : ∀ d h' b, decF s = some d → Elems 1 h' b (bools d.row) → Ext h h' → (∀ l, b.a = some l → h.size ≤ l.b ∧ l.b < h'.size) → R (TV.tup [(d.ms b).tv, .bool true]).val h') : CallsH Try.prog 28 (TVs.vals [.str s]) h R := by
  apply tollerref07_Decode_calls
  unfold tollerref07_Decode_vc
  refine newTV_in fun h1 v1 x1 s1 => ?_
  have v1 : Var 63 h1 h.size zeroM.tv := v1
  refine If.dec.2 ⟨fun h54 => ?_, fun h54 => ?_⟩
  · refine put_n (t := zeroM.tv) v1 mssz1 mssz fun h9 v9 f9 s9 => ms_at v9 (hn ?_ h9 (Only.cut x1 f9 fun i hi => by omega))
    by_cases h53 : s.length < 53
    · exact dec_short h53
    · exact dec_53 (by omega)
  have h54 : 54 ≤ s.length := by omega
  refine newTV_in fun h2 v2 x2 s2 => newTV_in fun h3 v3 x3 s3 => ?_
  have v3 : Var 63 h3 h2.size zeroM.tv := v3
  have d3 : DD h h3 h1.size h2.size s 0 false zeroM := ⟨Var.ext v2 x3, v3, (v1.ext x2).ext x3, Only.of_ext ((x1.trans x2).trans x3), by omega, by omega⟩
  refine duint_spec d3.rd (Nat.zero_le _) (by omega) (by decide) fun h4 r4 f4 => ⟨_, rfl, ?_⟩
  have e1 : rdB (s.drop 0) false 1 = ((s.drop 0).take 1, s.drop 1, false) := rdB_at (a := 0) (n := 1) (by omega)
  have a1 : atD s 0 false 1 = 1 := atD_ok (a := 0) (n := 1) (by omega)
  rw [a1, e1] at r4
  rw [e1]
  have d4 := d3.read r4 f4
  dsimp only
  rw [num1 (by omega)]
  have hc0 := (s.getD 0 0).toNat_lt
  have hw0 : IntKind.wrap .i64 (((s.getD 0 0).toNat : Nat) : Int) = ((s.getD 0 0).toNat : Int) := by rw [wrap_i64 (by omega) (by omega)]
  rw [hw0]
  generalize h1.size = q at *
  generalize h2.size = mb at *
  refine field_in (i := 0) (t := .int .i64 ((s.getD 0 0).toNat : Int)) (t0 := .int .i64 0) d4.msg rfl rfl rfl rfl fun h5 v5 f5 s5 => ?_
  have d5 : DD h h5 q mb s 1 false (Ms.mk ((s.getD 0 0).toNat : Int) 0 (Bs.zero 32) 0 0 Sl.nil (Bs.zero 16)) := d4.write v5 f5
  obtain ⟨K, hK⟩ : ∃ K : Int, K = ((s.getD 0 0).toNat : Int) := ⟨_, rfl⟩
  rw [← hK] at d5
  refine duint_spec d5.rd (by omega) (by omega) (by decide) fun h6 r6 f6 => ⟨_, rfl, ?_⟩
  have e2 : rdB (s.drop 1) false 4 = ((s.drop 1).take 4, s.drop 5, false) := rdB_at (a := 1) (n := 4) (by omega)
  have a2 : atD s 1 false 4 = 5 := atD_ok (a := 1) (n := 4) (by omega)
  rw [a2, e2] at r6
  rw [e2]
  have d6 := d5.read r6 f6
  dsimp only
  rw [w32 (by rw [List.length_take]; omega)]
  obtain ⟨S, hS⟩ : ∃ S : Int, S = ((num ((s.drop 1).take 4) : Nat) : Int) := ⟨_, rfl⟩
  rw [← hS]
  refine field_in (i := 1) (t := .int .i64 S) (t0 := .int .i64 0) d6.msg rfl rfl rfl rfl fun h7 v7 f7 s7 => ?_
  have d7 : DD h h7 q mb s 5 false (Ms.mk K S (Bs.zero 32) 0 0 Sl.nil (Bs.zero 16)) := d6.write v7 f7
  -- the target
  refine ⟨fun i hh => 0 ≤ i ∧ i ≤ 32 ∧ DD h hh q mb s (5 + i.toNat) false (Ms.mk K S (bsOf 32 ((s.drop 5).take i.toNat)) 0 0 Sl.nil (Bs.zero 16)), fun i _ => ((32 : Int) - i).toNat, ⟨Int.le_refl 0, by decide, ?_⟩, ?_⟩
  · have : bsOf 32 ((s.drop 5).take (0 : Int).toNat) = Bs.zero 32 := bsOf_zero 32
    rw [this]
    exact d7
  rintro i h8 ⟨i0, i1, d8⟩
  refine If.dec.2 ⟨fun hi => ?_, fun hi => ?_⟩
  · refine duint_spec d8.rd (by omega) (by omega) (by decide) fun h9 r9 f9 => ⟨_, rfl, i0, hi, ?_⟩
    have e3 : rdB (s.drop (5 + i.toNat)) false 1 = ((s.drop (5 + i.toNat)).take 1, s.drop (5 + i.toNat + 1), false) := rdB_at (n := 1) (by omega)
    have a3 : atD s (5 + i.toNat) false 1 = 5 + i.toNat + 1 := atD_ok (n := 1) (by omega)
    rw [a3, e3] at r9
    rw [e3]
    have d9 := d8.read r9 f9
    dsimp only
    have hb := (s.getD (5 + i.toNat) 0).toNat_lt
    have hget : (s.drop 5)[i.toNat]? = some (s.getD (5 + i.toNat) 0) := by rw [List.getElem?_drop, List.getD_eq_getElem?_getD, List.getElem?_eq_getElem (by omega)]; rfl
    rw [num1 (by omega), wrap_byte]
    refine byte_field (i := 2) (o := 2) (k := i.toNat) d9.msg rfl rfl (by omega) (by omega) (by omega) (by omega) fun h10 v10 f10 s10 => ?_
    rw [Int.toNat_natCast, UInt8.ofNat_toNat, bsOf_snoc hget (by omega)] at v10
    rw [wrap_i64 (n := i + 1) (by omega) (by omega)]
    refine ⟨⟨by omega, by omega, ?_⟩, by first | omega | (dsimp only; omega)⟩
    rw [show (i + 1).toNat = i.toNat + 1 by omega]
    exact d9.write v10 f10
  have hi32 : i.toNat = 32 := by omega
  rw [hi32] at d8
  obtain ⟨T, hT⟩ : ∃ T, T = bsOf 32 ((s.drop 5).take 32) := ⟨_, rfl⟩
  rw [← hT] at d8
  have d8 : DD h h8 q mb s 37 false (Ms.mk K S T 0 0 Sl.nil (Bs.zero 16)) := d8
  have no : ∀ hh a sh m, DD h hh q mb s a sh m → decF s = none → wok hh h.size 0 53 ∧ Bind (TV.put hh h.size 0 zeroM.tv) fun (h_2 : Heap) =>
      ∃ (n : Int), ∃ (n_1 : Int), ∃ (b_ : Bs 32), ∃ (n_2 : Int), ∃ (n_3 : Int), ∃ (s : Sl), ∃ (b_1 : Bs 16), (at1 h_2 h.size 0 (.int .i64 n) ∧ at1 h_2 h.size 1 (.int .i64 n_1) ∧ atBytes h_2 h.size 2 32 b_ ∧ at1 h_2 h.size 34 (.int .i64 n_2) ∧ at1 h_2 h.size 35 (.int .u64 n_3) ∧ at1 h_2 h.size 36 (slVal s) ∧ atBytes h_2 h.size 37 16 b_1) ∧
        R (TV.tup [.agg [.int .i64 n, .int .i64 n_1, .bytes 32 b_, .int .i64 n_2, .int .u64 n_3, .slice s, .bytes 16 b_1], .bool false]).val h_2 := by
    intro hh a sh m d hd
    refine put_n (t := zeroM.tv) d.ans mssz1 mssz fun h9 v9 f9 s9 => ms_at v9 ?_
    exact hn hd h9 (Only.cut d.ext f9 fun i hi => by omega)
  have kOne : K = 1 ↔ s.getD 0 0 = 1 := by rw [hK]; exact byte_is 1
  have kTwo : K = 2 ↔ s.getD 0 0 = 2 := by rw [hK]; exact byte_is 2
  have kThr : K = 3 ↔ s.getD 0 0 = 3 := by rw [hK]; exact byte_is 3
  have wr : ∀ n : Nat, n ≤ s.length → IntKind.wrap .i64 ((s.length : Int) - (n : Int)) = (s.length : Int) - (n : Int) := fun n h => wrap_i64 (by omega) (by omega)
  have w37 : IntKind.wrap .i64 ((s.length : Int) - 37) = (s.length : Int) - 37 := wrap_i64 (by omega) (by omega)
  have w53 : IntKind.wrap .i64 ((s.length : Int) - 37 - 16) = (s.length : Int) - 53 := by rw [wrap_i64 (by omega) (by omega)]; omega
  have w55 : IntKind.wrap .i64 ((s.length : Int) - 53 - 2) = (s.length : Int) - 55 := by rw [wrap_i64 (by omega) (by omega)]; omega
  have w63 : IntKind.wrap .i64 ((s.length : Int) - 55 - 8) = (s.length : Int) - 63 := by rw [wrap_i64 (by omega) (by omega)]; omega
  rw [w37, w53, w55]
  intro J1 HJ1
  obtain ⟨M, hM⟩ : ∃ M : Int, M = ((num ((s.drop 37).take 2) : Nat) : Int) := ⟨_, rfl⟩
  obtain ⟨B, hB⟩ : ∃ B : Int, B = ((num ((s.drop 39).take 8) : Nat) : Int) := ⟨_, rfl⟩
  have fin1 : ∀ hh a mem r, DD h hh q mb s a false (Ms.mk K S T mem 0 Sl.nil (Bs.zero 16)) → ((K = 1 ∨ K = 2) ∧ a = 39 ∧ mem = M ∧ r = (s.length : Int) - 55) ∨ (K ≠ 1 ∧ K ≠ 2 ∧ a = 37 ∧ mem = 0 ∧ r = (s.length : Int) - 53) → J1 r hh := by
    intro hh a mem r d hc
    refine HJ1 r hh ?_
    intro J2 HJ2
    have fin2 : ∀ hh a mem body r, DD h hh q mb s a false (Ms.mk K S T mem body Sl.nil (Bs.zero 16)) → (K = 1 ∧ a = 47 ∧ mem = M ∧ body = B ∧ r = (s.length : Int) - 63) ∨ (K = 2 ∧ a = 39 ∧ mem = M ∧ body = 0 ∧ r = (s.length : Int) - 55) ∨ (K ≠ 1 ∧ K ≠ 2 ∧ a = 37 ∧ mem = 0 ∧ body = 0 ∧ r = (s.length : Int) - 53) → J2 r hh := by
      intro hh a mem body r d hc
      refine HJ2 r hh ?_
      intro J3 HJ3
      have fin3 : ∀ hh a m row r, DD h hh q mb s a false m → m.tag = Bs.zero 16 → Elems 1 hh m.bits (bools row) → row.length < 100000 → (∀ l, m.bits.a = some l → l.b < hh.size ∧ l.b ≠ q ∧ l.b ≠ mb ∧ l.b ≠ h.size ∧ h.size ≤ l.b) → a ≤ s.length → (r = 0 → a + 16 = s.length) → (r ≠ 0 → decF s = none) →
          (r = 0 → decF s = chk ⟨m.kind, m.slot, m.target, m.member, m.body, row, bsOf 16 (s.drop a)⟩) → J3 (false, r) hh := by
        intro hh a m row r d hz e hrl hloc ha hr0 hd1 hd2
        refine HJ3 _ hh ?_
        refine ⟨fun i h' => 0 ≤ i ∧ i ≤ 16 ∧ Only (fun i => i = q ∨ i = mb ∨ hh.size ≤ i) hh h' ∧ ∃ a' sh t, a' ≤ s.length ∧ DD h h' q mb s a' sh { m with tag := t } ∧ (r = 0 → a' = a + i.toNat ∧ sh = false ∧ t = bsOf 16 ((s.drop a).take i.toNat)), fun i _ => ((16 : Int) - i).toNat, ⟨Int.le_refl 0, by decide, Only.refl _ _, a, false, m.tag, ha, d, fun _ => ⟨rfl, rfl, by rw [hz]; exact (bsOf_zero 16).symm⟩⟩, ?_⟩
        rintro i h9 ⟨i0, i1, f9, a', sh, t, ha', d9, hg⟩
        refine If.dec.2 ⟨fun hi => ?_, fun hi => ?_⟩
        · refine duint_spec d9.rd ha' (by omega) (by decide) fun h10 r10 f10 => ⟨_, rfl, i0, hi, ?_⟩
          have d10 := d9.read r10 f10
          have hby := wrap_u8_range ((num (rdB (s.drop a') sh 1).1 : Nat) : Int)
          refine byte_field (i := 6) (o := 37) (k := i.toNat) d10.msg rfl rfl (by omega) (by omega) hby.1 hby.2 fun h11 v11 f11 s11 => ?_
          rw [wrap_i64 (n := i + 1) (by omega) (by omega)]
          have d11 : DD h h11 q mb s _ _ { m with tag := t.set i.toNat (UInt8.ofNat (IntKind.wrap .u8 ((num (rdB (s.drop a') sh 1).1 : Nat) : Int)).toNat) } := d10.write v11 f11
          have z9 := f9.size
          refine ⟨⟨by omega, by omega, (f9.trans (f10.mono fun i hi => by omega)).trans (f11.mono fun i hi => by omega), _, _, _, atD_le ha', d11, fun h0 => ?_⟩, by first | omega | (dsimp only; omega)⟩
          obtain ⟨g1, g2, g3⟩ := hg h0
          have := hr0 h0
          have e3 : rdB (s.drop a') false 1 = ((s.drop a').take 1, s.drop (a' + 1), false) := rdB_at (n := 1) (by omega)
          have a3 : atD s a' false 1 = a' + 1 := atD_ok (n := 1) (by omega)
          have hget : (s.drop a)[i.toNat]? = some (s.getD a' 0) := by rw [List.getElem?_drop, g1, List.getD_eq_getElem?_getD, List.getElem?_eq_getElem (by omega)]; rfl
          rw [g2, a3, e3, g3]
          dsimp only
          rw [num1 (by omega), wrap_byte, Int.toNat_natCast, UInt8.ofNat_toNat, bsOf_snoc hget (by omega), show (i + 1).toNat = i.toNat + 1 by omega]
          exact ⟨by omega, rfl, rfl⟩
        · have hi16 : i.toNat = 16 := by omega
          rw [hi16] at hg
          dsimp only
          refine If.split (fun hb => no h9 _ _ _ d9 (hd1 (by simpa using hb))) fun hb => ?_
          have h0 : r = 0 := by simpa using hb
          obtain ⟨g1, g2, g3⟩ := hg h0
          have hal := hr0 h0
          have hdec := hd2 h0
          refine dend_spec d9.rd ha' ⟨_, rfl, ?_⟩
          have hend : (!sh && decide (s.drop a' = [])) = true := by rw [g2, List.drop_of_length_le (by omega)]; rfl
          rw [hend]
          rw [List.take_of_length_le (by rw [List.length_drop]; omega)] at g3
          subst g3
          have e9 : Elems 1 h9 m.bits (bools row) := e.only f9 fun l hl => by have := hloc l hl; omega
          refine If.no (ms_at d9.msg ?_)
          refine docgood_spec (m := { m with tag := bsOf 16 (s.drop a) }) (row := row) e9 hrl fun h11 x11 => ⟨_, rfl, ?_⟩
          have d11 := d9.more x11
          unfold chk at hdec
          have hgm : goodF { m with tag := bsOf 16 (s.drop a) } row = goodF ((Dm.mk m.kind m.slot m.target m.member m.body row (bsOf 16 (s.drop a))).ms Sl.nil) row := rfl
          rw [hgm]
          cases hgood : goodF ((Dm.mk m.kind m.slot m.target m.member m.body row (bsOf 16 (s.drop a))).ms Sl.nil) row with
          | false =>
            refine If.yes (no h11 _ _ _ d11 ?_)
            rw [hdec, if_neg]
            show ¬ goodF _ row = true
            rw [hgood]
            decide
          | true =>
            refine If.no (ms_at d11.msg ?_)
            refine put_n d11.ans (t := ({ m with tag := bsOf 16 (s.drop a) } : Ms).tv) mssz1 mssz fun h12 v12 f12 s12 => ms_at v12 ?_
            have hd : decF s = some (Dm.mk m.kind m.slot m.target m.member m.body row (bsOf 16 (s.drop a))) := by rw [hdec]; exact if_pos hgood
            have x12 : Ext h h12 := Only.cut d11.ext f12 fun i hi => by omega
            exact hy _ h12 m.bits hd ((e9.ext x11).only f12 fun l hl => (hloc l hl).2.2.2.1) x12 fun l hl => by
              have g := hloc l hl
              have g1 := f9.size
              have g3 := x11.size
              have g4 := f12.size
              exact ⟨g.2.2.2.2, by omega⟩
      clear HJ3
      refine ⟨K, d.msg.at1 rfl, If.dec.2 ⟨fun k3 => ?_, fun k3 => ?_⟩⟩
      · have hc : a = 37 ∧ mem = 0 ∧ body = 0 ∧ r = (s.length : Int) - 53 := by
          rcases hc with hc | hc | hc
          · omega
          · omega
          · exact hc.2.2
        obtain ⟨rfl, rfl, rfl, rfl⟩ := hc
        refine dbytes_spec d.rd (by omega) (by omega) (by omega) fun h9 r9 f9 => ⟨_, rfl, ?_⟩
        have e0 : (s.length : Int) - 53 = ((s.length - 53 : Nat) : Int) := by omega
        have e1 : rdB (s.drop 37) false ((s.length : Int) - 53) = ((s.drop 37).take (s.length - 53), s.drop (s.length - 16), false) := by
          rw [e0, rdB_at (by omega), show 37 + (s.length - 53) = s.length - 16 by omega]
        have a1 : atD s 37 false ((s.length : Int) - 53) = s.length - 16 := by rw [e0, atD_ok (by omega)]; omega
        rw [e1, a1] at r9
        rw [e1]
        have d9 := d.read r9 (f9.mono fun i hi => .inl hi)
        have hz9 := d9.msg.lt
        have hq := d9.m0
        have hq0 := d9.q0
        dsimp only
        refine docget_spec (by rw [List.length_take, List.length_drop]; omega) (fun hno h10 t x10 => ⟨_, _, rfl, If.yes (no h10 _ _ _ (d9.more x10) ?_)⟩) fun row h10 t hrow o10 x10 loc10 => ⟨_, _, rfl, If.no ?_⟩
        · rw [dec_three (by omega) (kThr.1 k3), hno]
        · have d10 := d9.more x10
          refine field_in (i := 5) (t := .slice t) (t0 := .slice Sl.nil) d10.msg rfl rfl rfl rfl fun h11 v11 f11 s11 => ?_
          have d11 : DD h h11 q mb s (s.length - 16) false (Ms.mk K S T 0 0 t (Bs.zero 16)) := d10.write v11 f11
          have hrl : row.length ≤ 16 := by
            unfold getF at hrow
            split at hrow
            · cases hrow
            · split at hrow
              · cases hrow
              · rw [← Option.some.inj hrow, List.length_take]; omega
          have hdec : decF s = chk ⟨3, ((num ((s.drop 1).take 4) : Nat) : Int), bsOf 32 ((s.drop 5).take 32), 0, 0, row, bsOf 16 (s.drop (s.length - 16))⟩ := by
            rw [dec_three (by omega) (kThr.1 k3), hrow]
          refine fin3 h11 _ _ row 0 d11 rfl (o10.only f11 fun l hl => by have := loc10 l hl; omega) (by omega) (fun l hl => by have := loc10 l hl; have := f11.size; omega) (by omega) (fun _ => by omega) (fun h => absurd rfl h) fun _ => ?_
          rw [hdec, hS, hT, k3]
      · refine fin3 hh a _ [] r d rfl (Elems.nil_ 1 hh) (by decide) (fun l hl => by cases hl) (by omega) (fun h0 => by omega) (fun h0 => ?_) fun h0 => ?_
        · rcases hc with hc | hc | hc
          · rw [dec_one (by omega) (kOne.1 hc.1), if_neg (by omega)]
          · rw [dec_two (by omega) (kTwo.1 hc.1), if_neg (by omega)]
          · exact dec_other (fun h => hc.1 (kOne.2 h)) (fun h => hc.2.1 (kTwo.2 h)) (fun h => k3 (kThr.2 h))
        · rcases hc with hc | hc | hc
          · obtain ⟨g1, rfl, rfl, rfl, g5⟩ := hc
            rw [dec_one (by omega) (kOne.1 g1), if_pos (by omega), hS, hT, hM, hB, g1]
          · obtain ⟨g1, rfl, rfl, rfl, g5⟩ := hc
            rw [dec_two (by omega) (kTwo.1 g1), if_pos (by omega), hS, hT, hM, g1]
          · omega
    clear HJ2
    refine ⟨K, d.msg.at1 rfl, If.dec.2 ⟨fun k1 => ?_, fun k1 => ?_⟩⟩
    · have hc : a = 39 ∧ mem = M ∧ r = (s.length : Int) - 55 := by
        rcases hc with hc | hc
        · exact hc.2
        · exact absurd k1 hc.1
      obtain ⟨rfl, rfl, rfl⟩ := hc
      refine duint_spec d.rd (by omega) (by omega) (by decide) fun h9 r9 f9 => ⟨_, rfl, ?_⟩
      have e1 : rdB (s.drop 39) false 8 = ((s.drop 39).take 8, s.drop 47, false) := rdB_at (a := 39) (n := 8) (by omega)
      have a1 : atD s 39 false 8 = 47 := atD_ok (a := 39) (n := 8) (by omega)
      rw [a1, e1] at r9
      rw [e1]
      have d9 := d.read r9 f9
      dsimp only
      rw [← hB, w63]
      refine field_in (i := 4) (t := .int .u64 B) (t0 := .int .u64 0) d9.msg rfl rfl rfl rfl fun h10 v10 f10 s10 => ?_
      have d10 : DD h h10 q mb s 47 false (Ms.mk K S T mem B Sl.nil (Bs.zero 16)) := d9.write v10 f10
      exact fin2 h10 47 mem B _ d10 (.inl ⟨k1, rfl, rfl, rfl, rfl⟩)
    · refine fin2 hh a mem 0 r d ?_
      rcases hc with hc | hc
      · rcases hc.1 with g | g
        · exact absurd g k1
        · exact .inr (.inl ⟨g, hc.2.1, hc.2.2.1, rfl, hc.2.2.2⟩)
      · exact .inr (.inr ⟨hc.1, hc.2.1, hc.2.2.1, hc.2.2.2.1, rfl, hc.2.2.2.2⟩)
  clear HJ1
  have read2 : ∀ (P : Int → Heap → Prop), (∀ h' , DD h h' q mb s 39 false (Ms.mk K S T M 0 Sl.nil (Bs.zero 16)) → P ((s.length : Int) - 55) h') → K = 1 ∨ K = 2 →
      CallsH Try.prog 63 (TVs.vals [TV.ptr (some (Vc.Loc.mk q 0)), TV.int .i64 2]) h8 fun (v : Value) (h : Heap) => ∃ (n : Int), v = TV.val (TV.int .u64 n) ∧ wok h mb 34 1 ∧ Bind (TV.put h mb 34 (TV.int .i64 (IntKind.wrap .i64 n))) fun (h : Heap) => P ((s.length : Int) - 55) h := by
    intro P hP hk
    refine duint_spec d8.rd (by omega) (by omega) (by decide) fun h9 r9 f9 => ⟨_, rfl, ?_⟩
    have e1 : rdB (s.drop 37) false 2 = ((s.drop 37).take 2, s.drop 39, false) := rdB_at (a := 37) (n := 2) (by omega)
    have a1 : atD s 37 false 2 = 39 := atD_ok (a := 37) (n := 2) (by omega)
    rw [a1, e1] at r9
    rw [e1]
    have d9 := d8.read r9 f9
    dsimp only
    rw [w16 (by rw [List.length_take]; omega), ← hM]
    refine field_in (i := 3) (t := .int .i64 M) (t0 := .int .i64 0) d9.msg rfl rfl rfl rfl fun h10 v10 f10 s10 => ?_
    exact hP h10 (d9.write v10 f10)
  refine ⟨K, d8.msg.at1 rfl, If.dec.2 ⟨fun k1 => ?_, fun k1 => ⟨K, d8.msg.at1 rfl, If.dec.2 ⟨fun k2 => ?_, fun k2 => ?_⟩⟩⟩⟩
  · exact read2 J1 (fun h' d' => fin1 h' 39 M _ d' (.inl ⟨.inl k1, rfl, rfl, rfl⟩)) (.inl k1)
  · exact read2 J1 (fun h' d' => fin1 h' 39 M _ d' (.inl ⟨.inr k2, rfl, rfl, rfl⟩)) (.inr k2)
  · exact fin1 h8 37 0 _ d8 (.inr ⟨k1, k2, rfl, rfl, rfl⟩)

end
end Go.Proofs.Ytldocdpdjdekiaa.Board
end

section
/- The conditions of functions, as the generator reckons them out, each with the proof that it is that. -/
namespace Go.Proofs.Ytldocdpdjdekiaa
open Go Go.Vc
set_option maxRecDepth 100000
set_option linter.unusedVariables false

def orphans_New_vc (most : Int) (quota : Int) (h : Heap) (R : Value → Heap → Prop) : Prop :=
 CallsH Try.prog (52 : Nat) (TVs.vals [TV.int IntKind.i64 most, TV.int IntKind.i64 quota]) h fun (v : Value) (h : Heap) ↦
 ∃ (p : Option Go.Vc.Loc),
 v = TV.val (TV.ptr p) ∧
 If (Option.isNone p) (R (TV.val (TV.ptr none)) h)
 (Vc.Bind (newTV h (TV.agg [TV.ptr p]) (128 : Nat)) fun (h_1 : Array Obj) ↦ R (TV.val (TV.ptr (some (Loc.mk (Array.size h) (0 : Nat))))) h_1)

theorem orphans_New_calls (most : Int) (quota : Int) (h : Heap) (R : Value → Heap → Prop) (H : orphans_New_vc most quota h R) : CallsH Try.prog 31 (TVs.vals [TV.int IntKind.i64 most, TV.int IntKind.i64 quota]) h R :=
 vcFn_sound (C := ctx) ctx_ok (fn := Try.f31) Try.func31 ((by kernel_rfl : orphans_New_vc most quota h R = vcFn ctx Try.f31 [TV.int IntKind.i64 most, TV.int IntKind.i64 quota] h R) ▸ H)


def early_New_vc (most : Int) (quota : Int) (h : Heap) (R : Value → Heap → Prop) : Prop :=
 CallsH Try.prog (52 : Nat) (TVs.vals [TV.int IntKind.i64 most, TV.int IntKind.i64 quota]) h fun (v : Value) (h : Heap) ↦
 ∃ (p : Option Go.Vc.Loc),
 v = TV.val (TV.ptr p) ∧
 If (Option.isNone p) (R (TV.val (TV.ptr none)) h)
 (Vc.Bind (newTV h (TV.agg [TV.ptr p]) (103 : Nat)) fun (h_1 : Array Obj) ↦ R (TV.val (TV.ptr (some (Loc.mk (Array.size h) (0 : Nat))))) h_1)

theorem early_New_calls (most : Int) (quota : Int) (h : Heap) (R : Value → Heap → Prop) (H : early_New_vc most quota h R) : CallsH Try.prog 22 (TVs.vals [TV.int IntKind.i64 most, TV.int IntKind.i64 quota]) h R :=
 vcFn_sound (C := ctx) ctx_ok (fn := Try.f22) Try.func22 ((by kernel_rfl : early_New_vc most quota h R = vcFn ctx Try.f22 [TV.int IntKind.i64 most, TV.int IntKind.i64 quota] h R) ▸ H)


def orphans_Orphans_Len_vc (o : Option Go.Vc.Loc) (h : Heap) (R : Value → Heap → Prop) : Prop :=
 If (Option.isNone o) (R (TV.val (TV.int IntKind.i64 (0 : Int))) h)
 (Nn o fun (l : Go.Vc.Loc) ↦
 ∃ (p : Option Go.Vc.Loc),
 at1 h l.b l.o (Value.pointer (Option.map Loc.addr p)) ∧
 CallsH Try.prog (62 : Nat) (TVs.vals [TV.ptr p]) h fun (v : Value) (h : Heap) ↦
 ∃ (n : Int), v = TV.val (TV.int IntKind.i64 n) ∧ R (TV.val (TV.int IntKind.i64 n)) h)

theorem orphans_Orphans_Len_calls (o : Option Go.Vc.Loc) (h : Heap) (R : Value → Heap → Prop) (H : orphans_Orphans_Len_vc o h R) : CallsH Try.prog 43 (TVs.vals [TV.ptr o]) h R :=
 vcFn_sound (C := ctx) ctx_ok (fn := Try.f43) Try.func43 ((by kernel_rfl : orphans_Orphans_Len_vc o h R = vcFn ctx Try.f43 [TV.ptr o] h R) ▸ H)


def early_Early_Len_vc (e : Option Go.Vc.Loc) (h : Heap) (R : Value → Heap → Prop) : Prop :=
 If (Option.isNone e) (R (TV.val (TV.int IntKind.i64 (0 : Int))) h)
 (Nn e fun (l : Go.Vc.Loc) ↦
 ∃ (p : Option Go.Vc.Loc),
 at1 h l.b l.o (Value.pointer (Option.map Loc.addr p)) ∧
 CallsH Try.prog (62 : Nat) (TVs.vals [TV.ptr p]) h fun (v : Value) (h : Heap) ↦
 ∃ (n : Int), v = TV.val (TV.int IntKind.i64 n) ∧ R (TV.val (TV.int IntKind.i64 n)) h)

theorem early_Early_Len_calls (e : Option Go.Vc.Loc) (h : Heap) (R : Value → Heap → Prop) (H : early_Early_Len_vc e h R) : CallsH Try.prog 27 (TVs.vals [TV.ptr e]) h R :=
 vcFn_sound (C := ctx) ctx_ok (fn := Try.f27) Try.func27 ((by kernel_rfl : early_Early_Len_vc e h R = vcFn ctx Try.f27 [TV.ptr e] h R) ▸ H)


def orphans_Orphans_Put_vc (o : Option Go.Vc.Loc) (peer : Int) (text : List UInt8) (h : Heap) (R : Value → Heap → Prop) : Prop :=
 Vc.Bind (newTV h (TV.bytes (32 : Nat) (Bs.zero (32 : Nat))) (50 : Nat)) fun (h_1 : Array Obj) ↦
 CallsH Try.prog (53 : Nat) (TVs.vals [TV.str text]) h_1 fun (v : Value) (h_2 : Array Obj) ↦
 ∃ (n : Int),
 ∃ (n_1 : Int),
 ∃ (b : Bs (32 : Nat)),
 ∃ (n_2 : Int),
 ∃ (n_3 : Int),
 ∃ (s : Sl),
 ∃ (b_1 : Bs (16 : Nat)),
 ∃ (b_2 : Bool),
 v =
 TV.val
 (TV.tup
 [TV.agg
 [TV.int IntKind.i64 n, TV.int IntKind.i64 n_1, TV.bytes (32 : Nat) b, TV.int IntKind.i64 n_2, TV.int IntKind.u64 n_3,
 TV.slice s, TV.bytes (16 : Nat) b_1],
 TV.bool b_2]) ∧
 Vc.Bind
 (newTV h_2
 (TV.agg
 [TV.int IntKind.i64 (0 : Int), TV.int IntKind.i64 (0 : Int), TV.bytes (32 : Nat) (Bs.zero (32 : Nat)), TV.int IntKind.i64 (0 : Int),
 TV.int IntKind.u64 (0 : Int), TV.slice Sl.nil, TV.bytes (16 : Nat) (Bs.zero (16 : Nat))])
 (63 : Nat))
 fun (h_3 : Array Obj) ↦
 wok h_3 (Array.size h_2) (0 : Nat) (53 : Nat) ∧
 Vc.Bind
 (TV.put h_3 (Array.size h_2) (0 : Nat)
 (TV.agg
 [TV.int IntKind.i64 n, TV.int IntKind.i64 n_1, TV.bytes (32 : Nat) b, TV.int IntKind.i64 n_2, TV.int IntKind.u64 n_3,
 TV.slice s, TV.bytes (16 : Nat) b_1]))
 fun (h_4 : Array Obj) ↦
 Join
 (fun (s_1 : Int) (h_5 : Array Obj) ↦
 Join
 (fun
 (s_2 : Option Go.Vc.Loc × Option Go.Vc.Loc × Int × Bs (32 : Nat) × Int × Bs (32 : Nat) × List UInt8 × Int × Option Go.Vc.Loc × Int)
 (h_6 : Array Obj) ↦
 Nn s_2.snd.snd.snd.snd.snd.snd.snd.snd.fst fun (l : Go.Vc.Loc) ↦
 ∃ (b_3 : Bs (32 : Nat)),
 atBytes h_6 l.b (l.o + (1 : Nat)) (32 : Nat) b_3 ∧
 wok h_6 (Array.size h) (0 : Nat) (32 : Nat) ∧
 Vc.Bind (TV.put h_6 (Array.size h) (0 : Nat) (TV.bytes (32 : Nat) b_3)) fun (h_7 : Array Obj) ↦
 ∃ (b_4 : Bs (32 : Nat)),
 atBytes h_7 (Array.size h) (0 : Nat) (32 : Nat) b_4 ∧
 R (TV.val (TV.tup [TV.int IntKind.i64 s_2.snd.snd.snd.snd.snd.snd.snd.snd.snd, TV.bytes (32 : Nat) b_4])) h_7)
 fun
 (J :
 Option Go.Vc.Loc × Option Go.Vc.Loc × Int × Bs (32 : Nat) × Int × Bs (32 : Nat) × List UInt8 × Int × Option Go.Vc.Loc × Int →
 Array Obj → Prop) ↦
 Nn o fun (l : Go.Vc.Loc) ↦
 ∃ (p : Option Go.Vc.Loc),
 at1 h_5 l.b l.o (Value.pointer (Option.map Loc.addr p)) ∧
 ∃ (n : Int),
 at1 h_5 (Array.size h_2) (1 : Nat) (Value.int IntKind.i64 n) ∧
 ∃ (n_4 : Int),
 ∃ (n_5 : Int),
 ∃ (b : Bs (32 : Nat)),
 ∃ (n_6 : Int),
 ∃ (n_7 : Int),
 ∃ (s : Sl),
 ∃ (b_3 : Bs (16 : Nat)),
 (at1 h_5 (Array.size h_2) (0 : Nat) (Value.int IntKind.i64 n_4) ∧
 at1 h_5 (Array.size h_2) (1 : Nat) (Value.int IntKind.i64 n_5) ∧
 atBytes h_5 (Array.size h_2) (2 : Nat) (32 : Nat) b ∧
 at1 h_5 (Array.size h_2) (34 : Nat) (Value.int IntKind.i64 n_6) ∧
 at1 h_5 (Array.size h_2) (35 : Nat) (Value.int IntKind.u64 n_7) ∧
 at1 h_5 (Array.size h_2) (36 : Nat) (slVal s) ∧
 atBytes h_5 (Array.size h_2) (37 : Nat) (16 : Nat) b_3) ∧
 ∃ (b_4 : Bs (32 : Nat)),
 atBytes h_5 (Array.size h_2) (2 : Nat) (32 : Nat) b_4 ∧
 (CallsH Try.prog (55 : Nat)
 (TVs.vals
 [TV.agg
 [TV.int IntKind.i64 n_4, TV.int IntKind.i64 n_5, TV.bytes (32 : Nat) b,
 TV.int IntKind.i64 n_6, TV.int IntKind.u64 n_7, TV.slice s,
 TV.bytes (16 : Nat) b_3]])
 h_5 fun (v : Value) (h : Array Obj) ↦
 ∃ (b : Bs (32 : Nat)),
 v = TV.val (TV.bytes (32 : Nat) b) ∧
 Ext h_5 h ∧
 (CallsH Try.prog (54 : Nat)
 (TVs.vals
 [TV.ptr p,
 TV.agg
 [TV.int IntKind.i64 n, TV.bytes (32 : Nat) b, TV.int IntKind.i64 peer,
 TV.bytes (32 : Nat) b_4, TV.str text]])
 h fun (v : Value) (h : Array Obj) ↦
 ∃ (n_8 : Int),
 ∃ (n_9 : Int),
 ∃ (b_5 : Bs (32 : Nat)),
 ∃ (n_10 : Int),
 ∃ (b_6 : Bs (32 : Nat)),
 ∃ (s : List UInt8),
 v =
 TV.val
 (TV.tup
 [TV.int IntKind.i64 n_8,
 TV.agg
 [TV.int IntKind.i64 n_9, TV.bytes (32 : Nat) b_5,
 TV.int IntKind.i64 n_10, TV.bytes (32 : Nat) b_6,
 TV.str s]]) ∧
 Vc.Bind
 (newTV h
 (TV.agg
 [TV.int IntKind.i64 (0 : Int),
 TV.bytes (32 : Nat) (Bs.zero (32 : Nat)),
 TV.int IntKind.i64 (0 : Int),
 TV.bytes (32 : Nat) (Bs.zero (32 : Nat)), TV.str []])
 (105 : Nat))
 fun (h_6 : Array Obj) ↦
 Ext h h_6 ∧
 wok h_6 (Array.size h) (0 : Nat) (67 : Nat) ∧
 Vc.Bind
 (TV.put h_6 (Array.size h) (0 : Nat)
 (TV.agg
 [TV.int IntKind.i64 n_9, TV.bytes (32 : Nat) b_5,
 TV.int IntKind.i64 n_10, TV.bytes (32 : Nat) b_6,
 TV.str s]))
 fun (h_7 : Array Obj) ↦
 J
 (o, p, n, b, peer, b_4, text, n_8,
 some (Loc.mk (Array.size h) (0 : Nat)), n_8)
 h_7) ∧
 Vc.Bind
 (newTV h
 (TV.agg
 [TV.int IntKind.i64 (0 : Int), TV.bytes (32 : Nat) (Bs.zero (32 : Nat)),
 TV.int IntKind.i64 (0 : Int), TV.bytes (32 : Nat) (Bs.zero (32 : Nat)),
 TV.str []])
 (105 : Nat))
 fun (h_6 : Array Obj) ↦
 Ext h h_6 ∧
 CallsH Try.prog (54 : Nat)
 (TVs.vals
 [TV.ptr p,
 TV.agg
 [TV.int IntKind.i64 n, TV.bytes (32 : Nat) b, TV.int IntKind.i64 peer,
 TV.bytes (32 : Nat) b_4, TV.str text]])
 h_6 fun (v : Value) (h_7 : Array Obj) ↦
 ∃ (n_8 : Int),
 ∃ (n_9 : Int),
 ∃ (b_5 : Bs (32 : Nat)),
 ∃ (n_10 : Int),
 ∃ (b_6 : Bs (32 : Nat)),
 ∃ (s : List UInt8),
 v =
 TV.val
 (TV.tup
 [TV.int IntKind.i64 n_8,
 TV.agg
 [TV.int IntKind.i64 n_9, TV.bytes (32 : Nat) b_5,
 TV.int IntKind.i64 n_10, TV.bytes (32 : Nat) b_6,
 TV.str s]]) ∧
 wok h_7 (Array.size h) (0 : Nat) (67 : Nat) ∧
 Vc.Bind
 (TV.put h_7 (Array.size h) (0 : Nat)
 (TV.agg
 [TV.int IntKind.i64 n_9, TV.bytes (32 : Nat) b_5,
 TV.int IntKind.i64 n_10, TV.bytes (32 : Nat) b_6,
 TV.str s]))
 fun (h_8 : Array Obj) ↦
 J
 (o, p, n, b, peer, b_4, text, n_8,
 some (Loc.mk (Array.size h) (0 : Nat)), n_8)
 h_8) ∧
 Vc.Bind
 (newTV h_5
 (TV.agg
 [TV.int IntKind.i64 (0 : Int), TV.bytes (32 : Nat) (Bs.zero (32 : Nat)),
 TV.int IntKind.i64 (0 : Int), TV.bytes (32 : Nat) (Bs.zero (32 : Nat)), TV.str []])
 (105 : Nat))
 fun (h : Array Obj) ↦
 Ext h_5 h ∧
 CallsH Try.prog (55 : Nat)
 (TVs.vals
 [TV.agg
 [TV.int IntKind.i64 n_4, TV.int IntKind.i64 n_5, TV.bytes (32 : Nat) b,
 TV.int IntKind.i64 n_6, TV.int IntKind.u64 n_7, TV.slice s,
 TV.bytes (16 : Nat) b_3]])
 h fun (v : Value) (h_6 : Array Obj) ↦
 ∃ (b : Bs (32 : Nat)),
 v = TV.val (TV.bytes (32 : Nat) b) ∧
 Ext h h_6 ∧
 CallsH Try.prog (54 : Nat)
 (TVs.vals
 [TV.ptr p,
 TV.agg
 [TV.int IntKind.i64 n, TV.bytes (32 : Nat) b, TV.int IntKind.i64 peer,
 TV.bytes (32 : Nat) b_4, TV.str text]])
 h_6 fun (v : Value) (h : Array Obj) ↦
 ∃ (n_8 : Int),
 ∃ (n_9 : Int),
 ∃ (b_5 : Bs (32 : Nat)),
 ∃ (n_10 : Int),
 ∃ (b_6 : Bs (32 : Nat)),
 ∃ (s : List UInt8),
 v =
 TV.val
 (TV.tup
 [TV.int IntKind.i64 n_8,
 TV.agg
 [TV.int IntKind.i64 n_9, TV.bytes (32 : Nat) b_5,
 TV.int IntKind.i64 n_10, TV.bytes (32 : Nat) b_6,
 TV.str s]]) ∧
 wok h (Array.size h_5) (0 : Nat) (67 : Nat) ∧
 Vc.Bind
 (TV.put h (Array.size h_5) (0 : Nat)
 (TV.agg
 [TV.int IntKind.i64 n_9, TV.bytes (32 : Nat) b_5,
 TV.int IntKind.i64 n_10, TV.bytes (32 : Nat) b_6,
 TV.str s]))
 fun (h : Array Obj) ↦
 J
 (o, p, n, b, peer, b_4, text, n_8,
 some (Loc.mk (Array.size h_5) (0 : Nat)), n_8)
 h)
 fun (J : Int → Array Obj → Prop) ↦
 If (Option.isNone o)
 (wok h_4 (Array.size h) (0 : Nat) (32 : Nat) ∧
 Vc.Bind (TV.put h_4 (Array.size h) (0 : Nat) (TV.bytes (32 : Nat) (Bs.zero (32 : Nat)))) fun (h_5 : Array Obj) ↦
 ∃ (b : Bs (32 : Nat)),
 atBytes h_5 (Array.size h) (0 : Nat) (32 : Nat) b ∧
 R (TV.val (TV.tup [TV.int IntKind.i64 (5 : Int), TV.bytes (32 : Nat) b])) h_5)
 (If (!b_2)
 (wok h_4 (Array.size h) (0 : Nat) (32 : Nat) ∧
 Vc.Bind (TV.put h_4 (Array.size h) (0 : Nat) (TV.bytes (32 : Nat) (Bs.zero (32 : Nat)))) fun (h_5 : Array Obj) ↦
 ∃ (b : Bs (32 : Nat)),
 atBytes h_5 (Array.size h) (0 : Nat) (32 : Nat) b ∧
 R (TV.val (TV.tup [TV.int IntKind.i64 (5 : Int), TV.bytes (32 : Nat) b])) h_5)
 (∃ (n : Int),
 at1 h_4 (Array.size h_2) (0 : Nat) (Value.int IntKind.i64 n) ∧
 If (!decide (n = (1 : Int)))
 (wok h_4 (Array.size h) (0 : Nat) (32 : Nat) ∧
 Vc.Bind (TV.put h_4 (Array.size h) (0 : Nat) (TV.bytes (32 : Nat) (Bs.zero (32 : Nat)))) fun (h_5 : Array Obj) ↦
 ∃ (b : Bs (32 : Nat)),
 atBytes h_5 (Array.size h) (0 : Nat) (32 : Nat) b ∧
 R (TV.val (TV.tup [TV.int IntKind.i64 (5 : Int), TV.bytes (32 : Nat) b])) h_5)
 (J (0 : Int) h_4)))

theorem orphans_Orphans_Put_calls (o : Option Go.Vc.Loc) (peer : Int) (text : List UInt8) (h : Heap) (R : Value → Heap → Prop) (H : orphans_Orphans_Put_vc o peer text h R) : CallsH Try.prog 32 (TVs.vals [TV.ptr o, TV.int IntKind.i64 peer, TV.str text]) h R :=
 vcFn_sound (C := ctx) ctx_ok (fn := Try.f32) Try.func32 ((by kernel_rfl : orphans_Orphans_Put_vc o peer text h R = vcFn ctx Try.f32 [TV.ptr o, TV.int IntKind.i64 peer, TV.str text] h R) ▸ H)


def early_Early_Put_vc (e : Option Go.Vc.Loc) (peer : Int) (text : List UInt8) (h : Heap) (R : Value → Heap → Prop) : Prop :=
 Vc.Bind (newTV h (TV.bytes (32 : Nat) (Bs.zero (32 : Nat))) (50 : Nat)) fun (h_1 : Array Obj) ↦
 CallsH Try.prog (53 : Nat) (TVs.vals [TV.str text]) h_1 fun (v : Value) (h_2 : Array Obj) ↦
 ∃ (n : Int),
 ∃ (n_1 : Int),
 ∃ (b : Bs (32 : Nat)),
 ∃ (n_2 : Int),
 ∃ (n_3 : Int),
 ∃ (s : Sl),
 ∃ (b_1 : Bs (16 : Nat)),
 ∃ (b_2 : Bool),
 v =
 TV.val
 (TV.tup
 [TV.agg
 [TV.int IntKind.i64 n, TV.int IntKind.i64 n_1, TV.bytes (32 : Nat) b, TV.int IntKind.i64 n_2, TV.int IntKind.u64 n_3,
 TV.slice s, TV.bytes (16 : Nat) b_1],
 TV.bool b_2]) ∧
 Vc.Bind
 (newTV h_2
 (TV.agg
 [TV.int IntKind.i64 (0 : Int), TV.int IntKind.i64 (0 : Int), TV.bytes (32 : Nat) (Bs.zero (32 : Nat)), TV.int IntKind.i64 (0 : Int),
 TV.int IntKind.u64 (0 : Int), TV.slice Sl.nil, TV.bytes (16 : Nat) (Bs.zero (16 : Nat))])
 (63 : Nat))
 fun (h_3 : Array Obj) ↦
 wok h_3 (Array.size h_2) (0 : Nat) (53 : Nat) ∧
 Vc.Bind
 (TV.put h_3 (Array.size h_2) (0 : Nat)
 (TV.agg
 [TV.int IntKind.i64 n, TV.int IntKind.i64 n_1, TV.bytes (32 : Nat) b, TV.int IntKind.i64 n_2, TV.int IntKind.u64 n_3,
 TV.slice s, TV.bytes (16 : Nat) b_1]))
 fun (h_4 : Array Obj) ↦
 Join
 (fun (s_1 : Int) (h_5 : Array Obj) ↦
 Join
 (fun
 (s_2 : Option Go.Vc.Loc × Option Go.Vc.Loc × Int × Bs (32 : Nat) × Int × Bs (32 : Nat) × List UInt8 × Int × Option Go.Vc.Loc × Int)
 (h_6 : Array Obj) ↦
 Nn s_2.snd.snd.snd.snd.snd.snd.snd.snd.fst fun (l : Go.Vc.Loc) ↦
 ∃ (b_3 : Bs (32 : Nat)),
 atBytes h_6 l.b (l.o + (1 : Nat)) (32 : Nat) b_3 ∧
 wok h_6 (Array.size h) (0 : Nat) (32 : Nat) ∧
 Vc.Bind (TV.put h_6 (Array.size h) (0 : Nat) (TV.bytes (32 : Nat) b_3)) fun (h_7 : Array Obj) ↦
 ∃ (b_4 : Bs (32 : Nat)),
 atBytes h_7 (Array.size h) (0 : Nat) (32 : Nat) b_4 ∧
 R (TV.val (TV.tup [TV.int IntKind.i64 s_2.snd.snd.snd.snd.snd.snd.snd.snd.snd, TV.bytes (32 : Nat) b_4])) h_7)
 fun
 (J :
 Option Go.Vc.Loc × Option Go.Vc.Loc × Int × Bs (32 : Nat) × Int × Bs (32 : Nat) × List UInt8 × Int × Option Go.Vc.Loc × Int →
 Array Obj → Prop) ↦
 Nn e fun (l : Go.Vc.Loc) ↦
 ∃ (p : Option Go.Vc.Loc),
 at1 h_5 l.b l.o (Value.pointer (Option.map Loc.addr p)) ∧
 ∃ (n : Int),
 at1 h_5 (Array.size h_2) (1 : Nat) (Value.int IntKind.i64 n) ∧
 ∃ (n_4 : Int),
 ∃ (n_5 : Int),
 ∃ (b : Bs (32 : Nat)),
 ∃ (n_6 : Int),
 ∃ (n_7 : Int),
 ∃ (s : Sl),
 ∃ (b_3 : Bs (16 : Nat)),
 (at1 h_5 (Array.size h_2) (0 : Nat) (Value.int IntKind.i64 n_4) ∧
 at1 h_5 (Array.size h_2) (1 : Nat) (Value.int IntKind.i64 n_5) ∧
 atBytes h_5 (Array.size h_2) (2 : Nat) (32 : Nat) b ∧
 at1 h_5 (Array.size h_2) (34 : Nat) (Value.int IntKind.i64 n_6) ∧
 at1 h_5 (Array.size h_2) (35 : Nat) (Value.int IntKind.u64 n_7) ∧
 at1 h_5 (Array.size h_2) (36 : Nat) (slVal s) ∧
 atBytes h_5 (Array.size h_2) (37 : Nat) (16 : Nat) b_3) ∧
 ∃ (b_4 : Bs (32 : Nat)),
 atBytes h_5 (Array.size h_2) (2 : Nat) (32 : Nat) b_4 ∧
 (CallsH Try.prog (55 : Nat)
 (TVs.vals
 [TV.agg
 [TV.int IntKind.i64 n_4, TV.int IntKind.i64 n_5, TV.bytes (32 : Nat) b,
 TV.int IntKind.i64 n_6, TV.int IntKind.u64 n_7, TV.slice s,
 TV.bytes (16 : Nat) b_3]])
 h_5 fun (v : Value) (h : Array Obj) ↦
 ∃ (b : Bs (32 : Nat)),
 v = TV.val (TV.bytes (32 : Nat) b) ∧
 Ext h_5 h ∧
 (CallsH Try.prog (54 : Nat)
 (TVs.vals
 [TV.ptr p,
 TV.agg
 [TV.int IntKind.i64 n, TV.bytes (32 : Nat) b, TV.int IntKind.i64 peer,
 TV.bytes (32 : Nat) b_4, TV.str text]])
 h fun (v : Value) (h : Array Obj) ↦
 ∃ (n_8 : Int),
 ∃ (n_9 : Int),
 ∃ (b_5 : Bs (32 : Nat)),
 ∃ (n_10 : Int),
 ∃ (b_6 : Bs (32 : Nat)),
 ∃ (s : List UInt8),
 v =
 TV.val
 (TV.tup
 [TV.int IntKind.i64 n_8,
 TV.agg
 [TV.int IntKind.i64 n_9, TV.bytes (32 : Nat) b_5,
 TV.int IntKind.i64 n_10, TV.bytes (32 : Nat) b_6,
 TV.str s]]) ∧
 Vc.Bind
 (newTV h
 (TV.agg
 [TV.int IntKind.i64 (0 : Int),
 TV.bytes (32 : Nat) (Bs.zero (32 : Nat)),
 TV.int IntKind.i64 (0 : Int),
 TV.bytes (32 : Nat) (Bs.zero (32 : Nat)), TV.str []])
 (105 : Nat))
 fun (h_6 : Array Obj) ↦
 Ext h h_6 ∧
 wok h_6 (Array.size h) (0 : Nat) (67 : Nat) ∧
 Vc.Bind
 (TV.put h_6 (Array.size h) (0 : Nat)
 (TV.agg
 [TV.int IntKind.i64 n_9, TV.bytes (32 : Nat) b_5,
 TV.int IntKind.i64 n_10, TV.bytes (32 : Nat) b_6,
 TV.str s]))
 fun (h_7 : Array Obj) ↦
 J
 (e, p, n, b, peer, b_4, text, n_8,
 some (Loc.mk (Array.size h) (0 : Nat)), n_8)
 h_7) ∧
 Vc.Bind
 (newTV h
 (TV.agg
 [TV.int IntKind.i64 (0 : Int), TV.bytes (32 : Nat) (Bs.zero (32 : Nat)),
 TV.int IntKind.i64 (0 : Int), TV.bytes (32 : Nat) (Bs.zero (32 : Nat)),
 TV.str []])
 (105 : Nat))
 fun (h_6 : Array Obj) ↦
 Ext h h_6 ∧
 CallsH Try.prog (54 : Nat)
 (TVs.vals
 [TV.ptr p,
 TV.agg
 [TV.int IntKind.i64 n, TV.bytes (32 : Nat) b, TV.int IntKind.i64 peer,
 TV.bytes (32 : Nat) b_4, TV.str text]])
 h_6 fun (v : Value) (h_7 : Array Obj) ↦
 ∃ (n_8 : Int),
 ∃ (n_9 : Int),
 ∃ (b_5 : Bs (32 : Nat)),
 ∃ (n_10 : Int),
 ∃ (b_6 : Bs (32 : Nat)),
 ∃ (s : List UInt8),
 v =
 TV.val
 (TV.tup
 [TV.int IntKind.i64 n_8,
 TV.agg
 [TV.int IntKind.i64 n_9, TV.bytes (32 : Nat) b_5,
 TV.int IntKind.i64 n_10, TV.bytes (32 : Nat) b_6,
 TV.str s]]) ∧
 wok h_7 (Array.size h) (0 : Nat) (67 : Nat) ∧
 Vc.Bind
 (TV.put h_7 (Array.size h) (0 : Nat)
 (TV.agg
 [TV.int IntKind.i64 n_9, TV.bytes (32 : Nat) b_5,
 TV.int IntKind.i64 n_10, TV.bytes (32 : Nat) b_6,
 TV.str s]))
 fun (h_8 : Array Obj) ↦
 J
 (e, p, n, b, peer, b_4, text, n_8,
 some (Loc.mk (Array.size h) (0 : Nat)), n_8)
 h_8) ∧
 Vc.Bind
 (newTV h_5
 (TV.agg
 [TV.int IntKind.i64 (0 : Int), TV.bytes (32 : Nat) (Bs.zero (32 : Nat)),
 TV.int IntKind.i64 (0 : Int), TV.bytes (32 : Nat) (Bs.zero (32 : Nat)), TV.str []])
 (105 : Nat))
 fun (h : Array Obj) ↦
 Ext h_5 h ∧
 CallsH Try.prog (55 : Nat)
 (TVs.vals
 [TV.agg
 [TV.int IntKind.i64 n_4, TV.int IntKind.i64 n_5, TV.bytes (32 : Nat) b,
 TV.int IntKind.i64 n_6, TV.int IntKind.u64 n_7, TV.slice s,
 TV.bytes (16 : Nat) b_3]])
 h fun (v : Value) (h_6 : Array Obj) ↦
 ∃ (b : Bs (32 : Nat)),
 v = TV.val (TV.bytes (32 : Nat) b) ∧
 Ext h h_6 ∧
 CallsH Try.prog (54 : Nat)
 (TVs.vals
 [TV.ptr p,
 TV.agg
 [TV.int IntKind.i64 n, TV.bytes (32 : Nat) b, TV.int IntKind.i64 peer,
 TV.bytes (32 : Nat) b_4, TV.str text]])
 h_6 fun (v : Value) (h : Array Obj) ↦
 ∃ (n_8 : Int),
 ∃ (n_9 : Int),
 ∃ (b_5 : Bs (32 : Nat)),
 ∃ (n_10 : Int),
 ∃ (b_6 : Bs (32 : Nat)),
 ∃ (s : List UInt8),
 v =
 TV.val
 (TV.tup
 [TV.int IntKind.i64 n_8,
 TV.agg
 [TV.int IntKind.i64 n_9, TV.bytes (32 : Nat) b_5,
 TV.int IntKind.i64 n_10, TV.bytes (32 : Nat) b_6,
 TV.str s]]) ∧
 wok h (Array.size h_5) (0 : Nat) (67 : Nat) ∧
 Vc.Bind
 (TV.put h (Array.size h_5) (0 : Nat)
 (TV.agg
 [TV.int IntKind.i64 n_9, TV.bytes (32 : Nat) b_5,
 TV.int IntKind.i64 n_10, TV.bytes (32 : Nat) b_6,
 TV.str s]))
 fun (h : Array Obj) ↦
 J
 (e, p, n, b, peer, b_4, text, n_8,
 some (Loc.mk (Array.size h_5) (0 : Nat)), n_8)
 h)
 fun (J : Int → Array Obj → Prop) ↦
 If (Option.isNone e)
 (wok h_4 (Array.size h) (0 : Nat) (32 : Nat) ∧
 Vc.Bind (TV.put h_4 (Array.size h) (0 : Nat) (TV.bytes (32 : Nat) (Bs.zero (32 : Nat)))) fun (h_5 : Array Obj) ↦
 ∃ (b : Bs (32 : Nat)),
 atBytes h_5 (Array.size h) (0 : Nat) (32 : Nat) b ∧
 R (TV.val (TV.tup [TV.int IntKind.i64 (5 : Int), TV.bytes (32 : Nat) b])) h_5)
 (If (!b_2)
 (wok h_4 (Array.size h) (0 : Nat) (32 : Nat) ∧
 Vc.Bind (TV.put h_4 (Array.size h) (0 : Nat) (TV.bytes (32 : Nat) (Bs.zero (32 : Nat)))) fun (h_5 : Array Obj) ↦
 ∃ (b : Bs (32 : Nat)),
 atBytes h_5 (Array.size h) (0 : Nat) (32 : Nat) b ∧
 R (TV.val (TV.tup [TV.int IntKind.i64 (5 : Int), TV.bytes (32 : Nat) b])) h_5)
 (∃ (n : Int),
 at1 h_4 (Array.size h_2) (0 : Nat) (Value.int IntKind.i64 n) ∧
 If (decide (n = (1 : Int)))
 (wok h_4 (Array.size h) (0 : Nat) (32 : Nat) ∧
 Vc.Bind (TV.put h_4 (Array.size h) (0 : Nat) (TV.bytes (32 : Nat) (Bs.zero (32 : Nat)))) fun (h_5 : Array Obj) ↦
 ∃ (b : Bs (32 : Nat)),
 atBytes h_5 (Array.size h) (0 : Nat) (32 : Nat) b ∧
 R (TV.val (TV.tup [TV.int IntKind.i64 (5 : Int), TV.bytes (32 : Nat) b])) h_5)
 (J (0 : Int) h_4)))

theorem early_Early_Put_calls (e : Option Go.Vc.Loc) (peer : Int) (text : List UInt8) (h : Heap) (R : Value → Heap → Prop) (H : early_Early_Put_vc e peer text h R) : CallsH Try.prog 23 (TVs.vals [TV.ptr e, TV.int IntKind.i64 peer, TV.str text]) h R :=
 vcFn_sound (C := ctx) ctx_ok (fn := Try.f23) Try.func23 ((by kernel_rfl : early_Early_Put_vc e peer text h R = vcFn ctx Try.f23 [TV.ptr e, TV.int IntKind.i64 peer, TV.str text] h R) ▸ H)


end Go.Proofs.Ytldocdpdjdekiaa
end

section
/- Blocks and votes that wait, in the program: New, Has, Len, Put. -/
namespace Go.Proofs.Ytldocdpdjdekiaa.Pool
open Go Go.Vc
open Board (Dm Ms decF nameF zeroM ms_at put_n mssz mssz1 decode_spec docdecode_spec mroot_spec BodyOk bsz bools dec_good)

/-- A message as an item. -/
def itemOf (d : Dm) (peer : Int) (text : List UInt8) : It := ⟨d.slot, nameF (d.ms Sl.nil) d.row, peer, d.target, text⟩

/-- What Put answers, the name of what gives way, and the items behind it. -/
def putW (want : Int → Bool) (most quota peer : Int) (text : List UInt8) (S : List It) : Int × Bs 32 × List It :=
  match decF text with
  | none => (5, Bs.zero 32, S)
  | some d => if want d.kind = true then ((putS most quota (itemOf d peer text) S).1, (putS most quota (itemOf d peer text) S).2.1.root, (putS most quota (itemOf d peer text) S).2.2) else (5, Bs.zero 32, S)

theorem putW_none {want : Int → Bool} {most quota peer : Int} {text : List UInt8} {S : List It} (h : decF text = none) : putW want most quota peer text S = (5, Bs.zero 32, S) := by
  unfold putW; rw [h]
theorem putW_no {want : Int → Bool} {most quota peer : Int} {text : List UInt8} {S : List It} {d : Dm} (h : decF text = some d) (hw : want d.kind = false) : putW want most quota peer text S = (5, Bs.zero 32, S) := by
  unfold putW; rw [h]; simp only; rw [if_neg (by rw [hw]; decide)]
theorem putW_yes {want : Int → Bool} {most quota peer : Int} {text : List UInt8} {S : List It} {d : Dm} (h : decF text = some d) (hw : want d.kind = true) :
    putW want most quota peer text S = ((putS most quota (itemOf d peer text) S).1, (putS most quota (itemOf d peer text) S).2.1.root, (putS most quota (itemOf d peer text) S).2.2) := by
  unfold putW; rw [h]; simp only; rw [if_pos hw]

theorem dm_row {text : List UInt8} {d : Dm} (h : decF text = some d) : d.row.length < 500 := by
  have hg := dec_good h
  unfold Board.goodF at hg
  simp only [Bool.and_eq_true] at hg
  have h2 := hg.2
  split at h2
  · simp only [Bool.and_eq_true, decide_eq_true_eq] at h2; omega
  · simp only [Bool.and_eq_true, decide_eq_true_eq] at h2; omega

section
variable {R : Value → Heap → Prop} {h : Heap} {o b : Nat} {A : Sl} {S : List It} {most quota : Int} {T : TypeId}

/-- What waits, in memory: a pointer to a pool. -/
structure WL (T : TypeId) (h : Heap) (o b : Nat) (A : Sl) (S : List It) (most quota : Int) : Prop where
  var : Var T h o (.agg [.ptr (some ⟨b, 0⟩)])
  pl : PL h b A S most quota
  apart : ¬ Mine b A o

theorem WL.ext {h' : Heap} (w : WL T h o b A S most quota) (x : Ext h h') : WL T h' o b A S most quota := ⟨w.var.ext x, w.pl.ext x, w.apart⟩
theorem WL.only {h' : Heap} {Q : Nat → Prop} (w : WL T h o b A S most quota) (f : Only Q h h') (h1 : ¬ Q o) (h2 : ∀ i, Mine b A i → ¬ Q i) : WL T h' o b A S most quota := ⟨w.var.only f h1, w.pl.only f h2, w.apart⟩
theorem WL.grown {h' : Heap} {A' : Sl} {S' : List It} (w : WL T h o b A S most quota) (p : PL h' b A' S' most quota) (g : Grown b A h A' h') : WL T h' o b A' S' most quota :=
  ⟨w.var.only g.only w.apart, p, fun hx => by
    rcases g.new o hx with h1 | h1
    · exact w.apart h1
    · have := w.var.lt; omega⟩

def Ok64 (most quota : Int) : Prop := 1 ≤ most ∧ most ≤ 64 ∧ 1 ≤ quota ∧ quota ≤ 64

theorem onew_spec {q : Int} (hr0 : ¬ Ok64 most q → R (TV.ptr none).val h) (hr1 : Ok64 most q → ∀ h', WL 128 h' (h.size + 1) h.size Sl.nil [] most q → Ext h h' → h'.size = h.size + 2 → R (TV.ptr (some ⟨h.size + 1, 0⟩)).val h') :
    CallsH Try.prog 31 (TVs.vals [.int .i64 most, .int .i64 q]) h R := by
  apply orphans_New_calls
  unfold orphans_New_vc
  refine new_spec (fun hn => ⟨_, rfl, If.yes (hr0 hn)⟩) fun hy h1 p1 x1 s1 => ⟨_, rfl, If.no (newTV_in fun h2 v2 x2 s2 => ?_)⟩
  rw [s1] at v2
  have := hr1 hy h2 ⟨v2, p1.ext x2, fun hx => by have := p1.lt hx; omega⟩ (x1.trans x2) (by omega)
  rw [s1]
  exact this

theorem enew_spec {q : Int} (hr0 : ¬ Ok64 most q → R (TV.ptr none).val h) (hr1 : Ok64 most q → ∀ h', WL 103 h' (h.size + 1) h.size Sl.nil [] most q → Ext h h' → h'.size = h.size + 2 → R (TV.ptr (some ⟨h.size + 1, 0⟩)).val h') :
    CallsH Try.prog 22 (TVs.vals [.int .i64 most, .int .i64 q]) h R := by
  apply early_New_calls
  unfold early_New_vc
  refine new_spec (fun hn => ⟨_, rfl, If.yes (hr0 hn)⟩) fun hy h1 p1 x1 s1 => ⟨_, rfl, If.no (newTV_in fun h2 v2 x2 s2 => ?_)⟩
  rw [s1] at v2
  have := hr1 hy h2 ⟨v2, p1.ext x2, fun hx => by have := p1.lt hx; omega⟩ (x1.trans x2) (by omega)
  rw [s1]
  exact this




theorem olen_spec (w : WL 128 h o b A S most quota) (hr : R (TV.int .i64 (S.length : Int)).val h) : CallsH Try.prog 43 (TVs.vals [.ptr (some ⟨o, 0⟩)]) h R := by
  apply orphans_Orphans_Len_calls
  unfold orphans_Orphans_Len_vc
  exact If.no ⟨_, w.var.at1 rfl, lenP_spec w.pl ⟨_, rfl, hr⟩⟩
theorem elen_spec (w : WL 103 h o b A S most quota) (hr : R (TV.int .i64 (S.length : Int)).val h) : CallsH Try.prog 27 (TVs.vals [.ptr (some ⟨o, 0⟩)]) h R := by
  apply early_Early_Len_calls
  unfold early_Early_Len_vc
  exact If.no ⟨_, w.var.at1 rfl, lenP_spec w.pl ⟨_, rfl, hr⟩⟩
theorem olen_nil (hr : R (TV.int .i64 0).val h) : CallsH Try.prog 43 (TVs.vals [.ptr none]) h R := by
  apply orphans_Orphans_Len_calls
  exact If.yes hr
theorem elen_nil (hr : R (TV.int .i64 0).val h) : CallsH Try.prog 27 (TVs.vals [.ptr none]) h R := by
  apply early_Early_Len_calls
  exact If.yes hr


set_option maxRecDepth 100000 in
theorem oput_spec (w : WL 128 h o b A S most quota) {peer : Int} {text : List UInt8} (hm : 1 ≤ most) (hmm : most ≤ 64) (hlen : (S.length : Int) ≤ most) (ht : text.length < 1000)
    (hr : ∀ h' A', WL 128 h' o b A' (putW (fun k => decide (k = 1)) most quota peer text S).2.2 most quota → Grown b A h A' h' → R (TV.tup [.int .i64 (putW (fun k => decide (k = 1)) most quota peer text S).1, .bytes 32 (putW (fun k => decide (k = 1)) most quota peer text S).2.1]).val h') :
    CallsH Try.prog 32 (TVs.vals [.ptr (some ⟨o, 0⟩), .int .i64 peer, .str text]) h R := by
  apply orphans_Orphans_Put_calls
  unfold orphans_Orphans_Put_vc
  refine newTV_in fun h1 v1 x1 s1 => ?_
  have bad : ∀ hh, Ext h1 hh → putW (fun k => decide (k = 1)) most quota peer text S = (5, Bs.zero 32, S) →
      wok hh h.size 0 32 ∧ Bind (TV.put hh h.size 0 (TV.bytes 32 (Bs.zero 32))) fun (h_5 : Heap) => ∃ (b : Bs 32), atBytes h_5 h.size 0 32 b ∧ R (TV.tup [.int .i64 5, .bytes 32 b]).val h_5 := by
    intro hh xx he
    refine put_n (v1.ext xx) (t := .bytes 32 (Bs.zero 32)) rfl rfl fun h5 v5 f5 s5 => ⟨_, v5.bytes, ?_⟩
    rw [he] at hr
    have x5 : Ext h h5 := Only.cut (x1.trans xx) f5 fun i hi => by omega
    exact hr h5 A (w.ext x5) (.of_ext x5)
  refine decode_spec (by omega) (fun hno h2 x2 => ?_) fun d h2 bs hd e2 x2 _ => ?_
  · refine ⟨_, _, _, _, _, _, _, _, rfl, newTV_in fun h3 v3 x3 s3 => put_n (t0 := zeroM.tv) v3 (t := zeroM.tv) mssz1 mssz fun h4 v4 f4 s4 => ?_⟩
    have x24 : Ext h2 h4 := Only.cut x3 f4 fun i hi => by omega
    intro J HJ
    exact If.no (If.yes (bad h4 (x2.trans x24) (putW_none hno)))
  refine ⟨_, _, _, _, _, _, _, _, rfl, newTV_in fun h3 v3 x3 s3 => put_n (t0 := zeroM.tv) v3 (t := (d.ms bs).tv) mssz1 mssz fun h4 v4 f4 s4 => ?_⟩
  have x24 : Ext h2 h4 := Only.cut x3 f4 fun i hi => by omega
  have x14 := x2.trans x24
  have x04 := x1.trans x14
  intro J HJ
  have z24 := x24.size
  have z2 := x2.size
  refine If.no (If.no ⟨d.kind, v4.at1 rfl, If.split (fun hk => ?_) fun hk => ?_⟩)
  · have hk' : d.kind ≠ 1 := by simpa using hk
    exact bad h4 x14 (putW_no hd (decide_eq_false hk'))
  have hwant : decide (d.kind = 1) = true := by simpa using hk
  refine HJ 0 h4 ?_
  clear HJ bad
  intro J2 HJ2
  have hput := putW_yes (most := most) (quota := quota) (peer := peer) (S := S) (want := fun k => decide (k = 1)) hd hwant
  have fin : ∀ (hh : Heap) (q : Nat) (A' : Sl) (a : Option Vc.Loc × Option Vc.Loc × Int × Bs 32 × Int × Bs 32 × List UInt8 × Int × Option Vc.Loc × Int), a.2.2.2.2.2.2.2.2 = (some ⟨q, 0⟩, (putS most quota (itemOf d peer text) S).1) →
      Var 105 hh q (putS most quota (itemOf d peer text) S).2.1.tv → PL hh b A' (putS most quota (itemOf d peer text) S).2.2 most quota → Grown b A h4 A' hh → J2 a hh := by
    intro hh q A' a ha vq p g
    refine HJ2 a hh ?_
    dsimp only
    rw [ha]
    refine ⟨_, v_root vq, ?_⟩
    have v1h : Var 50 hh h.size (.bytes 32 (Bs.zero 32)) := (v1.ext x14).only g.only fun hx => by have := w.pl.lt hx; omega
    refine put_n v1h (t := .bytes 32 (putS most quota (itemOf d peer text) S).2.1.root) rfl bsz fun h5 v5 f5 s5 => ⟨_, v5.bytes, ?_⟩
    have g5 : Grown b A h A' h5 := ⟨⟨by have := x04.size; have := g.only.size; omega, fun i hi hn => by
      rw [f5.same i (by have := x04.size; have := g.only.size; omega) (by omega), g.only.same i (by have := x04.size; omega) hn, x04.same i hi]⟩, fun i hi => by
      rcases g.new i hi with h9 | h9
      · exact .inl h9
      · exact .inr (by have := x04.size; omega)⟩
    have p5 : PL h5 b A' (putS most quota (itemOf d peer text) S).2.2 most quota := p.only f5 fun i hi hx => by
      rcases g.new i hi with h9 | h9
      · have := w.pl.lt h9; omega
      · have := x04.size; omega
    have := hr h5 A' (by rw [hput]; exact w.grown p5 g5) g5
    rw [hput] at this
    exact this
  have hrow := dm_row hd
  have e4 := e2.ext x24
  have v4 : Var 63 h4 h2.size (d.ms bs).tv := v4
  refine ⟨_, (w.var.ext x04).at1 rfl, d.slot, v4.at1 rfl, ms_at v4 ⟨d.target, v4.at.2.2.1, ⟨?_, ?_⟩⟩⟩
  · refine mroot_spec (m := d.ms bs) e4 hrow fun h5 x5 => ⟨_, rfl, x5, ⟨?_, ?_⟩⟩
    · refine put_spec (x := itemOf d peer text) ((w.pl.ext x04).ext x5) hm hmm hlen fun h6 A' p6 g6 => ⟨_, _, _, _, _, _, rfl, ?_⟩
      refine newTV_in fun h7 v7 x7 s7 => ⟨x7, put_n (t0 := It.zero.tv) v7 (t := (putS most quota (itemOf d peer text) S).2.1.tv) (It.size _).symm rfl fun h8 v8 f8 s8 => ?_⟩
      have x68 : Ext h6 h8 := Only.cut x7 f8 fun i hi => by omega
      exact fin h8 _ A' _ rfl v8 (p6.ext x68) ((Grown.of_ext x5).trans (g6.trans (.of_ext x68)))
    · refine newTV_in fun h6 v6 x6 s6 => ⟨x6, ?_⟩
      refine put_spec (x := itemOf d peer text) (((w.pl.ext x04).ext x5).ext x6) hm hmm hlen fun h7 A' p7 g7 => ⟨_, _, _, _, _, _, rfl, ?_⟩
      have hne : ∀ i, Mine b A' i → i ≠ h5.size := fun i hi => by
        rcases g7.new i hi with h9 | h9
        · have := w.pl.lt h9; have := x04.size; have := x5.size; omega
        · omega
      have hneA : ¬ Mine b A h5.size := fun hx => by have := w.pl.lt hx; have := x04.size; have := x5.size; omega
      refine put_n (t0 := It.zero.tv) (v6.only g7.only hneA) (t := (putS most quota (itemOf d peer text) S).2.1.tv) (It.size _).symm rfl fun h8 v8 f8 s8 => ?_
      refine fin h8 _ A' _ rfl v8 (p7.only f8 hne) ((Grown.of_ext x5).trans ⟨⟨by have := x6.size; have := g7.only.size; omega, fun i hi hn => ?_⟩, fun i hi => ?_⟩)
      · have := x6.size
        have := g7.only.size
        rw [f8.same i (by omega) (by omega), g7.only.same i (by omega) hn, x6.same i hi]
      · rcases g7.new i hi with h9 | h9
        · exact .inl h9
        · have := x6.size; exact .inr (by omega)
  · refine newTV_in fun h5 v5 x5 s5 => ⟨x5, ?_⟩
    refine mroot_spec (m := d.ms bs) (e4.ext x5) hrow fun h6 x6 => ⟨_, rfl, x6, ?_⟩
    refine put_spec (x := itemOf d peer text) (((w.pl.ext x04).ext x5).ext x6) hm hmm hlen fun h7 A' p7 g7 => ⟨_, _, _, _, _, _, rfl, ?_⟩
    have hne : ∀ i, Mine b A' i → i ≠ h4.size := fun i hi => by
      rcases g7.new i hi with h9 | h9
      · have := w.pl.lt h9; have := x04.size; omega
      · have := x6.size; omega
    have hneA : ¬ Mine b A h4.size := fun hx => by have := w.pl.lt hx; have := x04.size; omega
    refine put_n (t0 := It.zero.tv) ((v5.ext x6).only g7.only hneA) (t := (putS most quota (itemOf d peer text) S).2.1.tv) (It.size _).symm rfl fun h8 v8 f8 s8 => ?_
    refine fin h8 _ A' _ rfl v8 (p7.only f8 hne) ⟨⟨by have := x5.size; have := x6.size; have := g7.only.size; omega, fun i hi hn => ?_⟩, fun i hi => ?_⟩
    · have := x5.size
      have := x6.size
      have := g7.only.size
      rw [f8.same i (by omega) (by omega), g7.only.same i (by omega) hn, x6.same i (by omega), x5.same i hi]
    · rcases g7.new i hi with h9 | h9
      · exact .inl h9
      · have := x5.size; have := x6.size; exact .inr (by omega)

theorem oput_nil {peer : Int} {text : List UInt8} (ht : text.length < 1000) (hr : ∀ h', Ext h h' → R (TV.tup [.int .i64 5, .bytes 32 (Bs.zero 32)]).val h') : CallsH Try.prog 32 (TVs.vals [.ptr none, .int .i64 peer, .str text]) h R := by
  apply orphans_Orphans_Put_calls
  unfold orphans_Orphans_Put_vc
  refine newTV_in fun h1 v1 x1 s1 => decode_spec (by omega) (fun hno h2 x2 => ?_) fun d h2 bs hd e2 x2 _ => ?_
  all_goals
    refine ⟨_, _, _, _, _, _, _, _, rfl, newTV_in fun h3 v3 x3 s3 => put_n (t0 := zeroM.tv) v3 mssz1 mssz fun h4 v4 f4 s4 => ?_⟩
    have x14 : Ext h1 h4 := x2.trans (Only.cut x3 f4 fun i hi => by omega)
    intro J HJ
    refine If.yes (put_n (v1.ext x14) (t := .bytes 32 (Bs.zero 32)) rfl rfl fun h5 v5 f5 s5 => ⟨_, v5.bytes, ?_⟩)
    exact hr h5 (Only.cut (x1.trans x14) f5 fun i hi => by omega)


set_option maxRecDepth 100000 in
theorem eput_spec (w : WL 103 h o b A S most quota) {peer : Int} {text : List UInt8} (hm : 1 ≤ most) (hmm : most ≤ 64) (hlen : (S.length : Int) ≤ most) (ht : text.length < 1000)
    (hr : ∀ h' A', WL 103 h' o b A' (putW (fun k => !decide (k = 1)) most quota peer text S).2.2 most quota → Grown b A h A' h' → R (TV.tup [.int .i64 (putW (fun k => !decide (k = 1)) most quota peer text S).1, .bytes 32 (putW (fun k => !decide (k = 1)) most quota peer text S).2.1]).val h') :
    CallsH Try.prog 23 (TVs.vals [.ptr (some ⟨o, 0⟩), .int .i64 peer, .str text]) h R := by
  apply early_Early_Put_calls
  unfold early_Early_Put_vc
  refine newTV_in fun h1 v1 x1 s1 => ?_
  have bad : ∀ hh, Ext h1 hh → putW (fun k => !decide (k = 1)) most quota peer text S = (5, Bs.zero 32, S) →
      wok hh h.size 0 32 ∧ Bind (TV.put hh h.size 0 (TV.bytes 32 (Bs.zero 32))) fun (h_5 : Heap) => ∃ (b : Bs 32), atBytes h_5 h.size 0 32 b ∧ R (TV.tup [.int .i64 5, .bytes 32 b]).val h_5 := by
    intro hh xx he
    refine put_n (v1.ext xx) (t := .bytes 32 (Bs.zero 32)) rfl rfl fun h5 v5 f5 s5 => ⟨_, v5.bytes, ?_⟩
    rw [he] at hr
    have x5 : Ext h h5 := Only.cut (x1.trans xx) f5 fun i hi => by omega
    exact hr h5 A (w.ext x5) (.of_ext x5)
  refine decode_spec (by omega) (fun hno h2 x2 => ?_) fun d h2 bs hd e2 x2 _ => ?_
  · refine ⟨_, _, _, _, _, _, _, _, rfl, newTV_in fun h3 v3 x3 s3 => put_n (t0 := zeroM.tv) v3 (t := zeroM.tv) mssz1 mssz fun h4 v4 f4 s4 => ?_⟩
    have x24 : Ext h2 h4 := Only.cut x3 f4 fun i hi => by omega
    intro J HJ
    exact If.no (If.yes (bad h4 (x2.trans x24) (putW_none hno)))
  refine ⟨_, _, _, _, _, _, _, _, rfl, newTV_in fun h3 v3 x3 s3 => put_n (t0 := zeroM.tv) v3 (t := (d.ms bs).tv) mssz1 mssz fun h4 v4 f4 s4 => ?_⟩
  have x24 : Ext h2 h4 := Only.cut x3 f4 fun i hi => by omega
  have x14 := x2.trans x24
  have x04 := x1.trans x14
  intro J HJ
  have z24 := x24.size
  have z2 := x2.size
  refine If.no (If.no ⟨d.kind, v4.at1 rfl, If.dec.2 ⟨fun hk => ?_, fun hk => ?_⟩⟩)
  · exact bad h4 x14 (putW_no hd (by rw [decide_eq_true hk]; rfl))
  have hwant : (!decide (d.kind = 1)) = true := by rw [decide_eq_false hk]; rfl
  refine HJ 0 h4 ?_
  clear HJ bad
  intro J2 HJ2
  have hput := putW_yes (most := most) (quota := quota) (peer := peer) (S := S) (want := fun k => !decide (k = 1)) hd hwant
  have fin : ∀ (hh : Heap) (q : Nat) (A' : Sl) (a : Option Vc.Loc × Option Vc.Loc × Int × Bs 32 × Int × Bs 32 × List UInt8 × Int × Option Vc.Loc × Int), a.2.2.2.2.2.2.2.2 = (some ⟨q, 0⟩, (putS most quota (itemOf d peer text) S).1) →
      Var 105 hh q (putS most quota (itemOf d peer text) S).2.1.tv → PL hh b A' (putS most quota (itemOf d peer text) S).2.2 most quota → Grown b A h4 A' hh → J2 a hh := by
    intro hh q A' a ha vq p g
    refine HJ2 a hh ?_
    dsimp only
    rw [ha]
    refine ⟨_, v_root vq, ?_⟩
    have v1h : Var 50 hh h.size (.bytes 32 (Bs.zero 32)) := (v1.ext x14).only g.only fun hx => by have := w.pl.lt hx; omega
    refine put_n v1h (t := .bytes 32 (putS most quota (itemOf d peer text) S).2.1.root) rfl bsz fun h5 v5 f5 s5 => ⟨_, v5.bytes, ?_⟩
    have g5 : Grown b A h A' h5 := ⟨⟨by have := x04.size; have := g.only.size; omega, fun i hi hn => by
      rw [f5.same i (by have := x04.size; have := g.only.size; omega) (by omega), g.only.same i (by have := x04.size; omega) hn, x04.same i hi]⟩, fun i hi => by
      rcases g.new i hi with h9 | h9
      · exact .inl h9
      · exact .inr (by have := x04.size; omega)⟩
    have p5 : PL h5 b A' (putS most quota (itemOf d peer text) S).2.2 most quota := p.only f5 fun i hi hx => by
      rcases g.new i hi with h9 | h9
      · have := w.pl.lt h9; omega
      · have := x04.size; omega
    have := hr h5 A' (by rw [hput]; exact w.grown p5 g5) g5
    rw [hput] at this
    exact this
  have hrow := dm_row hd
  have e4 := e2.ext x24
  have v4 : Var 63 h4 h2.size (d.ms bs).tv := v4
  refine ⟨_, (w.var.ext x04).at1 rfl, d.slot, v4.at1 rfl, ms_at v4 ⟨d.target, v4.at.2.2.1, ⟨?_, ?_⟩⟩⟩
  · refine mroot_spec (m := d.ms bs) e4 hrow fun h5 x5 => ⟨_, rfl, x5, ⟨?_, ?_⟩⟩
    · refine put_spec (x := itemOf d peer text) ((w.pl.ext x04).ext x5) hm hmm hlen fun h6 A' p6 g6 => ⟨_, _, _, _, _, _, rfl, ?_⟩
      refine newTV_in fun h7 v7 x7 s7 => ⟨x7, put_n (t0 := It.zero.tv) v7 (t := (putS most quota (itemOf d peer text) S).2.1.tv) (It.size _).symm rfl fun h8 v8 f8 s8 => ?_⟩
      have x68 : Ext h6 h8 := Only.cut x7 f8 fun i hi => by omega
      exact fin h8 _ A' _ rfl v8 (p6.ext x68) ((Grown.of_ext x5).trans (g6.trans (.of_ext x68)))
    · refine newTV_in fun h6 v6 x6 s6 => ⟨x6, ?_⟩
      refine put_spec (x := itemOf d peer text) (((w.pl.ext x04).ext x5).ext x6) hm hmm hlen fun h7 A' p7 g7 => ⟨_, _, _, _, _, _, rfl, ?_⟩
      have hne : ∀ i, Mine b A' i → i ≠ h5.size := fun i hi => by
        rcases g7.new i hi with h9 | h9
        · have := w.pl.lt h9; have := x04.size; have := x5.size; omega
        · omega
      have hneA : ¬ Mine b A h5.size := fun hx => by have := w.pl.lt hx; have := x04.size; have := x5.size; omega
      refine put_n (t0 := It.zero.tv) (v6.only g7.only hneA) (t := (putS most quota (itemOf d peer text) S).2.1.tv) (It.size _).symm rfl fun h8 v8 f8 s8 => ?_
      refine fin h8 _ A' _ rfl v8 (p7.only f8 hne) ((Grown.of_ext x5).trans ⟨⟨by have := x6.size; have := g7.only.size; omega, fun i hi hn => ?_⟩, fun i hi => ?_⟩)
      · have := x6.size
        have := g7.only.size
        rw [f8.same i (by omega) (by omega), g7.only.same i (by omega) hn, x6.same i hi]
      · rcases g7.new i hi with h9 | h9
        · exact .inl h9
        · have := x6.size; exact .inr (by omega)
  · refine newTV_in fun h5 v5 x5 s5 => ⟨x5, ?_⟩
    refine mroot_spec (m := d.ms bs) (e4.ext x5) hrow fun h6 x6 => ⟨_, rfl, x6, ?_⟩
    refine put_spec (x := itemOf d peer text) (((w.pl.ext x04).ext x5).ext x6) hm hmm hlen fun h7 A' p7 g7 => ⟨_, _, _, _, _, _, rfl, ?_⟩
    have hne : ∀ i, Mine b A' i → i ≠ h4.size := fun i hi => by
      rcases g7.new i hi with h9 | h9
      · have := w.pl.lt h9; have := x04.size; omega
      · have := x6.size; omega
    have hneA : ¬ Mine b A h4.size := fun hx => by have := w.pl.lt hx; have := x04.size; omega
    refine put_n (t0 := It.zero.tv) ((v5.ext x6).only g7.only hneA) (t := (putS most quota (itemOf d peer text) S).2.1.tv) (It.size _).symm rfl fun h8 v8 f8 s8 => ?_
    refine fin h8 _ A' _ rfl v8 (p7.only f8 hne) ⟨⟨by have := x5.size; have := x6.size; have := g7.only.size; omega, fun i hi hn => ?_⟩, fun i hi => ?_⟩
    · have := x5.size
      have := x6.size
      have := g7.only.size
      rw [f8.same i (by omega) (by omega), g7.only.same i (by omega) hn, x6.same i (by omega), x5.same i hi]
    · rcases g7.new i hi with h9 | h9
      · exact .inl h9
      · have := x5.size; have := x6.size; exact .inr (by omega)

theorem eput_nil {peer : Int} {text : List UInt8} (ht : text.length < 1000) (hr : ∀ h', Ext h h' → R (TV.tup [.int .i64 5, .bytes 32 (Bs.zero 32)]).val h') : CallsH Try.prog 23 (TVs.vals [.ptr none, .int .i64 peer, .str text]) h R := by
  apply early_Early_Put_calls
  unfold early_Early_Put_vc
  refine newTV_in fun h1 v1 x1 s1 => decode_spec (by omega) (fun hno h2 x2 => ?_) fun d h2 bs hd e2 x2 _ => ?_
  all_goals
    refine ⟨_, _, _, _, _, _, _, _, rfl, newTV_in fun h3 v3 x3 s3 => put_n (t0 := zeroM.tv) v3 mssz1 mssz fun h4 v4 f4 s4 => ?_⟩
    have x14 : Ext h1 h4 := x2.trans (Only.cut x3 f4 fun i hi => by omega)
    intro J HJ
    refine If.yes (put_n (v1.ext x14) (t := .bytes 32 (Bs.zero 32)) rfl rfl fun h5 v5 f5 s5 => ⟨_, v5.bytes, ?_⟩)
    exact hr h5 (Only.cut (x1.trans x14) f5 fun i hi => by omega)

end
end Go.Proofs.Ytldocdpdjdekiaa.Pool
end

section
/- The conditions of functions, as the generator reckons them out, each with the proof that it is that. -/
namespace Go.Proofs.Ytldocdpdjdekiaa
open Go Go.Vc
set_option maxRecDepth 100000
set_option linter.unusedVariables false

def orphans_blocks_vc (list : Sl) (h : Heap) (R : Value → Heap → Prop) : Prop :=
 Go.Vc.Loop (Sl.mk none (0 : Nat) (0 : Nat), (0 : Int)) h fun (s : Sl × Int) (h : Array Obj) (K : Sl × Int → Array Obj → Prop) ↦
 If (decide (s.snd < (↑list.len : Int)))
 ((0 : Int) ≤ s.snd ∧
 s.snd < (↑list.len : Int) ∧
 Nn list.a fun (l : Go.Vc.Loc) ↦
 ∃ (n : Int),
 ∃ (b : Bs (32 : Nat)),
 ∃ (n_1 : Int),
 ∃ (b_1 : Bs (32 : Nat)),
 ∃ (s_1 : List UInt8),
 (at1 h l.b (l.o + Int.toNat s.snd * (67 : Nat)) (Value.int IntKind.i64 n) ∧
 atBytes h l.b (l.o + Int.toNat s.snd * (67 : Nat) + (1 : Nat)) (32 : Nat) b ∧
 at1 h l.b (l.o + Int.toNat s.snd * (67 : Nat) + (1 : Nat) + (32 : Nat)) (Value.int IntKind.i64 n_1) ∧
 atBytes h l.b (l.o + Int.toNat s.snd * (67 : Nat) + (1 : Nat) + (32 : Nat) + (1 : Nat)) (32 : Nat) b_1 ∧
 at1 h l.b (l.o + Int.toNat s.snd * (67 : Nat) + (1 : Nat) + (32 : Nat) + (1 : Nat) + (32 : Nat))
 (Value.string (ByteArray.mk (List.toArray s_1)))) ∧
 Vc.Bind
 (newTV h
 (TV.agg
 [TV.int IntKind.i64 (0 : Int), TV.bytes (32 : Nat) (Bs.zero (32 : Nat)), TV.int IntKind.i64 (0 : Int),
 TV.bytes (32 : Nat) (Bs.zero (32 : Nat)), TV.str []])
 (105 : Nat))
 fun (h_1 : Array Obj) ↦
 wok h_1 (Array.size h) (0 : Nat) (67 : Nat) ∧
 Vc.Bind
 (TV.put h_1 (Array.size h) (0 : Nat)
 (TV.agg [TV.int IntKind.i64 n, TV.bytes (32 : Nat) b, TV.int IntKind.i64 n_1, TV.bytes (32 : Nat) b_1, TV.str s_1]))
 fun (h_2 : Array Obj) ↦
 ∃ (s_2 : List UInt8),
 at1 h_2 (Array.size h) (66 : Nat) (Value.string (ByteArray.mk (List.toArray s_2))) ∧
 CallsH Try.prog (53 : Nat) (TVs.vals [TV.str s_2]) h_2 fun (v : Value) (h_3 : Array Obj) ↦
 ∃ (n : Int),
 ∃ (n_2 : Int),
 ∃ (b : Bs (32 : Nat)),
 ∃ (n_3 : Int),
 ∃ (n_4 : Int),
 ∃ (s_3 : Sl),
 ∃ (b_2 : Bs (16 : Nat)),
 ∃ (b_3 : Bool),
 v =
 TV.val
 (TV.tup
 [TV.agg
 [TV.int IntKind.i64 n, TV.int IntKind.i64 n_2, TV.bytes (32 : Nat) b, TV.int IntKind.i64 n_3,
 TV.int IntKind.u64 n_4, TV.slice s_3, TV.bytes (16 : Nat) b_2],
 TV.bool b_3]) ∧
 Vc.Bind
 (newTV h_3
 (TV.agg
 [TV.int IntKind.i64 (0 : Int), TV.int IntKind.i64 (0 : Int), TV.bytes (32 : Nat) (Bs.zero (32 : Nat)),
 TV.int IntKind.i64 (0 : Int), TV.int IntKind.u64 (0 : Int), TV.slice Sl.nil,
 TV.bytes (16 : Nat) (Bs.zero (16 : Nat))])
 (63 : Nat))
 fun (h_4 : Array Obj) ↦
 wok h_4 (Array.size h_3) (0 : Nat) (53 : Nat) ∧
 Vc.Bind
 (TV.put h_4 (Array.size h_3) (0 : Nat)
 (TV.agg
 [TV.int IntKind.i64 n, TV.int IntKind.i64 n_2, TV.bytes (32 : Nat) b, TV.int IntKind.i64 n_3,
 TV.int IntKind.u64 n_4, TV.slice s_3, TV.bytes (16 : Nat) b_2]))
 fun (h_5 : Array Obj) ↦
 ∃ (b : Bs (32 : Nat)),
 atBytes h_5 (Array.size h) (1 : Nat) (32 : Nat) b ∧
 ∃ (n : Int),
 ∃ (n_5 : Int),
 ∃ (b_4 : Bs (32 : Nat)),
 ∃ (n_6 : Int),
 ∃ (n_7 : Int),
 ∃ (s_4 : Sl),
 ∃ (b_5 : Bs (16 : Nat)),
 (at1 h_5 (Array.size h_3) (0 : Nat) (Value.int IntKind.i64 n) ∧
 at1 h_5 (Array.size h_3) (1 : Nat) (Value.int IntKind.i64 n_5) ∧
 atBytes h_5 (Array.size h_3) (2 : Nat) (32 : Nat) b_4 ∧
 at1 h_5 (Array.size h_3) (34 : Nat) (Value.int IntKind.i64 n_6) ∧
 at1 h_5 (Array.size h_3) (35 : Nat) (Value.int IntKind.u64 n_7) ∧
 at1 h_5 (Array.size h_3) (36 : Nat) (slVal s_4) ∧
 atBytes h_5 (Array.size h_3) (37 : Nat) (16 : Nat) b_5) ∧
 ∃ (new : List Value),
 slAt
 (Array.push h_5
 (row
 (TVs.cells
 [TV.agg
 [TV.bytes (32 : Nat) b,
 TV.agg
 [TV.int IntKind.i64 n, TV.int IntKind.i64 n_5,
 TV.bytes (32 : Nat) b_4, TV.int IntKind.i64 n_6,
 TV.int IntKind.u64 n_7, TV.slice s_4,
 TV.bytes (16 : Nat) b_5]]])
 (126 : Nat)))
 (Sl.mk (some (Loc.mk (Array.size h_5) (0 : Nat))) (1 : Nat) (1 : Nat))
 (85 : Nat) new ∧
 (∀ (v : Value), v ∈ new → isOne v = true) ∧
 vcAppend Ytldocdpdjdekiaa.ctx (126 : Nat) s.fst (1 : Nat) new
 (Array.push h_5
 (row
 (TVs.cells
 [TV.agg
 [TV.bytes (32 : Nat) b,
 TV.agg
 [TV.int IntKind.i64 n, TV.int IntKind.i64 n_5,
 TV.bytes (32 : Nat) b_4, TV.int IntKind.i64 n_6,
 TV.int IntKind.u64 n_7, TV.slice s_4,
 TV.bytes (16 : Nat) b_5]]])
 (126 : Nat)))
 fun (s_5 : Sl) (h : Array Obj) ↦
 K (s_5, IntKind.wrap IntKind.i64 (s.snd + (1 : Int))) h)
 (R (TV.val (TV.slice s.fst)) h)

theorem orphans_blocks_calls (list : Sl) (h : Heap) (R : Value → Heap → Prop) (H : orphans_blocks_vc list h R) : CallsH Try.prog 98 (TVs.vals [TV.slice list]) h R :=
 vcFn_sound (C := ctx) ctx_ok (fn := Try.f98) Try.func98 ((by kernel_rfl : orphans_blocks_vc list h R = vcFn ctx Try.f98 [TV.slice list] h R) ▸ H)


def orphans_Orphans_Of_1_vc (x_Slot : Int) (x_Root : Bs (32 : Nat)) (x_Peer : Int) (x_For : Bs (32 : Nat)) (x_Text : List UInt8) (p : Option Go.Vc.Loc) (h : Heap) (R : Value → Heap → Prop) : Prop :=
 Vc.Bind
 (newTV h (TV.agg [TV.int IntKind.i64 x_Slot, TV.bytes (32 : Nat) x_Root, TV.int IntKind.i64 x_Peer, TV.bytes (32 : Nat) x_For, TV.str x_Text]) (105 : Nat))
 fun (h_1 : Array Obj) ↦
 ∃ (b : Bs (32 : Nat)),
 atBytes h_1 (Array.size h) (34 : Nat) (32 : Nat) b ∧
 Nn p fun (l : Go.Vc.Loc) ↦ ∃ (b_1 : Bs (32 : Nat)), atBytes h_1 l.b l.o (32 : Nat) b_1 ∧ R (TV.val (TV.bool (decide (b.l = b_1.l)))) h_1

theorem orphans_Orphans_Of_1_calls (x_Slot : Int) (x_Root : Bs (32 : Nat)) (x_Peer : Int) (x_For : Bs (32 : Nat)) (x_Text : List UInt8) (p : Option Go.Vc.Loc) (h : Heap) (R : Value → Heap → Prop) (H : orphans_Orphans_Of_1_vc x_Slot x_Root x_Peer x_For x_Text p h R) : CallsH Try.prog 99 (TVs.vals [TV.agg [TV.int IntKind.i64 x_Slot, TV.bytes (32 : Nat) x_Root, TV.int IntKind.i64 x_Peer, TV.bytes (32 : Nat) x_For, TV.str x_Text], TV.ptr p]) h R :=
 vcFn_sound (C := ctx) ctx_ok (fn := Try.f99) Try.func99 ((by kernel_rfl : orphans_Orphans_Of_1_vc x_Slot x_Root x_Peer x_For x_Text p h R = vcFn ctx Try.f99 [TV.agg [TV.int IntKind.i64 x_Slot, TV.bytes (32 : Nat) x_Root, TV.int IntKind.i64 x_Peer, TV.bytes (32 : Nat) x_For, TV.str x_Text], TV.ptr p] h R) ▸ H)


def early_Early_Ripe_1_vc (x_Slot : Int) (x_Root : Bs (32 : Nat)) (x_Peer : Int) (x_For : Bs (32 : Nat)) (x_Text : List UInt8) (p : Option Go.Vc.Loc) (h : Heap) (R : Value → Heap → Prop) : Prop :=
 Vc.Bind
 (newTV h (TV.agg [TV.int IntKind.i64 x_Slot, TV.bytes (32 : Nat) x_Root, TV.int IntKind.i64 x_Peer, TV.bytes (32 : Nat) x_For, TV.str x_Text]) (105 : Nat))
 fun (h_1 : Array Obj) ↦
 ∃ (n : Int),
 at1 h_1 (Array.size h) (0 : Nat) (Value.int IntKind.i64 n) ∧
 Nn p fun (l : Go.Vc.Loc) ↦ ∃ (n_1 : Int), at1 h_1 l.b l.o (Value.int IntKind.i64 n_1) ∧ R (TV.val (TV.bool (decide (n < n_1)))) h_1

theorem early_Early_Ripe_1_calls (x_Slot : Int) (x_Root : Bs (32 : Nat)) (x_Peer : Int) (x_For : Bs (32 : Nat)) (x_Text : List UInt8) (p : Option Go.Vc.Loc) (h : Heap) (R : Value → Heap → Prop) (H : early_Early_Ripe_1_vc x_Slot x_Root x_Peer x_For x_Text p h R) : CallsH Try.prog 59 (TVs.vals [TV.agg [TV.int IntKind.i64 x_Slot, TV.bytes (32 : Nat) x_Root, TV.int IntKind.i64 x_Peer, TV.bytes (32 : Nat) x_For, TV.str x_Text], TV.ptr p]) h R :=
 vcFn_sound (C := ctx) ctx_ok (fn := Try.f59) Try.func59 ((by kernel_rfl : early_Early_Ripe_1_vc x_Slot x_Root x_Peer x_For x_Text p h R = vcFn ctx Try.f59 [TV.agg [TV.int IntKind.i64 x_Slot, TV.bytes (32 : Nat) x_Root, TV.int IntKind.i64 x_Peer, TV.bytes (32 : Nat) x_For, TV.str x_Text], TV.ptr p] h R) ▸ H)


def orphans_Orphans_Of_vc (o : Option Go.Vc.Loc) (parent : Bs (32 : Nat)) (h : Heap) (R : Value → Heap → Prop) : Prop :=
 Vc.Bind (newTV h (TV.bytes (32 : Nat) parent) (50 : Nat)) fun (h_1 : Array Obj) ↦
 If (Option.isNone o) (R (TV.val (TV.slice Sl.nil)) h_1)
 (Nn o fun (l : Go.Vc.Loc) ↦
 ∃ (p : Option Go.Vc.Loc),
 at1 h_1 l.b l.o (Value.pointer (Option.map Loc.addr p)) ∧
 CallsH Try.prog (60 : Nat) (TVs.vals [TV.ptr p, TV.fn (Fn.func (99 : Nat)) [] [TV.ptr (some (Loc.mk (Array.size h) (0 : Nat)))]]) h_1
 fun (v : Value) (h : Array Obj) ↦
 ∃ (s : Sl),
 v = TV.val (TV.slice s) ∧
 CallsH Try.prog (98 : Nat) (TVs.vals [TV.slice s]) h fun (v : Value) (h : Array Obj) ↦
 ∃ (s : Sl), v = TV.val (TV.slice s) ∧ R (TV.val (TV.slice s)) h)

theorem orphans_Orphans_Of_calls (o : Option Go.Vc.Loc) (parent : Bs (32 : Nat)) (h : Heap) (R : Value → Heap → Prop) (H : orphans_Orphans_Of_vc o parent h R) : CallsH Try.prog 67 (TVs.vals [TV.ptr o, TV.bytes (32 : Nat) parent]) h R :=
 vcFn_sound (C := ctx) ctx_ok (fn := Try.f67) Try.func67 ((by kernel_rfl : orphans_Orphans_Of_vc o parent h R = vcFn ctx Try.f67 [TV.ptr o, TV.bytes (32 : Nat) parent] h R) ▸ H)


def orphans_Orphans_Roots_vc (o : Option Go.Vc.Loc) (h : Heap) (R : Value → Heap → Prop) : Prop :=
 If (!Option.isNone o)
 (Nn o fun (l : Go.Vc.Loc) ↦
 ∃ (p : Option Go.Vc.Loc),
 at1 h l.b l.o (Value.pointer (Option.map Loc.addr p)) ∧
 CallsH Try.prog (68 : Nat) (TVs.vals [TV.ptr p]) h fun (v : Value) (h : Heap) ↦
 ∃ (s : Sl),
 v = TV.val (TV.slice s) ∧
 Go.Vc.Loop (Sl.mk none (0 : Nat) (0 : Nat), (0 : Int)) h fun (s_1 : Sl × Int) (h : Array Obj) (K : Sl × Int → Array Obj → Prop) ↦
 If (decide (s_1.snd < (↑s.len : Int)))
 ((0 : Int) ≤ s_1.snd ∧
 s_1.snd < (↑s.len : Int) ∧
 Nn s.a fun (l : Go.Vc.Loc) ↦
 ∃ (n : Int),
 ∃ (b : Bs (32 : Nat)),
 ∃ (n_1 : Int),
 ∃ (b_1 : Bs (32 : Nat)),
 ∃ (s : List UInt8),
 (at1 h l.b (l.o + Int.toNat s_1.snd * (67 : Nat)) (Value.int IntKind.i64 n) ∧
 atBytes h l.b (l.o + Int.toNat s_1.snd * (67 : Nat) + (1 : Nat)) (32 : Nat) b ∧
 at1 h l.b (l.o + Int.toNat s_1.snd * (67 : Nat) + (1 : Nat) + (32 : Nat)) (Value.int IntKind.i64 n_1) ∧
 atBytes h l.b (l.o + Int.toNat s_1.snd * (67 : Nat) + (1 : Nat) + (32 : Nat) + (1 : Nat)) (32 : Nat) b_1 ∧
 at1 h l.b (l.o + Int.toNat s_1.snd * (67 : Nat) + (1 : Nat) + (32 : Nat) + (1 : Nat) + (32 : Nat))
 (Value.string (ByteArray.mk (List.toArray s)))) ∧
 Vc.Bind
 (newTV h
 (TV.agg
 [TV.int IntKind.i64 (0 : Int), TV.bytes (32 : Nat) (Bs.zero (32 : Nat)), TV.int IntKind.i64 (0 : Int),
 TV.bytes (32 : Nat) (Bs.zero (32 : Nat)), TV.str []])
 (105 : Nat))
 fun (h_1 : Array Obj) ↦
 wok h_1 (Array.size h) (0 : Nat) (67 : Nat) ∧
 Vc.Bind
 (TV.put h_1 (Array.size h) (0 : Nat)
 (TV.agg [TV.int IntKind.i64 n, TV.bytes (32 : Nat) b, TV.int IntKind.i64 n_1, TV.bytes (32 : Nat) b_1, TV.str s]))
 fun (h_2 : Array Obj) ↦
 ∃ (b : Bs (32 : Nat)),
 atBytes h_2 (Array.size h) (1 : Nat) (32 : Nat) b ∧
 ∃ (new : List Value),
 slAt (Array.push h_2 (row (TVs.cells [TV.bytes (32 : Nat) b]) (50 : Nat)))
 (Sl.mk (some (Loc.mk (Array.size h_2) (0 : Nat))) (1 : Nat) (1 : Nat)) (32 : Nat) new ∧
 (∀ (v : Value), v ∈ new → isOne v = true) ∧
 vcAppend Ytldocdpdjdekiaa.ctx (50 : Nat) s_1.fst (1 : Nat) new
 (Array.push h_2 (row (TVs.cells [TV.bytes (32 : Nat) b]) (50 : Nat))) fun (s : Sl) (h : Array Obj) ↦
 K (s, IntKind.wrap IntKind.i64 (s_1.snd + (1 : Int))) h)
 (R (TV.val (TV.slice s_1.fst)) h))
 (R (TV.val (TV.slice Sl.nil)) h)

theorem orphans_Orphans_Roots_calls (o : Option Go.Vc.Loc) (h : Heap) (R : Value → Heap → Prop) (H : orphans_Orphans_Roots_vc o h R) : CallsH Try.prog 34 (TVs.vals [TV.ptr o]) h R :=
 vcFn_sound (C := ctx) ctx_ok (fn := Try.f34) Try.func34 ((by kernel_rfl : orphans_Orphans_Roots_vc o h R = vcFn ctx Try.f34 [TV.ptr o] h R) ▸ H)


def early_Early_Ripe_vc (e : Option Go.Vc.Loc) (now : Int) (h : Heap) (R : Value → Heap → Prop) : Prop :=
 Vc.Bind (newTV h (TV.int IntKind.i64 now) (3 : Nat)) fun (h_1 : Array Obj) ↦
 If (Option.isNone e) (R (TV.val (TV.slice Sl.nil)) h_1)
 (Nn e fun (l : Go.Vc.Loc) ↦
 ∃ (p : Option Go.Vc.Loc),
 at1 h_1 l.b l.o (Value.pointer (Option.map Loc.addr p)) ∧
 CallsH Try.prog (60 : Nat) (TVs.vals [TV.ptr p, TV.fn (Fn.func (59 : Nat)) [] [TV.ptr (some (Loc.mk (Array.size h) (0 : Nat)))]]) h_1
 fun (v : Value) (h : Array Obj) ↦
 ∃ (s : Sl),
 v = TV.val (TV.slice s) ∧
 Go.Vc.Loop (Sl.mk none (0 : Nat) (0 : Nat), (0 : Int)) h fun (s_1 : Sl × Int) (h : Array Obj) (K : Sl × Int → Array Obj → Prop) ↦
 If (decide (s_1.snd < (↑s.len : Int)))
 ((0 : Int) ≤ s_1.snd ∧
 s_1.snd < (↑s.len : Int) ∧
 Nn s.a fun (l : Go.Vc.Loc) ↦
 ∃ (n : Int),
 ∃ (b : Bs (32 : Nat)),
 ∃ (n_1 : Int),
 ∃ (b_1 : Bs (32 : Nat)),
 ∃ (s : List UInt8),
 (at1 h l.b (l.o + Int.toNat s_1.snd * (67 : Nat)) (Value.int IntKind.i64 n) ∧
 atBytes h l.b (l.o + Int.toNat s_1.snd * (67 : Nat) + (1 : Nat)) (32 : Nat) b ∧
 at1 h l.b (l.o + Int.toNat s_1.snd * (67 : Nat) + (1 : Nat) + (32 : Nat)) (Value.int IntKind.i64 n_1) ∧
 atBytes h l.b (l.o + Int.toNat s_1.snd * (67 : Nat) + (1 : Nat) + (32 : Nat) + (1 : Nat)) (32 : Nat) b_1 ∧
 at1 h l.b (l.o + Int.toNat s_1.snd * (67 : Nat) + (1 : Nat) + (32 : Nat) + (1 : Nat) + (32 : Nat))
 (Value.string (ByteArray.mk (List.toArray s)))) ∧
 Vc.Bind
 (newTV h
 (TV.agg
 [TV.int IntKind.i64 (0 : Int), TV.bytes (32 : Nat) (Bs.zero (32 : Nat)), TV.int IntKind.i64 (0 : Int),
 TV.bytes (32 : Nat) (Bs.zero (32 : Nat)), TV.str []])
 (105 : Nat))
 fun (h_2 : Array Obj) ↦
 wok h_2 (Array.size h) (0 : Nat) (67 : Nat) ∧
 Vc.Bind
 (TV.put h_2 (Array.size h) (0 : Nat)
 (TV.agg [TV.int IntKind.i64 n, TV.bytes (32 : Nat) b, TV.int IntKind.i64 n_1, TV.bytes (32 : Nat) b_1, TV.str s]))
 fun (h_3 : Array Obj) ↦
 ∃ (s : List UInt8),
 at1 h_3 (Array.size h) (66 : Nat) (Value.string (ByteArray.mk (List.toArray s))) ∧
 CallsH Try.prog (53 : Nat) (TVs.vals [TV.str s]) h_3 fun (v : Value) (h : Array Obj) ↦
 ∃ (n : Int),
 ∃ (n_2 : Int),
 ∃ (b : Bs (32 : Nat)),
 ∃ (n_3 : Int),
 ∃ (n_4 : Int),
 ∃ (s : Sl),
 ∃ (b_2 : Bs (16 : Nat)),
 ∃ (b_3 : Bool),
 v =
 TV.val
 (TV.tup
 [TV.agg
 [TV.int IntKind.i64 n, TV.int IntKind.i64 n_2, TV.bytes (32 : Nat) b,
 TV.int IntKind.i64 n_3, TV.int IntKind.u64 n_4, TV.slice s,
 TV.bytes (16 : Nat) b_2],
 TV.bool b_3]) ∧
 Vc.Bind
 (newTV h
 (TV.agg
 [TV.int IntKind.i64 (0 : Int), TV.int IntKind.i64 (0 : Int),
 TV.bytes (32 : Nat) (Bs.zero (32 : Nat)), TV.int IntKind.i64 (0 : Int),
 TV.int IntKind.u64 (0 : Int), TV.slice Sl.nil,
 TV.bytes (16 : Nat) (Bs.zero (16 : Nat))])
 (63 : Nat))
 fun (h_4 : Array Obj) ↦
 wok h_4 (Array.size h) (0 : Nat) (53 : Nat) ∧
 Vc.Bind
 (TV.put h_4 (Array.size h) (0 : Nat)
 (TV.agg
 [TV.int IntKind.i64 n, TV.int IntKind.i64 n_2, TV.bytes (32 : Nat) b,
 TV.int IntKind.i64 n_3, TV.int IntKind.u64 n_4, TV.slice s,
 TV.bytes (16 : Nat) b_2]))
 fun (h_5 : Array Obj) ↦
 ∃ (n : Int),
 ∃ (n_5 : Int),
 ∃ (b : Bs (32 : Nat)),
 ∃ (n_6 : Int),
 ∃ (n_7 : Int),
 ∃ (s : Sl),
 ∃ (b_4 : Bs (16 : Nat)),
 (at1 h_5 (Array.size h) (0 : Nat) (Value.int IntKind.i64 n) ∧
 at1 h_5 (Array.size h) (1 : Nat) (Value.int IntKind.i64 n_5) ∧
 atBytes h_5 (Array.size h) (2 : Nat) (32 : Nat) b ∧
 at1 h_5 (Array.size h) (34 : Nat) (Value.int IntKind.i64 n_6) ∧
 at1 h_5 (Array.size h) (35 : Nat)
 (Value.int IntKind.u64 n_7) ∧
 at1 h_5 (Array.size h) (36 : Nat) (slVal s) ∧
 atBytes h_5 (Array.size h) (37 : Nat) (16 : Nat) b_4) ∧
 ∃ (new : List Value),
 slAt
 (Array.push h_5
 (row
 (TVs.cells
 [TV.agg
 [TV.int IntKind.i64 n, TV.int IntKind.i64 n_5,
 TV.bytes (32 : Nat) b, TV.int IntKind.i64 n_6,
 TV.int IntKind.u64 n_7, TV.slice s,
 TV.bytes (16 : Nat) b_4]])
 (63 : Nat)))
 (Sl.mk (some (Loc.mk (Array.size h_5) (0 : Nat))) (1 : Nat)
 (1 : Nat))
 (53 : Nat) new ∧
 (∀ (v : Value), v ∈ new → isOne v = true) ∧
 vcAppend Ytldocdpdjdekiaa.ctx (63 : Nat) s_1.fst (1 : Nat) new
 (Array.push h_5
 (row
 (TVs.cells
 [TV.agg
 [TV.int IntKind.i64 n, TV.int IntKind.i64 n_5,
 TV.bytes (32 : Nat) b, TV.int IntKind.i64 n_6,
 TV.int IntKind.u64 n_7, TV.slice s,
 TV.bytes (16 : Nat) b_4]])
 (63 : Nat)))
 fun (s : Sl) (h : Array Obj) ↦
 K (s, IntKind.wrap IntKind.i64 (s_1.snd + (1 : Int))) h)
 (R (TV.val (TV.slice s_1.fst)) h))

theorem early_Early_Ripe_calls (e : Option Go.Vc.Loc) (now : Int) (h : Heap) (R : Value → Heap → Prop) (H : early_Early_Ripe_vc e now h R) : CallsH Try.prog 25 (TVs.vals [TV.ptr e, TV.int IntKind.i64 now]) h R :=
 vcFn_sound (C := ctx) ctx_ok (fn := Try.f25) Try.func25 ((by kernel_rfl : early_Early_Ripe_vc e now h R = vcFn ctx Try.f25 [TV.ptr e, TV.int IntKind.i64 now] h R) ▸ H)


end Go.Proofs.Ytldocdpdjdekiaa
end

section
/- Blocks and votes that wait, in the program: what comes out. -/
namespace Go.Proofs.Ytldocdpdjdekiaa.Pool
open Go Go.Vc
open Board (Dm Ms decF nameF zeroM ms_at put_n mssz mssz1 decode_spec bsz bools take_snoc)

def dmOf (text : List UInt8) : Dm := (decF text).getD Dm.zero

theorem dmOf_some {text : List UInt8} {d : Dm} (h : decF text = some d) : dmOf text = d := by unfold dmOf; rw [h]; rfl
theorem dmOf_none {text : List UInt8} (h : decF text = none) : dmOf text = Dm.zero := by unfold dmOf; rw [h]; rfl

theorem decode2_spec {R : Value → Heap → Prop} {h : Heap} {s : List UInt8} (hs : s.length < 100000) (hr : ∀ h' b ok, Elems 1 h' b (bools (dmOf s).row) → Ext h h' → (∀ l, b.a = some l → h.size ≤ l.b ∧ l.b < h'.size) → R (TV.tup [((dmOf s).ms b).tv, .bool ok]).val h') :
    CallsH Try.prog 53 (TVs.vals [.str s]) h R := by
  refine decode_spec hs (fun hn h' x => ?_) fun d h' b hd e x loc => ?_
  · have := hr h' Sl.nil false
    rw [dmOf_none hn] at this
    exact this (Elems.nil_ 1 h') x fun l hl => by cases hl
  · have := hr h' b true
    rw [dmOf_some hd] at this
    exact this e x loc

/-- A message in memory, with a name. -/
structure Bk where
  r : Bs 32
  d : Dm
  b : Sl
def Bk.ms (k : Bk) : Ms := k.d.ms k.b
def Bk.tvM (k : Bk) : TV := k.ms.tv
def Bk.tvB (k : Bk) : TV := .agg [.bytes 32 k.r, k.ms.tv]
def Bk.of (k : Bk) : Bs 32 × Dm := (k.r, k.d)

theorem Bk.sizeM (k : Bk) : k.tvM.size = 53 := mssz1.symm
theorem ms_plain (m : Ms) : m.tv.plain = true := by simp only [Ms.tv, TV.plain, TVs.plain, Bool.and_self]
theorem Bk.plainM (k : Bk) : k.tvM.plain = true := ms_plain _
theorem Bk.sizeB (k : Bk) : k.tvB.size = 85 := by
  have := k.sizeM
  unfold Bk.tvM at this
  simp only [Bk.tvB, TV.size, TVs.size, this]
theorem Bk.plainB (k : Bk) : k.tvB.plain = true := by
  have := ms_plain k.ms
  simp only [Bk.tvB, TV.plain, TVs.plain, this, Bool.and_self]

/-- The bits of messages stand apart from a row. -/
def Kept (n : Nat) (hh : Heap) (t : Sl) (bs : List Bk) : Prop := ∀ k ∈ bs, Elems 1 hh k.b (bools k.d.row) ∧ ∀ l, k.b.a = some l → n ≤ l.b ∧ l.b < hh.size ∧ ¬ In t l.b

theorem Kept.nil (n : Nat) (hh : Heap) (t : Sl) : Kept n hh t [] := fun k hk => by cases hk

theorem Kept.ext {n : Nat} {hh h' : Heap} {t : Sl} {bs : List Bk} (K : Kept n hh t bs) (x : Ext hh h') : Kept n h' t bs := fun k hk =>
  ⟨(K k hk).1.ext x, fun l hl => ⟨((K k hk).2 l hl).1, by have := ((K k hk).2 l hl).2.1; have := x.size; omega, ((K k hk).2 l hl).2.2⟩⟩

theorem Kept.step {n T sz : Nat} {hh h5 h9 : Heap} {t t' : Sl} {ts : List TV} {bs : List Bk} {k : Bk} (K : Kept n hh t bs) (o : Own T sz hh t ts) (x : Ext hh h5) (hn : n ≤ hh.size) (e : Elems 1 h5 k.b (bools k.d.row))
    (loc : ∀ l, k.b.a = some l → hh.size ≤ l.b ∧ l.b < h5.size) (f : Only (In t) h5 h9) (b9 : ∀ l, t'.a = some l → (∃ l', t.a = some l' ∧ l'.b = l.b) ∨ h5.size ≤ l.b) : Kept n h9 t' (bs ++ [k]) := by
  have hin : ∀ i, In t i → i < hh.size := fun i ⟨l, hl, hi⟩ => by have := o.lt l hl; omega
  have hin' : ∀ i, In t' i → In t i ∨ h5.size ≤ i := fun i ⟨l, hl, hi⟩ => by
    rcases b9 l hl with ⟨l', h1, h2⟩ | h1
    · exact .inl ⟨l', h1, by omega⟩
    · exact .inr (by omega)
  have hz := x.size
  have hf := f.size
  intro m hm
  rcases List.mem_append.1 hm with h1 | h1
  · obtain ⟨g1, g2⟩ := K m h1
    refine ⟨(g1.ext x).only f fun l hl => (g2 l hl).2.2, fun l hl => ⟨(g2 l hl).1, by have := (g2 l hl).2.1; omega, fun hx => ?_⟩⟩
    rcases hin' _ hx with h3 | h3
    · exact (g2 l hl).2.2 h3
    · have := (g2 l hl).2.1; omega
  · rw [List.mem_singleton.1 h1]
    refine ⟨e.only f fun l hl hx => by have := hin _ hx; have := loc l hl; omega, fun l hl => ⟨by have := loc l hl; omega, by have := loc l hl; omega, fun hx => ?_⟩⟩
    rcases hin' _ hx with h3 | h3
    · have := hin _ h3; have := loc l hl; omega
    · have := loc l hl; omega

section
variable {R : Value → Heap → Prop} {h : Heap} {o b : Nat} {A : Sl} {S L : List It} {most quota : Int} {T : TypeId}

theorem bytes74 : (ctx.ti 126).bytes = 136 := by kernel_rfl
theorem size74 : (ctx.ti 126).size = 85 := by kernel_rfl
theorem zsize74 : (ctx.ti 126).z.size = 85 := by kernel_rfl
theorem bytes58 : (ctx.ti 63).bytes = 104 := by kernel_rfl
theorem size58 : (ctx.ti 63).size = 53 := by kernel_rfl
theorem zsize58 : (ctx.ti 63).z.size = 53 := by kernel_rfl
theorem bytes24 : (ctx.ti 50).bytes = 32 := by kernel_rfl
theorem size24 : (ctx.ti 50).size = 32 := by kernel_rfl
theorem zsize24 : (ctx.ti 50).z.size = 32 := by kernel_rfl
theorem b32 {x : Bs 32} : (TV.bytes 32 x).size = 32 := by simp only [TV.size]
theorem p32 {x : Bs 32} : (TV.bytes 32 x).plain = true := by simp only [TV.plain]

theorem blocks_spec {s : Sl} (e : Elems 67 h s (its L)) (hl : L.length < 1000) (ht : ∀ x ∈ L, x.text.length < 1000)
    (hr : ∀ h' t (bs : List Bk), bs.map Bk.of = L.map (fun x => (x.root, dmOf x.text)) → Own 126 85 h' t (bs.map Bk.tvB) → Kept h.size h' t bs → Ext h h' → Fresh h t → R (TV.slice t).val h') : CallsH Try.prog 98 (TVs.vals [.slice s]) h R := by
  apply orphans_blocks_calls
  unfold orphans_blocks_vc
  have el := e.len
  rw [List.length_map] at el
  refine ⟨fun σ hh => 0 ≤ σ.2 ∧ σ.2 ≤ L.length ∧ Ext h hh ∧ Fresh h σ.1 ∧ ∃ bs : List Bk, bs.map Bk.of = (L.take σ.2.toNat).map (fun x => (x.root, dmOf x.text)) ∧ Own 126 85 hh σ.1 (bs.map Bk.tvB) ∧ Kept h.size hh σ.1 bs, fun σ _ => ((L.length : Int) - σ.2).toNat,
    ⟨Int.le_refl 0, by first | omega | (dsimp only; omega), Ext.refl _, (fun l hl => by cases hl), [], rfl, Own.nil _ _ _, Kept.nil _ _ _⟩, ?_⟩
  rintro ⟨t, i⟩ h2 ⟨i0, i1, x2, fr2, bs, hbs, o2, K2⟩
  dsimp only at i0 i1 x2 fr2 hbs o2 K2 ⊢
  have z2 := x2.size
  refine If.dec.2 ⟨fun hi => ?_, fun hi => ?_⟩
  · refine its_at (e.ext x2) i0 (by omega) fun l x _ hx => ?_
    refine newTV_in fun h3 v3 x3 s3 => put_in v3 (t := x.tv) rfl fun h4 v4 f4 s4 => ?_
    have x24 : Ext h2 h4 := Only.cut x3 f4 fun i hi => by omega
    have htx := ht x (List.mem_of_getElem? hx)
    have z24 := x24.size
    refine ⟨x.text, v_text v4, decode2_spec (by omega) fun h5 bb ok e5 x5 loc5 => ⟨_, _, _, _, _, _, _, _, rfl, ?_⟩⟩
    refine newTV_in fun h6 v6 x6 s6 => put_n (t0 := zeroM.tv) v6 (t := ((dmOf x.text).ms bb).tv) mssz1 mssz fun h7 v7 f7 s7 => ?_
    have x57 : Ext h5 h7 := Only.cut x6 f7 fun i hi => by omega
    have x27 := x24.trans (x5.trans x57)
    refine ⟨x.root, v_root (x := x) ((v4.ext x5).ext x57), ms_at v7 ?_⟩
    have tl := o2.len
    rw [List.length_map, ← List.length_map (f := Bk.of), hbs, List.length_map, List.length_take] at tl
    obtain ⟨k, hk⟩ : ∃ k, k = Bk.mk x.root (dmOf x.text) bb := ⟨_, rfl⟩
    have z5 := x5.size
    have z57 := x57.size
    refine append1 (C := ctx) (T := 126) (sz := 85) (x := k.tvB) size74 zsize74 (by rw [bytes74]; decide) (by rw [bytes74]; omega) (o2.ext x27) k.sizeB k.plainB (K := fun s_5 hh => _) ?_ |> fun H => by rw [hk] at H; exact H
    intro t8 h8 o8 f8 b8
    rw [wrap_i64 (n := i + 1) (by omega) (by omega)]
    have K8 := Kept.step (k := k) K2 o2 x27 z2 (by rw [hk]; exact e5.ext x57) (fun l hl => by rw [hk] at hl; have := loc5 l hl; omega) f8 b8
    have x8 : Ext h h8 := Only.cut (x2.trans x27) f8 fun j ⟨l, hl, hj⟩ => by have := fr2 l hl; omega
    have hi1 : (i + 1).toNat = i.toNat + 1 := by omega
    refine ⟨⟨by first | omega | (dsimp only; omega), by first | omega | (dsimp only; omega), x8, fun l hl => ?_, bs ++ [k], ?_, ?_, K8⟩, by first | omega | (dsimp only; omega)⟩
    · rcases b8 l hl with ⟨l', h1', h2'⟩ | h1'
      · have := fr2 l' h1'; omega
      · have := x27.size; omega
    · try dsimp only
      rw [hi1, take_snoc hx, List.map_append, List.map_append, hbs, hk]
      rfl
    · rw [List.map_append]
      exact o8
  · have hin : i.toNat = L.length := by omega
    rw [hin, List.take_length] at hbs
    exact hr h2 t bs hbs o2 K2 x2 fr2

/-! ### What is told of an item -/

theorem of1_spec {x : It} {c : Nat} {r : Bs 32} {T : TypeId} (v : Var T h c (.bytes 32 r)) (hr : ∀ h', Ext h h' → R (TV.bool (decide (x.fr = r))).val h') : CallsH Try.prog 99 (TVs.vals [x.tv, .ptr (some ⟨c, 0⟩)]) h R := by
  apply orphans_Orphans_Of_1_calls x.slot x.root x.peer x.fr x.text
  unfold orphans_Orphans_Of_1_vc
  refine newTV_in fun h1 v1 x1 s1 => ⟨x.fr, v_fr (x := x) v1, r, (v.ext x1).bytes, ?_⟩
  have : decide (x.fr.1 = r.1) = decide (x.fr = r) := decide_eq_decide.2 ⟨fun e => Bs.ext' e, fun e => by rw [e]⟩
  rw [this]
  exact hr h1 x1


theorem ripe1_spec {x : It} {c : Nat} {n : Int} {T : TypeId} (v : Var T h c (.int .i64 n)) (hr : ∀ h', Ext h h' → R (TV.bool (decide (x.slot < n))).val h') : CallsH Try.prog 59 (TVs.vals [x.tv, .ptr (some ⟨c, 0⟩)]) h R := by
  apply early_Early_Ripe_1_calls x.slot x.root x.peer x.fr x.text
  unfold early_Early_Ripe_1_vc
  exact newTV_in fun h1 v1 x1 s1 => ⟨x.slot, v_slot (x := x) v1, n, (v.ext x1).at1 rfl, hr h1 x1⟩

/-- What came out stands apart from what waits. -/
structure Out (h h' : Heap) (o b : Nat) (A' : Sl) (t : Sl) (bs : List Bk) : Prop where
  ex : ∃ n, h.size ≤ n ∧ (∀ i, Mine b A' i → i < n) ∧ (∀ l, t.a = some l → n ≤ l.b) ∧ Kept n h' t bs

theorem oof_spec (w : WL 128 h o b A S most quota) (ht : ∀ x ∈ S, x.text.length < 1000) {r : Bs 32}
    (hr : ∀ h' A' t (bs : List Bk), WL 128 h' o b A' (S.filter fun x => !decide (x.fr = r)) most quota → Grown b A h A' h' → bs.map Bk.of = (S.filter fun x => decide (x.fr = r)).map (fun x => (x.root, dmOf x.text)) → Own 126 85 h' t (bs.map Bk.tvB) → Out h h' o b A' t bs → R (TV.slice t).val h') :
    CallsH Try.prog 67 (TVs.vals [.ptr (some ⟨o, 0⟩), .bytes 32 r]) h R := by
  apply orphans_Orphans_Of_calls
  unfold orphans_Orphans_Of_vc
  have few := w.pl.few
  refine newTV_in fun h1 v1 x1 s1 => If.no ⟨_, (w.var.ext x1).at1 rfl, ?_⟩
  refine take_spec (f := ⟨(TV.fn (.func 99) [] [.ptr (some ⟨h.size, 0⟩)]).val, rfl⟩) (pred := fun x => decide (x.fr = r)) (w.pl.ext x1) ⟨99, #[], #[(TV.ptr (some ⟨h.size, 0⟩)).val], rfl, ctx_ok.entP (by kernel_rfl), fun h' x R' x' hr' => of1_spec (x := x) (v1.ext x') hr'⟩ fun h2 A' out p2 o2 g2 fr2 ap2 => ⟨_, rfl, ?_⟩
  have hlen : (S.filter fun x => decide (x.fr = r)).length ≤ S.length := List.length_filter_le ..
  refine blocks_spec o2.elems (by omega) (fun x hx => ht x ((List.mem_filter.1 hx).1)) fun h3 t bs hbs o3 K3 x3 fr3 => ⟨_, rfl, ?_⟩
  have g3 : Grown b A h A' h3 := (Grown.of_ext x1).trans (g2.trans (.of_ext x3))
  have := g2.only.size
  have := x1.size
  exact hr h3 A' t bs (w.grown (p2.ext x3) g3) g3 hbs o3 ⟨h2.size, by omega, fun i hi => p2.lt hi, fr3, K3⟩

theorem oof_nil {r : Bs 32} (hr : ∀ h', Ext h h' → R (TV.slice Sl.nil).val h') : CallsH Try.prog 67 (TVs.vals [.ptr none, .bytes 32 r]) h R := by
  apply orphans_Orphans_Of_calls
  unfold orphans_Orphans_Of_vc
  exact newTV_in fun h1 v1 x1 s1 => If.yes (hr h1 x1)



abbrev rts (L : List (Bs 32)) : List TV := L.map (TV.bytes 32)

theorem oroots_spec (w : WL 128 h o b A S most quota) (hr : ∀ h' t, Own 50 32 h' t (rts (S.map It.root)) → Ext h h' → Fresh h t → R (TV.slice t).val h') : CallsH Try.prog 34 (TVs.vals [.ptr (some ⟨o, 0⟩)]) h R := by
  apply orphans_Orphans_Roots_calls
  unfold orphans_Orphans_Roots_vc
  have few := w.pl.few
  refine If.yes ⟨_, w.var.at1 rfl, all_spec w.pl fun h1 s1 o1 x1 fr1 => ⟨_, rfl, ?_⟩⟩
  have el := o1.len
  rw [List.length_map] at el
  refine ⟨fun σ hh => 0 ≤ σ.2 ∧ σ.2 ≤ S.length ∧ Ext h1 hh ∧ (∀ l, σ.1.a = some l → h1.size ≤ l.b) ∧ Own 50 32 hh σ.1 (rts ((S.take σ.2.toNat).map It.root)), fun σ _ => ((S.length : Int) - σ.2).toNat,
    ⟨Int.le_refl 0, by first | omega | (dsimp only; omega), Ext.refl _, (fun l hl => by cases hl), Own.nil _ _ _⟩, ?_⟩
  rintro ⟨t, i⟩ h2 ⟨i0, i1, x2, fr2, o2⟩
  dsimp only at i0 i1 x2 fr2 o2 ⊢
  refine If.dec.2 ⟨fun hi => ?_, fun hi => ?_⟩
  · refine its_at (o1.elems.ext x2) i0 (by omega) fun l x _ hx => ?_
    refine newTV_in fun h3 v3 x3 s3 => put_in v3 (t := x.tv) rfl fun h4 v4 f4 s4 => ?_
    have x24 : Ext h2 h4 := Only.cut x3 f4 fun i hi => by omega
    refine ⟨x.root, v_root v4, ?_⟩
    have tl := o2.len
    rw [List.length_map, List.length_map, List.length_take] at tl
    refine append1 (C := ctx) (T := 50) (sz := 32) (x := .bytes 32 x.root) size24 zsize24 (by rw [bytes24]; decide) (by rw [bytes24]; omega) (o2.ext x24) b32 p32 fun t8 h8 o8 f8 b8 => ?_
    rw [wrap_i64 (n := i + 1) (by omega) (by omega)]
    have x8 : Ext h1 h8 := Only.cut (x2.trans x24) f8 fun j ⟨l, hl, hj⟩ => by have := fr2 l hl; omega
    have z2 := x2.size
    have z24 := x24.size
    refine ⟨⟨by first | omega | (dsimp only; omega), by first | omega | (dsimp only; omega), x8, fun l hl => ?_, ?_⟩, by first | omega | (dsimp only; omega)⟩
    · rcases b8 l hl with ⟨l', h1', h2'⟩ | h1'
      · have := fr2 l' h1'; omega
      · omega
    · try dsimp only
      rw [show (i + 1).toNat = i.toNat + 1 by omega, take_snoc hx, List.map_append]
      simpa [rts] using o8
  · have hin : i.toNat = S.length := by omega
    rw [hin, List.take_length] at o2
    exact hr h2 t o2 (x1.trans x2) fun l hl => Nat.le_trans x1.size (fr2 l hl)

theorem oroots_nil (hr : R (TV.slice Sl.nil).val h) : CallsH Try.prog 34 (TVs.vals [.ptr none]) h R := by
  apply orphans_Orphans_Roots_calls
  exact If.no hr

theorem eripe_spec (w : WL 103 h o b A S most quota) (ht : ∀ x ∈ S, x.text.length < 1000) {n : Int}
    (hr : ∀ h' A' t (bs : List Bk), WL 103 h' o b A' (S.filter fun x => !decide (x.slot < n)) most quota → Grown b A h A' h' → bs.map Bk.of = (S.filter fun x => decide (x.slot < n)).map (fun x => (x.root, dmOf x.text)) → Own 63 53 h' t (bs.map Bk.tvM) → Out h h' o b A' t bs → R (TV.slice t).val h') :
    CallsH Try.prog 25 (TVs.vals [.ptr (some ⟨o, 0⟩), .int .i64 n]) h R := by
  apply early_Early_Ripe_calls
  unfold early_Early_Ripe_vc
  have few := w.pl.few
  refine newTV_in fun h1 v1 x1 s1 => If.no ⟨_, (w.var.ext x1).at1 rfl, ?_⟩
  refine take_spec (f := ⟨(TV.fn (.func 59) [] [.ptr (some ⟨h.size, 0⟩)]).val, rfl⟩) (pred := fun x => decide (x.slot < n)) (w.pl.ext x1) ⟨59, #[], #[(TV.ptr (some ⟨h.size, 0⟩)).val], rfl, ctx_ok.entP (by kernel_rfl), fun h' x R' x' hr' => ripe1_spec (x := x) (v1.ext x') hr'⟩ fun h2 A' out p2 o2 g2 fr2 ap2 => ⟨_, rfl, ?_⟩
  have hlen : (S.filter fun x => decide (x.slot < n)).length ≤ S.length := List.length_filter_le ..
  have ht2 : ∀ x ∈ S.filter (fun x => decide (x.slot < n)), x.text.length < 1000 := fun x hx => ht x ((List.mem_filter.1 hx).1)
  have g02 : Grown b A h A' h2 := (Grown.of_ext x1).trans g2
  have z02 := g02.only.size
  generalize hL : S.filter (fun x => decide (x.slot < n)) = L at o2 hlen ht2 hr
  have e2 := o2.elems
  have el := e2.len
  rw [List.length_map] at el
  refine ⟨fun σ hh => 0 ≤ σ.2 ∧ σ.2 ≤ L.length ∧ Ext h2 hh ∧ Fresh h2 σ.1 ∧ ∃ bs : List Bk, bs.map Bk.of = (L.take σ.2.toNat).map (fun x => (x.root, dmOf x.text)) ∧ Own 63 53 hh σ.1 (bs.map Bk.tvM) ∧ Kept h2.size hh σ.1 bs, fun σ _ => ((L.length : Int) - σ.2).toNat,
    ⟨Int.le_refl 0, by first | omega | (dsimp only; omega), Ext.refl _, (fun l hl => by cases hl), [], rfl, Own.nil _ _ _, Kept.nil _ _ _⟩, ?_⟩
  rintro ⟨t, i⟩ h3 ⟨i0, i1, x3, fr3, bs, hbs, o3, K3⟩
  dsimp only at i0 i1 x3 fr3 hbs o3 K3 ⊢
  have z3 := x3.size
  refine If.dec.2 ⟨fun hi => ?_, fun hi => ?_⟩
  · refine its_at (e2.ext x3) i0 (by omega) fun l x _ hx => ?_
    refine newTV_in fun h4 v4 x4 s4 => put_in v4 (t := x.tv) rfl fun h5 v5 f5 s5 => ?_
    have x35 : Ext h3 h5 := Only.cut x4 f5 fun i hi => by omega
    have htx := ht2 x (List.mem_of_getElem? hx)
    have z35 := x35.size
    refine ⟨x.text, v_text v5, decode2_spec (by omega) fun h6 bb ok e6 x6 loc6 => ⟨_, _, _, _, _, _, _, _, rfl, ?_⟩⟩
    refine newTV_in fun h7 v7 x7 s7 => put_n (t0 := zeroM.tv) v7 (t := ((dmOf x.text).ms bb).tv) mssz1 mssz fun h8 v8 f8 s8 => ?_
    have x68 : Ext h6 h8 := Only.cut x7 f8 fun i hi => by omega
    have x38 := x35.trans (x6.trans x68)
    refine ms_at v8 ?_
    have tl := o3.len
    rw [List.length_map, ← List.length_map (f := Bk.of), hbs, List.length_map, List.length_take] at tl
    obtain ⟨k, hk⟩ : ∃ k, k = Bk.mk x.root (dmOf x.text) bb := ⟨_, rfl⟩
    have z6 := x6.size
    have z68 := x68.size
    refine append1 (C := ctx) (T := 63) (sz := 53) (x := k.tvM) size58 zsize58 (by rw [bytes58]; decide) (by rw [bytes58]; omega) (o3.ext x38) k.sizeM k.plainM (K := fun s_5 hh => _) ?_ |> fun H => by rw [hk] at H; exact H
    intro t9 h9 o9 f9 b9
    rw [wrap_i64 (n := i + 1) (by omega) (by omega)]
    have K9 := Kept.step (k := k) K3 o3 x38 z3 (by rw [hk]; exact e6.ext x68) (fun l hl => by rw [hk] at hl; have := loc6 l hl; omega) f9 b9
    have x9 : Ext h2 h9 := Only.cut (x3.trans x38) f9 fun j ⟨l, hl, hj⟩ => by have := fr3 l hl; omega
    have hi1 : (i + 1).toNat = i.toNat + 1 := by omega
    refine ⟨⟨by first | omega | (dsimp only; omega), by first | omega | (dsimp only; omega), x9, fun l hl => ?_, bs ++ [k], ?_, ?_, K9⟩, by first | omega | (dsimp only; omega)⟩
    · rcases b9 l hl with ⟨l', h1', h2'⟩ | h1'
      · have := fr3 l' h1'; omega
      · have := x38.size; omega
    · try dsimp only
      rw [hi1, take_snoc hx, List.map_append, List.map_append, hbs, hk]
      rfl
    · rw [List.map_append]
      exact o9
  · have hin : i.toNat = L.length := by omega
    rw [hin, List.take_length] at hbs
    have g3 : Grown b A h A' h3 := g02.trans (.of_ext x3)
    exact hr h3 A' t bs (w.grown (p2.ext x3) g3) g3 hbs o3 ⟨h2.size, z02, fun i hi => p2.lt hi, fr3, K3⟩

theorem eripe_nil {n : Int} (hr : ∀ h', Ext h h' → R (TV.slice Sl.nil).val h') : CallsH Try.prog 25 (TVs.vals [.ptr none, .int .i64 n]) h R := by
  apply early_Early_Ripe_calls
  unfold early_Early_Ripe_vc
  exact newTV_in fun h1 v1 x1 s1 => If.yes (hr h1 x1)

end
end Go.Proofs.Ytldocdpdjdekiaa.Pool
end

section
/- The conditions of functions, as the generator reckons them out, each with the proof that it is that. -/
namespace Go.Proofs.Ytldocdpdjdekiaa
open Go Go.Vc
set_option maxRecDepth 100000
set_option linter.unusedVariables false

def tollerref10_Same_vc (a : Sl) (b : Sl) (h : Heap) (R : Value → Heap → Prop) : Prop :=
 If (!decide ((↑a.len : Int) = (↑b.len : Int))) (R (TV.val (TV.bool false)) h)
 (Go.Vc.Loop (false, (0 : Int)) h fun (s : Bool × Int) (h : Array Obj) (K : Bool × Int → Array Obj → Prop) ↦
 If (decide (s.snd < (↑a.len : Int)))
 ((0 : Int) ≤ s.snd ∧
 s.snd < (↑a.len : Int) ∧
 Nn a.a fun (l : Go.Vc.Loc) ↦
 ∃ (b_1 : Bs (32 : Nat)),
 atBytes h l.b (l.o + Int.toNat s.snd * (32 : Nat)) (32 : Nat) b_1 ∧
 (0 : Int) ≤ s.snd ∧
 s.snd < (↑b.len : Int) ∧
 Nn b.a fun (l : Go.Vc.Loc) ↦
 ∃ (b : Bs (32 : Nat)),
 atBytes h l.b (l.o + Int.toNat s.snd * (32 : Nat)) (32 : Nat) b ∧
 If (!decide (b_1.l = b.l)) (R (TV.val (TV.bool false)) h) (K (s.fst, IntKind.wrap IntKind.i64 (s.snd + (1 : Int))) h))
 (R (TV.val (TV.bool true)) h))

theorem tollerref10_Same_calls (a : Sl) (b : Sl) (h : Heap) (R : Value → Heap → Prop) (H : tollerref10_Same_vc a b h R) : CallsH Try.prog 35 (TVs.vals [TV.slice a, TV.slice b]) h R :=
 vcFn_sound (C := ctx) ctx_ok (fn := Try.f35) Try.func35 ((by kernel_rfl : tollerref10_Same_vc a b h R = vcFn ctx Try.f35 [TV.slice a, TV.slice b] h R) ▸ H)


end Go.Proofs.Ytldocdpdjdekiaa
end

section
/- Blocks and votes that wait, in the document. -/
namespace Go.Proofs.Ytldocdpdjdekiaa.Pool
open Go Go.Vc
open Board (Dm Ms decF nameF zeroM ms_at put_n mssz mssz1 docdecode_spec BodyOk bsz bools take_snoc dec_good msame_spec)

/-- The number that a block has is one of 64 bits. -/
theorem chk_body {d e : Dm} (h : Board.chk d = some e) (hb : 0 ≤ d.body ∧ d.body < 18446744073709551616) : 0 ≤ e.body ∧ e.body < 18446744073709551616 := by
  obtain ⟨rfl, _⟩ := Board.chk_some h
  exact hb

theorem dec_body {s : List UInt8} {d : Dm} (h : decF s = some d) (b : Sl) : BodyOk (d.ms b) := by
  show 0 ≤ d.body ∧ d.body < _
  have hz : (0 : Int) ≤ 0 ∧ (0 : Int) < 18446744073709551616 := by decide
  unfold decF at h
  split at h
  · cases h
  split at h
  · split at h
    · have := Board.num_lt8 (s := (s.drop 39).take 8) (by rw [List.length_take]; omega)
      exact chk_body h ⟨by dsimp only; omega, by dsimp only; omega⟩
    · cases h
  split at h
  · split at h
    · exact chk_body h hz
    · cases h
  split at h
  · split at h
    · cases h
    · exact chk_body h hz
  · cases h

section
variable {R : Value → Heap → Prop} {h : Heap} {m : Nat} {A : Sl} {M L : List It} {most quota : Int}

theorem docdecode2_spec {s : List UInt8} (hs : s.length < 1000) (hr : ∀ h' b ok, Elems 1 h' b (bools (dmOf s).row) → Ext h h' → (∀ l, b.a = some l → h.size ≤ l.b ∧ l.b < h'.size) → R (TV.tup [((dmOf s).ms b).tv, .bool ok]).val h') :
    CallsH Try.prog 28 (TVs.vals [.str s]) h R := by
  refine docdecode_spec hs (fun hn h' x => ?_) fun d h' b hd e x loc => ?_
  · have := hr h' Sl.nil false
    rw [dmOf_none hn] at this
    exact this (Elems.nil_ 1 h') x fun l hl => by cases hl
  · have := hr h' b true
    rw [dmOf_some hd] at this
    exact this e x loc







/-! ### What comes out -/


theorem filter_snoc {i : Nat} {x : It} (pred : It → Bool) (hx : L[i]? = some x) : (L.take (i + 1)).filter pred = (L.take i).filter pred ++ if pred x = true then [x] else [] := by
  rw [take_snoc hx, List.filter_append]
  congr 1
  cases h : pred x <;> simp [List.filter, h]






theorem same10_spec {s t : Sl} {L K : List (Bs 32)} (e : Elems 32 h s (rts L)) (k : Elems 32 h t (rts K)) (hl : L.length < 100000) (hr : R (TV.bool (decide (L = K))).val h) : CallsH Try.prog 35 (TVs.vals [.slice s, .slice t]) h R := by
  apply tollerref10_Same_calls
  unfold tollerref10_Same_vc
  have es : L.length = s.len := by have := e.len; rwa [List.length_map] at this
  have et : K.length = t.len := by have := k.len; rwa [List.length_map] at this
  refine If.split (fun hb => ?_) fun hb => ?_
  · have hne : L ≠ K := fun he => by
      have : s.len = t.len := by rw [← es, ← et, he]
      rw [this] at hb
      simp at hb
    rw [decide_eq_false hne] at hr
    exact hr
  have hlen : L.length = K.length := by
    have : ((s.len : Nat) : Int) = ((t.len : Nat) : Int) := by simpa using hb
    omega
  refine ⟨fun σ hh => 0 ≤ σ.2 ∧ σ.2 ≤ s.len ∧ hh = h ∧ L.take σ.2.toNat = K.take σ.2.toNat, fun σ _ => ((s.len : Int) - σ.2).toNat, ⟨Int.le_refl 0, by first | omega | (dsimp only; omega), rfl, rfl⟩, ?_⟩
  rintro ⟨f, i⟩ hh ⟨i0, i1, rfl, hp⟩
  dsimp only at i0 i1 hp ⊢
  refine If.dec.2 ⟨fun hi => ?_, fun hi => ?_⟩
  · refine e.read i0 hi fun l1 t1 ha1 ht1 at1' => ?_
    rw [List.getElem?_map] at ht1
    obtain ⟨x, hx, rfl⟩ := Option.map_eq_some_iff.1 ht1
    refine ⟨x, at1', k.read i0 (by omega) fun l2 t2 ha2 ht2 at2' => ?_⟩
    rw [List.getElem?_map] at ht2
    obtain ⟨y, hy, rfl⟩ := Option.map_eq_some_iff.1 ht2
    refine ⟨y, at2', ?_⟩
    refine If.split (fun hb => ?_) fun hb => ?_
    · have hxy : x ≠ y := fun he => by rw [he] at hb; simp at hb
      have hne : L ≠ K := fun he => by rw [he, hy] at hx; exact hxy (Option.some.inj hx).symm
      rw [decide_eq_false hne] at hr
      exact hr
    · have hxy : x = y := Bs.ext' (by simpa using hb)
      rw [wrap_i64 (n := i + 1) (by omega) (by omega)]
      refine ⟨⟨by first | omega | (dsimp only; omega), by first | omega | (dsimp only; omega), rfl, ?_⟩, by first | omega | (dsimp only; omega)⟩
      try dsimp only
      rw [show (i + 1).toNat = i.toNat + 1 by omega, take_snoc hx, take_snoc hy, hp, hxy]
  · have h1 : i.toNat = L.length := by omega
    have h2 : i.toNat = K.length := by omega
    rw [h1, List.take_length, hlen, List.take_length] at hp
    rw [decide_eq_true hp] at hr
    exact hr

end
end Go.Proofs.Ytldocdpdjdekiaa.Pool
end

section
/- Both kinds of what waits, side by side. -/
namespace Go.Proofs.Ytldocdpdjdekiaa.Pool
open Go Go.Vc
open Board (Dm decF nameF)

theorem putS_mem {most quota : Int} {x : It} {S : List It} {y : It} (h : y ∈ (putS most quota x S).2.2) : y = x ∨ y ∈ S := by
  unfold putS at h
  split at h
  · exact .inr h
  split at h
  · exact .inr h
  split at h
  · exact List.mem_cons.1 ((insIt_perm x S).mem_iff.1 h)
  split at h
  · exact .inr h
  · split at h
    · rcases List.mem_cons.1 ((insIt_perm x _).mem_iff.1 h) with h1 | h1
      · exact .inl h1
      · exact .inr (List.dropLast_subset _ h1)
    · exact .inr h

theorem putS_len {most quota : Int} {x : It} {S : List It} (h : (S.length : Int) ≤ most) : ((putS most quota x S).2.2.length : Int) ≤ most := by
  unfold putS
  split
  · exact h
  split
  · exact h
  split
  · rename_i h3
    simp only [insIt_length]
    omega
  split
  · exact h
  · rename_i y hy
    split
    · simp only [insIt_length, List.length_dropLast]
      have : S ≠ [] := fun e => by rw [e] at hy; cases hy
      have := List.length_pos_iff.2 this
      omega
    · exact h

/-- An item is that of its own bytes. -/
def Fit (want : Int → Bool) (x : It) : Prop := x.text.length < 1000 ∧ ∃ d, decF x.text = some d ∧ want d.kind = true ∧ x = itemOf d x.peer x.text

theorem putW_mem {want : Int → Bool} {most quota peer : Int} {text : List UInt8} {S : List It} (ht : text.length < 1000) (hS : ∀ x ∈ S, Fit want x) : ∀ y ∈ (putW want most quota peer text S).2.2, Fit want y := by
  intro y hy
  unfold putW at hy
  split at hy
  · exact hS y hy
  · rename_i d hd
    split at hy
    · rename_i hw
      rcases putS_mem hy with rfl | h1
      · exact ⟨ht, d, hd, hw, rfl⟩
      · exact hS y h1
    · exact hS y hy

theorem putW_len {want : Int → Bool} {most quota peer : Int} {text : List UInt8} {S : List It} (h : (S.length : Int) ≤ most) : ((putW want most quota peer text S).2.2.length : Int) ≤ most := by
  unfold putW
  split
  · exact h
  · split
    · exact putS_len h
    · exact h

section
variable {h0 h h' : Heap} {o b m : Nat} {A B A' B' : Sl} {S M S' M' : List It} {most quota : Int} {T : TypeId} {want : Int → Bool}

/-- One of the program's. -/
structure One1 (T : TypeId) (want : Int → Bool) (h0 h : Heap) (o b : Nat) (A : Sl) (S : List It) (most quota : Int) : Prop where
  wl : WL T h o b A S most quota
  low : h0.size ≤ o ∧ ∀ i, Mine b A i → h0.size ≤ i
  old : Ext h0 h
  len : (S.length : Int) ≤ most
  fit : ∀ x ∈ S, Fit want x
  ok : Ok64 most quota

theorem One1.more (p : One1 T want h0 h o b A S most quota) (x : Ext h h') : One1 T want h0 h' o b A S most quota := ⟨p.wl.ext x, p.low, p.old.trans x, p.len, p.fit, p.ok⟩
theorem One1.step (p : One1 T want h0 h o b A S most quota) (w : WL T h' o b A' S' most quota) (g : Grown b A h A' h') (hl : (S'.length : Int) ≤ most) (hf : ∀ x ∈ S', Fit want x) : One1 T want h0 h' o b A' S' most quota :=
  ⟨w, ⟨p.low.1, fun i hi => by
    rcases g.new i hi with h1 | h1
    · exact p.low.2 i h1
    · have := p.old.size; omega⟩, Only.cut p.old g.only p.low.2, hl, hf, p.ok⟩
theorem One1.text (p : One1 T want h0 h o b A S most quota) : ∀ x ∈ S, x.text.length < 1000 := fun x hx => (p.fit x hx).1


end
end Go.Proofs.Ytldocdpdjdekiaa.Pool
end

section
/- The conditions of functions, as the generator reckons them out, each with the proof that it is that. -/
namespace Go.Proofs.Ytldocdpdjdekiaa
open Go Go.Vc
set_option maxRecDepth 100000
set_option linter.unusedVariables false

def tollerref17_Same_vc (a : Sl) (b : Sl) (h : Heap) (R : Value → Heap → Prop) : Prop :=
 If (!decide ((↑a.len : Int) = (↑b.len : Int))) (R (TV.val (TV.bool false)) h)
 (Go.Vc.Loop (false, (0 : Int)) h fun (s : Bool × Int) (h : Array Obj) (K : Bool × Int → Array Obj → Prop) ↦
 If (decide (s.snd < (↑a.len : Int)))
 ((0 : Int) ≤ s.snd ∧
 s.snd < (↑a.len : Int) ∧
 Nn a.a fun (l : Go.Vc.Loc) ↦
 ∃ (n : Int),
 ∃ (n_1 : Int),
 ∃ (b_1 : Bs (32 : Nat)),
 ∃ (n_2 : Int),
 ∃ (n_3 : Int),
 ∃ (s_1 : Sl),
 ∃ (b_2 : Bs (16 : Nat)),
 (at1 h l.b (l.o + Int.toNat s.snd * (53 : Nat)) (Value.int IntKind.i64 n) ∧
 at1 h l.b (l.o + Int.toNat s.snd * (53 : Nat) + (1 : Nat)) (Value.int IntKind.i64 n_1) ∧
 atBytes h l.b (l.o + Int.toNat s.snd * (53 : Nat) + (1 : Nat) + (1 : Nat)) (32 : Nat) b_1 ∧
 at1 h l.b (l.o + Int.toNat s.snd * (53 : Nat) + (1 : Nat) + (1 : Nat) + (32 : Nat)) (Value.int IntKind.i64 n_2) ∧
 at1 h l.b (l.o + Int.toNat s.snd * (53 : Nat) + (1 : Nat) + (1 : Nat) + (32 : Nat) + (1 : Nat))
 (Value.int IntKind.u64 n_3) ∧
 at1 h l.b (l.o + Int.toNat s.snd * (53 : Nat) + (1 : Nat) + (1 : Nat) + (32 : Nat) + (1 : Nat) + (1 : Nat)) (slVal s_1) ∧
 atBytes h l.b
 (l.o + Int.toNat s.snd * (53 : Nat) + (1 : Nat) + (1 : Nat) + (32 : Nat) + (1 : Nat) + (1 : Nat) + (1 : Nat))
 (16 : Nat) b_2) ∧
 (0 : Int) ≤ s.snd ∧
 s.snd < (↑b.len : Int) ∧
 Nn b.a fun (l : Go.Vc.Loc) ↦
 ∃ (n_4 : Int),
 ∃ (n_5 : Int),
 ∃ (b : Bs (32 : Nat)),
 ∃ (n_6 : Int),
 ∃ (n_7 : Int),
 ∃ (s_2 : Sl),
 ∃ (b_3 : Bs (16 : Nat)),
 (at1 h l.b (l.o + Int.toNat s.snd * (53 : Nat)) (Value.int IntKind.i64 n_4) ∧
 at1 h l.b (l.o + Int.toNat s.snd * (53 : Nat) + (1 : Nat)) (Value.int IntKind.i64 n_5) ∧
 atBytes h l.b (l.o + Int.toNat s.snd * (53 : Nat) + (1 : Nat) + (1 : Nat)) (32 : Nat) b ∧
 at1 h l.b (l.o + Int.toNat s.snd * (53 : Nat) + (1 : Nat) + (1 : Nat) + (32 : Nat))
 (Value.int IntKind.i64 n_6) ∧
 at1 h l.b (l.o + Int.toNat s.snd * (53 : Nat) + (1 : Nat) + (1 : Nat) + (32 : Nat) + (1 : Nat))
 (Value.int IntKind.u64 n_7) ∧
 at1 h l.b
 (l.o + Int.toNat s.snd * (53 : Nat) + (1 : Nat) + (1 : Nat) + (32 : Nat) + (1 : Nat) +
 (1 : Nat))
 (slVal s_2) ∧
 atBytes h l.b
 (l.o + Int.toNat s.snd * (53 : Nat) + (1 : Nat) + (1 : Nat) + (32 : Nat) + (1 : Nat) +
 (1 : Nat) +
 (1 : Nat))
 (16 : Nat) b_3) ∧
 CallsH Try.prog (61 : Nat)
 (TVs.vals
 [TV.agg
 [TV.int IntKind.i64 n, TV.int IntKind.i64 n_1, TV.bytes (32 : Nat) b_1, TV.int IntKind.i64 n_2,
 TV.int IntKind.u64 n_3, TV.slice s_1, TV.bytes (16 : Nat) b_2],
 TV.agg
 [TV.int IntKind.i64 n_4, TV.int IntKind.i64 n_5, TV.bytes (32 : Nat) b, TV.int IntKind.i64 n_6,
 TV.int IntKind.u64 n_7, TV.slice s_2, TV.bytes (16 : Nat) b_3]])
 h fun (v : Value) (h : Array Obj) ↦
 ∃ (b : Bool),
 v = TV.val (TV.bool b) ∧
 If (!b) (R (TV.val (TV.bool false)) h) (K (s.fst, IntKind.wrap IntKind.i64 (s.snd + (1 : Int))) h))
 (R (TV.val (TV.bool true)) h))

theorem tollerref17_Same_calls (a : Sl) (b : Sl) (h : Heap) (R : Value → Heap → Prop) (H : tollerref17_Same_vc a b h R) : CallsH Try.prog 26 (TVs.vals [TV.slice a, TV.slice b]) h R :=
 vcFn_sound (C := ctx) ctx_ok (fn := Try.f26) Try.func26 ((by kernel_rfl : tollerref17_Same_vc a b h R = vcFn ctx Try.f26 [TV.slice a, TV.slice b] h R) ▸ H)


end Go.Proofs.Ytldocdpdjdekiaa
end

section
/- Laws of marks that wait: the document's, a call as bytes, that something is done at all. -/
namespace Go.Proofs.Ytldocdpdjdekiaa.Pool
open Go Go.Vc
open Board (Dm Ms decF nameF zeroM ms_at put_n mssz mssz1 docgood_spec docbytes_spec BodyOk bsz bools take_snoc bytesF bytesF_len msame_spec goodF)

theorem Kept.only {n : Nat} {Q : Nat → Prop} {hh h' : Heap} {t : Sl} {bs : List Bk} (K : Kept n hh t bs) (f : Only Q hh h') (q : ∀ k ∈ bs, ∀ l, k.b.a = some l → ¬ Q l.b) : Kept n h' t bs := fun k hk =>
  ⟨(K k hk).1.only f (q k hk), fun l hl => ⟨((K k hk).2 l hl).1, by have := ((K k hk).2 l hl).2.1; have := f.size; omega, ((K k hk).2 l hl).2.2⟩⟩

section
variable {R : Value → Heap → Prop} {h : Heap} {m : Nat} {A : Sl} {M : List It} {most quota : Int}


set_option maxRecDepth 100000 in
/-- Messages that came out on both sides are the same. -/
theorem mcmp_spec {s t : Sl} {bs cs : List Bk} (e : Elems 53 h s (bs.map Bk.tvM)) (ek : ∀ k ∈ bs, Elems 1 h k.b (bools k.d.row)) (f : Elems 53 h t (cs.map Bk.tvM)) (fk : ∀ k ∈ cs, Elems 1 h k.b (bools k.d.row)) (hrow : ∀ k ∈ bs, k.d.row.length < 100000) (hw : bs.length < 100000)
    (hbs : bs.map Bk.d = cs.map Bk.d) (hr : ∀ h', Ext h h' → R (TV.bool true).val h') : CallsH Try.prog 26 (TVs.vals [.slice s, .slice t]) h R := by
  apply tollerref17_Same_calls
  unfold tollerref17_Same_vc
  have hl : bs.length = cs.length := by have := congrArg List.length hbs; simpa using this
  have es : bs.length = s.len := by have := e.len; rwa [List.length_map] at this
  have et : cs.length = t.len := by have := f.len; rwa [List.length_map] at this
  refine If.split (fun hb => ?_) fun _ => ?_
  · have : ((s.len : Nat) : Int) = ((t.len : Nat) : Int) := by omega
    simp [this] at hb
  refine ⟨fun σ hh => 0 ≤ σ.2 ∧ σ.2 ≤ s.len ∧ Ext h hh, fun σ _ => ((s.len : Int) - σ.2).toNat, ⟨Int.le_refl 0, by first | omega | (dsimp only; omega), Ext.refl _⟩, ?_⟩
  rintro ⟨f', i⟩ h1 ⟨i0, i1, x1⟩
  dsimp only at i0 i1 ⊢
  refine If.dec.2 ⟨fun hi => ?_, fun hi => hr h1 x1⟩
  refine (e.ext x1).read i0 hi fun l1 t1 ha1 ht1 at1' => ?_
  rw [List.getElem?_map] at ht1
  obtain ⟨y, hy, rfl⟩ := Option.map_eq_some_iff.1 ht1
  refine ⟨y.ms.kind, y.ms.slot, y.ms.target, y.ms.member, y.ms.body, y.ms.bits, y.ms.tag, at1', ?_⟩
  refine (f.ext x1).read i0 (by omega) fun l2 t2 ha2 ht2 at2' => ?_
  rw [List.getElem?_map] at ht2
  obtain ⟨z, hz, rfl⟩ := Option.map_eq_some_iff.1 ht2
  refine ⟨z.ms.kind, z.ms.slot, z.ms.target, z.ms.member, z.ms.body, z.ms.bits, z.ms.tag, at2', ?_⟩
  have hd : y.d = z.d := by
    have h1' : (bs.map Bk.d)[i.toNat]? = some y.d := by rw [List.getElem?_map, hy]; rfl
    rw [hbs, List.getElem?_map, hz] at h1'
    exact (Option.some.inj h1').symm
  have ey := (ek y (List.mem_of_getElem? hy)).ext x1
  have ez := (fk z (List.mem_of_getElem? hz)).ext x1
  rw [← hd] at ez
  refine msame_spec (a := y.ms) (b := z.ms) (row := y.d.row) ey ez (hrow y (List.mem_of_getElem? hy)) (by unfold Bk.ms; rw [hd]; rfl) (by unfold Bk.ms; rw [hd]; rfl) (by unfold Bk.ms; rw [hd]; rfl) (by unfold Bk.ms; rw [hd]; rfl) (by unfold Bk.ms; rw [hd]; rfl) (by unfold Bk.ms; rw [hd]; rfl) fun h7 x7 => ⟨_, rfl, If.no ?_⟩
  rw [wrap_i64 (n := i + 1) (by omega) (by omega)]
  exact ⟨⟨by first | omega | (dsimp only; omega), by first | omega | (dsimp only; omega), x1.trans x7⟩, by first | omega | (dsimp only; omega)⟩

end
end Go.Proofs.Ytldocdpdjdekiaa.Pool
end

section
/- Part of what stood: all but some blocks are holes. -/
namespace Go.Vc
open Go

open Classical in
/-- What stands in some blocks, and holes elsewhere. -/
noncomputable def keeps (S : Nat → Prop) (h : Heap) : Heap := h.mapIdx fun i o => if S i then o else hole

theorem keeps_in {S : Nat → Prop} {h : Heap} {b : Nat} (s : S b) : (keeps S h)[b]? = h[b]? := by
  unfold keeps
  rw [Array.getElem?_mapIdx]
  cases h[b]? with
  | none => rfl
  | some o => simp [s]

theorem keeps_out {S : Nat → Prop} {h : Heap} {b : Nat} {o : Obj} (s : ¬ S b) (hb : (keeps S h)[b]? = some o) : o = hole := by
  unfold keeps at hb
  rw [Array.getElem?_mapIdx] at hb
  cases hx : h[b]? with
  | none => rw [hx] at hb; cases hb
  | some x => rw [hx] at hb; simp [s] at hb; exact hb.symm

theorem keeps_size {S : Nat → Prop} {h : Heap} : (keeps S h).size = h.size := by simp [keeps]

theorem keeps_sub {S : Nat → Prop} {h h' : Heap} (e : ∀ b, S b → b < h.size → h'[b]? = h[b]?) : Sub (keeps S h) h' := ⟨fun b o hb hn => by
  by_cases s : S b
  · rw [keeps_in s] at hb
    rw [e b s (Array.getElem?_eq_some_iff.1 hb).1, hb]
  · exact absurd (keeps_out s hb) hn⟩

theorem keeps_only {S : Nat → Prop} {h : Heap} : Only (fun i => ¬ S i) h (keeps S h) := ⟨by rw [keeps_size]; exact Nat.le_refl _, fun b _ hn => keeps_in (Classical.not_not.1 hn)⟩
theorem keeps_of {S Q : Nat → Prop} {h h' : Heap} (o : Only Q h h') (q : ∀ i, S i → ¬ Q i) : Sub (keeps S h) h' := keeps_sub fun b s hb => o.same b hb (q b s)
theorem keeps_refl {S : Nat → Prop} {h : Heap} : Sub (keeps S h) h := keeps_sub fun _ _ _ => rfl
theorem Var.keeps {T : TypeId} {S : Nat → Prop} {h : Heap} {b : Nat} {t : TV} (v : Var T h b t) (s : S b) : Var T (keeps S h) b t := (keeps_in s).trans v
/-- One block alone. -/
theorem lone_sub {T : TypeId} {h h' : Heap} {b : Nat} {t : TV} (v : Var T h b t) (v' : Var T h' b t) : Sub (Vc.keeps (· = b) h) h' := keeps_sub fun i s _ => by subst s; exact v'.trans v.symm

end Go.Vc
end
