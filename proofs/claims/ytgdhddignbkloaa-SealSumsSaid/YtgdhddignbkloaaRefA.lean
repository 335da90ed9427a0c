/- The document's digest: its words and rounds are those of the program. -/
import Derived.Test.YtgdhddignbkloaaBoardH

namespace Go.Proofs.Ytgdhddignbkloaa.Board
open Go Go.Vc

theorem wrap_u32 (n : Int) : IntKind.wrap .u32 n = n % 4294967296 := by
  unfold IntKind.wrap
  show (if (false && _) = true then _ else n % 2 ^ 32) = n % 4294967296
  simp

/-- A word turned right, as the document has it. -/
def rightF (x n : Int) : Int := IntKind.wrap .u32 (↑(BitVec.toNat (BitVec.ofInt (IntKind.bits .u32) (Int.fdiv x ((2 : Int) ^ min (Int.toNat (IntKind.wrap .u64 n)) (IntKind.bits .u32))) ||| BitVec.ofInt (IntKind.bits .u32) (IntKind.wrap .u32 (x * (2 : Int) ^ min (Int.toNat (IntKind.wrap .u64 (IntKind.wrap .i64 ((32 : Int) - n)))) (IntKind.bits .u32))))) : Int)

theorem turn_or (x : Int) (n : Int) (a b : Nat)
    (h1 : rightF x n = IntKind.wrap .u32 (↑(BitVec.toNat (BitVec.ofInt 32 (Int.fdiv x ((2 : Int) ^ a)) ||| BitVec.ofInt 32 (IntKind.wrap .u32 (x * (2 : Int) ^ b)))) : Int))
    (h2 : turnF x n = IntKind.wrap .u32 (↑(BitVec.toNat (BitVec.ofInt 32 (IntKind.wrap .u32 (x * (2 : Int) ^ b)) ||| BitVec.ofInt 32 (Int.fdiv x ((2 : Int) ^ a)))) : Int)) : rightF x n = turnF x n := by
  rw [h1, h2, BitVec.or_comm]

theorem right2 (x : Int) : rightF x 2 = turnF x 2 := turn_or x 2 2 30 (by kernel_rfl) (by kernel_rfl)
theorem right6 (x : Int) : rightF x 6 = turnF x 6 := turn_or x 6 6 26 (by kernel_rfl) (by kernel_rfl)
theorem right7 (x : Int) : rightF x 7 = turnF x 7 := turn_or x 7 7 25 (by kernel_rfl) (by kernel_rfl)
theorem right11 (x : Int) : rightF x 11 = turnF x 11 := turn_or x 11 11 21 (by kernel_rfl) (by kernel_rfl)
theorem right13 (x : Int) : rightF x 13 = turnF x 13 := turn_or x 13 13 19 (by kernel_rfl) (by kernel_rfl)
theorem right17 (x : Int) : rightF x 17 = turnF x 17 := turn_or x 17 17 15 (by kernel_rfl) (by kernel_rfl)
theorem right18 (x : Int) : rightF x 18 = turnF x 18 := turn_or x 18 18 14 (by kernel_rfl) (by kernel_rfl)
theorem right19 (x : Int) : rightF x 19 = turnF x 19 := turn_or x 19 19 13 (by kernel_rfl) (by kernel_rfl)
theorem right22 (x : Int) : rightF x 22 = turnF x 22 := turn_or x 22 22 10 (by kernel_rfl) (by kernel_rfl)
theorem right25 (x : Int) : rightF x 25 = turnF x 25 := turn_or x 25 25 7 (by kernel_rfl) (by kernel_rfl)

/-- Two parts of a word that do not meet. -/
theorem or_parts (A B k : Nat) (hB : B < 2 ^ k) (hA : A * 2 ^ k + B < 4294967296) : ((BitVec.toNat (BitVec.ofInt 32 ((A * 2 ^ k : Nat) : Int) ||| BitVec.ofInt 32 (B : Int)) : Nat) : Int) = ((A * 2 ^ k + B : Nat) : Int) := by
  rw [BitVec.ofInt_natCast, BitVec.ofInt_natCast, BitVec.toNat_or, BitVec.toNat_ofNat, BitVec.toNat_ofNat, Nat.mod_eq_of_lt (by omega), Nat.mod_eq_of_lt (by omega)]
  have := Nat.shiftLeft_add_eq_or_of_lt hB A
  rw [Nat.shiftLeft_eq] at this
  rw [this]

theorem wrap_nat (n : Nat) (h : n < 4294967296) : IntKind.wrap .u32 (n : Int) = (n : Int) := by
  rw [wrap_u32]
  omega

theorem be_bytes (a b c d : Nat) (ha : a < 256) (hb : b < 256) (hc : c < 256) (hd : d < 256) : be a b c d = (((a * 256 + b) * 256 + c) * 256 + d : Nat) := by
  have e : be a b c d = IntKind.wrap .u32 (↑(BitVec.toNat (BitVec.ofInt 32 (IntKind.wrap .u32 (↑(BitVec.toNat (BitVec.ofInt 32 (IntKind.wrap .u32 (↑(BitVec.toNat (BitVec.ofInt 32 (IntKind.wrap .u32 (IntKind.wrap .u32 (a : Int) * 2 ^ 24)) ||| BitVec.ofInt 32 (IntKind.wrap .u32 (IntKind.wrap .u32 (b : Int) * 2 ^ 16)))) : Int)) |||
      BitVec.ofInt 32 (IntKind.wrap .u32 (IntKind.wrap .u32 (c : Int) * 2 ^ 8)))) : Int)) ||| BitVec.ofInt 32 (IntKind.wrap .u32 (d : Int)))) : Int) := by
    unfold be
    kernel_rfl
  have w1 : IntKind.wrap .u32 (IntKind.wrap .u32 (a : Int) * 2 ^ 24) = ((a * 2 ^ 24 : Nat) : Int) := by rw [wrap_u32, wrap_u32]; omega
  have w2 : IntKind.wrap .u32 (IntKind.wrap .u32 (b : Int) * 2 ^ 16) = ((b * 2 ^ 16 : Nat) : Int) := by rw [wrap_u32, wrap_u32]; omega
  have w3 : IntKind.wrap .u32 (IntKind.wrap .u32 (c : Int) * 2 ^ 8) = ((c * 2 ^ 8 : Nat) : Int) := by rw [wrap_u32, wrap_u32]; omega
  rw [e, w1, w2, w3, wrap_nat d (by omega), or_parts a (b * 2 ^ 16) 24 (by omega) (by omega), wrap_nat (a * 2 ^ 24 + b * 2 ^ 16) (by omega)]
  rw [show a * 2 ^ 24 + b * 2 ^ 16 = (a * 256 + b) * 2 ^ 16 by omega, or_parts (a * 256 + b) (c * 2 ^ 8) 16 (by omega) (by omega), wrap_nat ((a * 256 + b) * 2 ^ 16 + c * 2 ^ 8) (by omega)]
  rw [show (a * 256 + b) * 2 ^ 16 + c * 2 ^ 8 = ((a * 256 + b) * 256 + c) * 2 ^ 8 by omega, or_parts ((a * 256 + b) * 256 + c) d 8 (by omega) (by omega), wrap_nat _ (by omega)]

/-- A word that grows by a byte. -/
def grow (n : Int) (b : UInt8) : Int := IntKind.wrap .u32 (IntKind.wrap .u32 (n * 256) + IntKind.wrap .u32 (b.toNat : Int))

theorem grow4 (a b c d : UInt8) : grow (grow (grow (grow 0 a) b) c) d = be (a.toNat : Int) (b.toNat : Int) (c.toNat : Int) (d.toNat : Int) := by
  have ha := a.toNat_lt
  have hb := b.toNat_lt
  have hc := c.toNat_lt
  have hd := d.toNat_lt
  rw [be_bytes _ _ _ _ ha hb hc hd]
  unfold grow
  simp only [wrap_u32]
  omega

theorem ex_turned (n n1 n2 n3 n4 n5 n6 n7 s0 s1 : Int) (h0 : s0 = IntKind.wrap .u32 (↑(BitVec.toNat (BitVec.ofInt (IntKind.bits IntKind.u32) (IntKind.wrap IntKind.u32 (↑(BitVec.toNat (BitVec.ofInt (IntKind.bits IntKind.u32) n4 ^^^ BitVec.ofInt (IntKind.bits IntKind.u32) n5)) : Int)) ^^^ BitVec.ofInt (IntKind.bits IntKind.u32) (Int.fdiv n ((2 : Int) ^ min (Int.toNat (3 : Int)) (IntKind.bits IntKind.u32))))) : Int))
    (h1 : s1 = IntKind.wrap .u32 (↑(BitVec.toNat (BitVec.ofInt (IntKind.bits IntKind.u32) (IntKind.wrap IntKind.u32 (↑(BitVec.toNat (BitVec.ofInt (IntKind.bits IntKind.u32) n6 ^^^ BitVec.ofInt (IntKind.bits IntKind.u32) n7)) : Int)) ^^^ BitVec.ofInt (IntKind.bits IntKind.u32) (Int.fdiv n1 ((2 : Int) ^ min (Int.toNat (10 : Int)) (IntKind.bits IntKind.u32))))) : Int)) :
    IntKind.wrap .u32 (IntKind.wrap .u32 (IntKind.wrap .u32 (n2 + n3) + s0) + s1) = ex n n1 n2 n3 n4 n5 n6 n7 := by
  unfold ex
  rw [← h0, ← h1]
  simp only [wrap_u32]
  omega

/-! ### Words -/

theorem wd_set {n : Nat} (w : Ws n) (i j : Nat) (c : Int) : wd (w.set i c) j = if i = j ∧ i < n then c else wd w j := by
  unfold wd Ws.set
  simp only [List.getD_eq_getElem?_getD, List.getElem?_set]
  by_cases h : i = j
  · subst h
    rw [if_pos rfl]
    by_cases hi : i < n
    · rw [if_pos (by rw [w.h]; exact hi), if_pos ⟨rfl, hi⟩]; rfl
    · rw [if_neg (by rw [w.h]; exact hi), if_neg (fun hx => hi hx.2), List.getElem?_eq_none (by rw [w.h]; omega)]
  · rw [if_neg h, if_neg (fun hx => h hx.1)]

theorem wd_shift (v : Ws 8) (j : Nat) (h0 : 0 < j) (h1 : j < 8) : wd (shift v) j = wd v (j - 1) := by
  obtain ⟨l, hl⟩ := v
  match l, hl with
  | [a, b, c, d, e, f, g, k], _ =>
    have : j = 1 ∨ j = 2 ∨ j = 3 ∨ j = 4 ∨ j = 5 ∨ j = 6 ∨ j = 7 := by omega
    rcases this with rfl | rfl | rfl | rfl | rfl | rfl | rfl <;> rfl

theorem ws_eq {n : Nat} {a b : Ws n} (h : ∀ j, j < n → wd a j = wd b j) : a = b := by
  apply Ws.ext'
  apply List.ext_getElem (by rw [a.h, b.h])
  intro j h1 h2
  have := h j (by rw [← a.h]; exact h1)
  unfold wd at this
  simpa [List.getD_eq_getElem?_getD, h1, h2] using this

theorem sum_wd (w v : Ws 8) : ∀ i j, i ≤ 8 → wd (sumW w v i) j = if j < i then IntKind.wrap .u32 (wd w j + wd v j) else wd w j
  | 0, j, _ => by simp [sumW]
  | i + 1, j, h => by
    rw [sumW, wd_set, sum_wd w v i i (by omega), sum_wd w v i j (by omega), if_neg (Nat.lt_irrefl i)]
    by_cases hij : i = j
    · subst hij
      rw [if_pos ⟨rfl, by omega⟩, if_pos (Nat.lt_succ_self i)]
    · rw [if_neg (fun hx => hij hx.1)]
      by_cases hj : j < i
      · rw [if_pos hj, if_pos (by omega)]
      · rw [if_neg hj, if_neg (by omega)]

theorem layB_wd (w : Ws 64) : ∀ i j, i ≤ 48 → j < 16 + i → ∀ k, i ≤ k → k ≤ 48 → wd (layB w k) j = wd (layB w i) j
  | i, j, _, hj, k, hik, hk => by
    induction k with
    | zero => have : i = 0 := by omega
              subst this; rfl
    | succ k ih =>
      by_cases h : i = k + 1
      · subst h; rfl
      · rw [layB, wd_set, if_neg (by omega)]
        exact ih (by omega) (by omega)

theorem layA_wd (bs : List UInt8) (i j : Nat) (hj : j < i) (hi : i ≤ 16) : wd (layA bs i) j = wd (layA bs 16) j := by
  have : ∀ k, i ≤ k → k ≤ 16 → wd (layA bs k) j = wd (layA bs i) j := by
    intro k
    induction k with
    | zero => intro h1 _; have : i = 0 := by omega
              omega
    | succ k ih =>
      intro h1 h2
      by_cases h : i = k + 1
      · subst h; rfl
      · rw [layA, wd_set, if_neg (by omega)]
        exact ih (by omega) (by omega)
  exact (this 16 hi (Nat.le_refl _)).symm

end Go.Proofs.Ytgdhddignbkloaa.Board
