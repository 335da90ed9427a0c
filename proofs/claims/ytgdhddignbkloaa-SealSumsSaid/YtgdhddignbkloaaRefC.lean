/- The document's digest: primes, roots, and the whole. -/
import Derived.Test.YtgdhddignbkloaaRefB
namespace Go.Proofs.Ytgdhddignbkloaa.Board
open Go Go.Vc
set_option maxRecDepth 100000

def mulHi (x y : Int) : Int := (IntKind.wrap IntKind.u64 (IntKind.wrap IntKind.u64 (IntKind.wrap IntKind.u64 (Int.fdiv x ((2 : Int) ^ min (Int.toNat (32 : Int)) (IntKind.bits IntKind.u64)) * Int.fdiv y ((2 : Int) ^ min (Int.toNat (32 : Int)) (IntKind.bits IntKind.u64))) + Int.fdiv (IntKind.wrap IntKind.u64 (IntKind.wrap IntKind.u64 (Int.fdiv x ((2 : Int) ^ min (Int.toNat (32 : Int)) (IntKind.bits IntKind.u64)) * IntKind.wrap IntKind.u64 (↑(BitVec.toNat (BitVec.ofInt (IntKind.bits IntKind.u64) y &&& BitVec.ofInt (IntKind.bits IntKind.u64) (4294967295 : Int))) : Int)) + Int.fdiv (IntKind.wrap IntKind.u64 (IntKind.wrap IntKind.u64 (↑(BitVec.toNat (BitVec.ofInt (IntKind.bits IntKind.u64) x &&& BitVec.ofInt (IntKind.bits IntKind.u64) (4294967295 : Int))) : Int) * IntKind.wrap IntKind.u64 (↑(BitVec.toNat (BitVec.ofInt (IntKind.bits IntKind.u64) y &&& BitVec.ofInt (IntKind.bits IntKind.u64) (4294967295 : Int))) : Int))) ((2 : Int) ^ min (Int.toNat (32 : Int)) (IntKind.bits IntKind.u64)))) ((2 : Int) ^ min (Int.toNat (32 : Int)) (IntKind.bits IntKind.u64))) + Int.fdiv (IntKind.wrap IntKind.u64 (IntKind.wrap IntKind.u64 (↑(BitVec.toNat (BitVec.ofInt (IntKind.bits IntKind.u64) (IntKind.wrap IntKind.u64 (IntKind.wrap IntKind.u64 (Int.fdiv x ((2 : Int) ^ min (Int.toNat (32 : Int)) (IntKind.bits IntKind.u64)) * IntKind.wrap IntKind.u64 (↑(BitVec.toNat (BitVec.ofInt (IntKind.bits IntKind.u64) y &&& BitVec.ofInt (IntKind.bits IntKind.u64) (4294967295 : Int))) : Int)) + Int.fdiv (IntKind.wrap IntKind.u64 (IntKind.wrap IntKind.u64 (↑(BitVec.toNat (BitVec.ofInt (IntKind.bits IntKind.u64) x &&& BitVec.ofInt (IntKind.bits IntKind.u64) (4294967295 : Int))) : Int) * IntKind.wrap IntKind.u64 (↑(BitVec.toNat (BitVec.ofInt (IntKind.bits IntKind.u64) y &&& BitVec.ofInt (IntKind.bits IntKind.u64) (4294967295 : Int))) : Int))) ((2 : Int) ^ min (Int.toNat (32 : Int)) (IntKind.bits IntKind.u64)))) &&& BitVec.ofInt (IntKind.bits IntKind.u64) (4294967295 : Int))) : Int) + IntKind.wrap IntKind.u64 (IntKind.wrap IntKind.u64 (↑(BitVec.toNat (BitVec.ofInt (IntKind.bits IntKind.u64) x &&& BitVec.ofInt (IntKind.bits IntKind.u64) (4294967295 : Int))) : Int) * Int.fdiv y ((2 : Int) ^ min (Int.toNat (32 : Int)) (IntKind.bits IntKind.u64))))) ((2 : Int) ^ min (Int.toNat (32 : Int)) (IntKind.bits IntKind.u64))))
def mulLo (x y : Int) : Int := IntKind.wrap .u64 (x * y)

def aboveF (x p power : Int) : Bool :=
  if power = 2 then (if p < mulHi x x then true else if mulHi x x = p then decide (0 < mulLo x x) else false)
  else
    let mid := (mulLo (mulHi x x) x + mulHi (mulLo x x) x + 0) % 18446744073709551616
    let top := IntKind.wrap .u64 (mulHi (mulHi x x) x + (mulLo (mulHi x x) x + mulHi (mulLo x x) x + 0) / 18446744073709551616)
    if top = Int.fdiv p ((2 : Int) ^ min (Int.toNat 32) (IntKind.bits .u64)) then
      (if mid = IntKind.wrap .u64 (p * (2 : Int) ^ min (Int.toNat 32) (IntKind.bits .u64)) then decide (0 < mulLo (mulLo x x) x)
       else decide (IntKind.wrap .u64 (p * (2 : Int) ^ min (Int.toNat 32) (IntKind.bits .u64)) < mid))
    else decide (Int.fdiv p ((2 : Int) ^ min (Int.toNat 32) (IntKind.bits .u64)) < top)

def rootGo (p power : Int) : Nat → Int → Int
  | 0, x => x
  | k + 1, x => if aboveF (IntKind.wrap .u64 (x + IntKind.wrap .u64 (1 * (2 : Int) ^ min (Int.toNat (IntKind.wrap .u64 (k : Int))) (IntKind.bits .u64)))) p power = true then rootGo p power k x
    else rootGo p power k (IntKind.wrap .u64 (x + IntKind.wrap .u64 (1 * (2 : Int) ^ min (Int.toNat (IntKind.wrap .u64 (k : Int))) (IntKind.bits .u64))))

def rootF (p power : Int) : Int := IntKind.wrap .u32 (Int.tmod (rootGo p power 40 0) 4294967296)

/-- The primes among the first numbers from 2 on. -/
def genL : Nat → List Int
  | 0 => []
  | k + 1 => if (genL k).all (fun p => !decide (Int.tmod ((k : Int) + 2) p = 0)) = true then genL k ++ [(k : Int) + 2] else genL k

abbrev u64s (l : List Int) : List TV := l.map (TV.int .u64)

section
variable {R : Value → Heap → Prop} {h : Heap}

theorem mul_spec {x y : Int} (hr : R (TV.tup [.int .u64 (mulHi x y), .int .u64 (mulLo x y)]).val h) : CallsH Try.prog 73 (TVs.vals [.int .u64 x, .int .u64 y]) h R := by
  apply math_bits_Mul64_calls
  unfold math_bits_Mul64_vc
  exact ⟨by decide, by decide, by decide, by decide, by decide, hr⟩

theorem above_spec {x p power : Int} (hr : R (TV.bool (aboveF x p power)).val h) : CallsH Try.prog 66 (TVs.vals [.int .u64 x, .int .u64 p, .int .i64 power]) h R := by
  apply tollerref03_above_calls
  unfold tollerref03_above_vc
  refine mul_spec ⟨_, _, rfl, ?_⟩
  unfold aboveF at hr
  refine If.dec.2 ⟨fun h2 => ?_, fun h2 => ?_⟩
  · rw [if_pos h2] at hr
    refine If.dec.2 ⟨fun h3 => ?_, fun h3 => If.dec.2 ⟨fun h4 => ?_, fun h4 => ?_⟩⟩
    · rw [if_pos h3] at hr; exact hr
    · rw [if_neg h3, if_pos h4] at hr; exact hr
    · rw [if_neg h3, if_neg h4] at hr; exact hr
  · rw [if_neg h2] at hr
    refine mul_spec ⟨_, _, rfl, mul_spec ⟨_, _, rfl, wrap_u64_nonneg _, ?_⟩⟩
    refine ⟨wrap_u64_nonneg _, Int.le_refl _, by decide, by decide, If.split (fun hb => ⟨by decide, ?_⟩) fun hb => ⟨by decide, If.split (fun hc => ?_) fun hc => ?_⟩⟩
    · have h3 : ¬ (IntKind.wrap .u64 (mulHi (mulHi x x) x + (mulLo (mulHi x x) x + mulHi (mulLo x x) x + 0) / 18446744073709551616) = Int.fdiv p ((2 : Int) ^ min (Int.toNat 32) (IntKind.bits .u64))) := by simpa using hb
      simp only [if_neg h3] at hr
      exact hr
    · have h3 : (IntKind.wrap .u64 (mulHi (mulHi x x) x + (mulLo (mulHi x x) x + mulHi (mulLo x x) x + 0) / 18446744073709551616) = Int.fdiv p ((2 : Int) ^ min (Int.toNat 32) (IntKind.bits .u64))) := by simpa using hb
      have h4 : ¬ ((mulLo (mulHi x x) x + mulHi (mulLo x x) x + 0) % 18446744073709551616 = IntKind.wrap .u64 (p * (2 : Int) ^ min (Int.toNat 32) (IntKind.bits .u64))) := by simpa using hc
      simp only [if_pos h3, if_neg h4] at hr
      exact hr
    · have h3 : (IntKind.wrap .u64 (mulHi (mulHi x x) x + (mulLo (mulHi x x) x + mulHi (mulLo x x) x + 0) / 18446744073709551616) = Int.fdiv p ((2 : Int) ^ min (Int.toNat 32) (IntKind.bits .u64))) := by simpa using hb
      have h4 : ((mulLo (mulHi x x) x + mulHi (mulLo x x) x + 0) % 18446744073709551616 = IntKind.wrap .u64 (p * (2 : Int) ^ min (Int.toNat 32) (IntKind.bits .u64))) := by simpa using hc
      simp only [if_pos h3, if_pos h4] at hr
      exact hr

theorem root_spec {p power : Int} (hr : R (TV.int .u32 (rootF p power)).val h) : CallsH Try.prog 57 (TVs.vals [.int .u64 p, .int .i64 power]) h R := by
  apply tollerref03_root_calls
  unfold tollerref03_root_vc
  obtain ⟨G, hG⟩ : ∃ G, G = rootGo p power 40 0 := ⟨_, rfl⟩
  unfold rootF at hr
  rw [← hG] at hr
  refine ⟨fun σ hh => hh = h ∧ ∃ k : Nat, k ≤ 40 ∧ σ.2 = (k : Int) - 1 ∧ G = rootGo p power k σ.1, fun σ _ => (σ.2 + 1).toNat, ⟨rfl, 40, Nat.le_refl _, rfl, hG⟩, ?_⟩
  clear hG
  rintro ⟨x, i⟩ hh ⟨rfl, k, hk, hi, hx⟩
  dsimp only at hi hx ⊢
  subst hi
  refine If.dec.2 ⟨fun h0 => ?_, fun h0 => ?_⟩
  · obtain ⟨m, rfl⟩ : ∃ m, k = m + 1 := ⟨k - 1, by omega⟩
    have hm : ((m + 1 : Nat) : Int) - 1 = (m : Int) := by omega
    rw [hm, wrap_i64 (n := (m : Int) - 1) (by omega) (by omega)]
    rw [rootGo] at hx
    refine ⟨wrap_u64_nonneg _, above_spec ⟨_, rfl, ?_⟩⟩
    cases hb : aboveF (IntKind.wrap .u64 (x + IntKind.wrap .u64 (1 * (2 : Int) ^ min (Int.toNat (IntKind.wrap .u64 (m : Int))) (IntKind.bits .u64)))) p power with
    | true =>
      rw [if_pos hb] at hx
      exact If.no ⟨⟨by trivial, m, by omega, rfl, hx⟩, by first | omega | (dsimp only; omega)⟩
    | false =>
      rw [if_neg (by rw [hb]; decide)] at hx
      exact If.yes ⟨wrap_u64_nonneg _, ⟨by trivial, m, by omega, rfl, hx⟩, by first | omega | (dsimp only; omega)⟩
  · have : k = 0 := by omega
    subst this
    rw [rootGo] at hx
    rw [hx] at hr
    exact ⟨by decide, hr⟩

theorem bytes57 : (ctx.ti 27).bytes = 8 := by kernel_rfl
theorem size57 : (ctx.ti 27).size = 1 := by kernel_rfl
theorem zsize57 : (ctx.ti 27).z.size = 1 := by kernel_rfl

theorem read_u64 {s : Sl} {l : List Int} {i : Int} (e : Elems 1 h s (u64s l)) (i0 : 0 ≤ i) (i1 : i < l.length) {K : Int → Prop} (hk : ∀ x, l[i.toNat]? = some x → K x) :
    0 ≤ i ∧ i < (s.len : Int) ∧ Nn s.a fun (p : Vc.Loc) => ∃ (n : Int), at1 h p.b (p.o + i.toNat * 1) (.int .u64 n) ∧ K n := by
  have hl := e.len
  rw [List.length_map] at hl
  refine e.read i0 (by omega) fun p t hla ht ha => ?_
  rw [List.getElem?_map] at ht
  obtain ⟨x, hx, rfl⟩ := Option.map_eq_some_iff.1 ht
  exact ⟨x, ha, hk x hx⟩

theorem genL_pos : ∀ k, ∀ p ∈ genL k, p ≠ 0
  | 0, p, hp => by cases hp
  | k + 1, p, hp => by
    rw [genL] at hp
    split at hp
    · rcases List.mem_append.1 hp with h1 | h1
      · exact genL_pos k p h1
      · have := List.mem_singleton.1 h1
        omega
    · exact genL_pos k p hp

theorem genL_len : ∀ k, (genL k).length ≤ k
  | 0 => Nat.le_refl _
  | k + 1 => by
    have := genL_len k
    rw [genL]
    split
    · rw [List.length_append, List.length_singleton]; omega
    · omega

theorem wrap_u64_small {n : Int} (h0 : 0 ≤ n) (h1 : n < 18446744073709551616) : IntKind.wrap .u64 n = n := by
  have : IntKind.wrap .u64 n = n % 18446744073709551616 := by
    unfold IntKind.wrap
    show (if (false && _) = true then _ else n % 2 ^ 64) = n % 18446744073709551616
    simp
  rw [this]
  omega

theorem primes_spec {n : Int} (J : Nat) (hJ : J < 1000) (hlt : ∀ j, j < J → ((genL j).length : Int) < n) (hge : n ≤ ((genL J).length : Int)) (hr : ∀ h' s, Own 27 1 h' s (u64s (genL J)) → Ext h h' → R (TV.slice s).val h') :
    CallsH Try.prog 56 (TVs.vals [.int .i64 n]) h R := by
  apply tollerref03_primes_calls
  unfold tollerref03_primes_vc
  refine ⟨fun σ hh => ∃ j : Nat, j ≤ J ∧ σ.2 = (j : Int) + 2 ∧ Own 27 1 hh σ.1 (u64s (genL j)) ∧ (∀ l, σ.1.a = some l → h.size ≤ l.b) ∧ Ext h hh, fun σ _ => ((J : Int) + 2 - σ.2).toNat, ⟨0, Nat.zero_le _, rfl, Own.nil _ _ _, (fun l hl => by cases hl), Ext.refl _⟩, ?_⟩
  rintro ⟨s, c⟩ h1 ⟨j, hj, hc, o1, b1, x1⟩
  dsimp only at hc o1 b1 ⊢
  subst hc
  have hlen := o1.len
  rw [List.length_map] at hlen
  have hjl := genL_len j
  refine If.dec.2 ⟨fun hn => ?_, fun hn => ?_⟩
  · have hjJ : j < J := by
      rcases Nat.lt_or_ge j J with h2 | h2
      · exact h2
      · have : j = J := by omega
        subst this
        omega
    refine ⟨fun σ hh => hh = h1 ∧ 0 ≤ σ.2 ∧ σ.2 ≤ s.len ∧ σ.1 = ((genL j).take σ.2.toNat).all (fun p => !decide (Int.tmod ((j : Int) + 2) p = 0)), fun σ _ => ((s.len : Int) - σ.2).toNat, ⟨rfl, Int.le_refl 0, by first | omega | (dsimp only; omega), rfl⟩, ?_⟩
    rintro ⟨f, i⟩ hh ⟨hhe, i0, i1, hf⟩
    obtain rfl := hhe.symm
    dsimp only at i0 i1 hf ⊢
    refine If.dec.2 ⟨fun hi => ?_, fun hi => ?_⟩
    · refine read_u64 o1.elems i0 (by omega) fun x hx => ?_
      have hx0 := genL_pos j x (List.mem_of_getElem? hx)
      have hi1 : (i + 1).toNat = i.toNat + 1 := by omega
      rw [wrap_i64 (n := i + 1) (by omega) (by omega)]
      have htk : ((genL j).take (i.toNat + 1)).all (fun p => !decide (Int.tmod ((j : Int) + 2) p = 0)) = (f && !decide (Int.tmod ((j : Int) + 2) x = 0)) := by
        rw [take_snoc hx, List.all_append, ← hf]
        simp
      cases f with
      | true =>
        refine If.yes ⟨hx0, ⟨by trivial, by first | omega | (dsimp only; omega), by first | omega | (dsimp only; omega), ?_⟩, by first | omega | (dsimp only; omega)⟩
        try dsimp only
        rw [hi1, htk, Bool.true_and]
      | false =>
        refine If.no ⟨⟨by trivial, by first | omega | (dsimp only; omega), by first | omega | (dsimp only; omega), ?_⟩, by first | omega | (dsimp only; omega)⟩
        try dsimp only
        rw [hi1, htk, Bool.false_and]
    · have hi2 : i.toNat = (genL j).length := by omega
      rw [hi2, List.take_length] at hf
      rw [wrap_u64_small (n := (j : Int) + 2 + 1) (by omega) (by omega)]
      have hg : genL (j + 1) = if f = true then genL j ++ [(j : Int) + 2] else genL j := by rw [genL, ← hf]
      cases f with
      | true =>
        refine If.yes (append1 (C := ctx) (T := 27) (sz := 1) (x := .int .u64 ((j : Int) + 2)) size57 zsize57 (by rw [bytes57]; decide) (by rw [bytes57]; omega) o1 rfl rfl fun s4 h4 o4 f4 b4 => ?_)
        refine ⟨⟨j + 1, by omega, by first | omega | (dsimp only; omega), ?_, fun l hl => ?_, Only.cut x1 f4 fun i ⟨l, hl, e⟩ => by rw [← e]; exact b1 l hl⟩, by first | omega | (dsimp only; omega)⟩
        · rw [hg, if_pos rfl]
          simp only [u64s, List.map_append, List.map_cons, List.map_nil] at o4 ⊢
          exact o4
        · rcases b4 l hl with ⟨l', h9, h10⟩ | h9
          · rw [← h10]; exact b1 l' h9
          · have := x1.size; omega
      | false =>
        refine If.no ⟨⟨j + 1, by omega, by first | omega | (dsimp only; omega), ?_, b1, x1⟩, by first | omega | (dsimp only; omega)⟩
        rw [hg, if_neg (by decide)]
        exact o1
  · have : j = J := by
      rcases Nat.lt_or_ge j J with h2 | h2
      · have := hlt j h2; omega
      · omega
    subst this
    exact hr h1 s o1 x1

theorem genL_mono : ∀ k m, k ≤ m → (genL k).length ≤ (genL m).length := by
  intro k m hkm
  induction m with
  | zero => have : k = 0 := by omega
            subst this; exact Nat.le_refl _
  | succ m ih =>
    by_cases hk : k = m + 1
    · subst hk; exact Nat.le_refl _
    · have := ih (by omega)
      rw [genL]
      split
      · rw [List.length_append]; omega
      · exact this

theorem p8 : (genL 17).length = 7 ∧ (genL 18).length = 8 := by decide +kernel
theorem p64 : (genL 309).length = 63 ∧ (genL 310).length = 64 := by decide +kernel
theorem firsts : (genL 18).map (fun p => rootF p 2) = firstW.l := by decide +kernel
theorem keysR : (genL 310).map (fun p => rootF p 3) = keysW.l := by decide +kernel

end
end Go.Proofs.Ytgdhddignbkloaa.Board
