/- The document's lots, and the choice of the least one by one. -/
import Derived.Test.YtgdhddignbkloaaRefD
namespace Go.Proofs.Ytgdhddignbkloaa.Board
open Go Go.Vc
set_option maxRecDepth 100000

/-! ### A number's bytes -/

def leR (n : Int) : Nat → List UInt8
  | 0 => []
  | k + 1 => UInt8.ofNat (IntKind.wrap .u8 (Int.tmod n 256)).toNat :: leR (IntKind.wrap .u64 (Int.tdiv n 256)) k

theorem leR_length : ∀ (k : Nat) (n : Int), (leR n k).length = k
  | 0, _ => rfl
  | k + 1, n => by simp [leR, leR_length k]

theorem leR_eq : ∀ (k : Nat) (n : Int), 0 ≤ n → n < 18446744073709551616 → leR n k = leF n k
  | 0, _, _, _ => rfl
  | k + 1, n, h0, h1 => by
    have e1 : Int.tmod n 256 = n % 256 := Int.tmod_eq_emod_of_nonneg h0
    have e2 : Int.tdiv n 256 = n / 256 := Int.tdiv_eq_ediv_of_nonneg h0
    have e3 : Int.fdiv n ((2 : Int) ^ min (Int.toNat 8) (IntKind.bits .u64)) = n / 256 := by
      show Int.fdiv n 256 = n / 256
      exact Int.fdiv_eq_ediv_of_nonneg n (by decide)
    rw [leR, leF, e1, e2, e3, wrap_u64_small (n := n / 256) (by omega) (by omega), leR_eq k (n / 256) (by omega) (by omega), wrap_u8, wrap_u8]
    congr 3
    omega

section
variable {R : Value → Heap → Prop} {h : Heap} {c : Cf}

theorem docput_spec : ∀ (k : Nat) (n : Int) (h : Heap) (R : Value → Heap → Prop), k ≤ 8 → (∀ h', Ext h h' → R (TV.str (leR n k)).val h') → CallsH Try.prog 44 (TVs.vals [.int .u64 n, .int .i64 (k : Int)]) h R
  | 0, n, h, R, _, hr => by
    apply tollerref01_Put_calls
    unfold tollerref01_Put_vc
    exact If.dec.2 ⟨fun _ => hr h (Ext.refl _), fun hn => absurd (by decide) hn⟩
  | k + 1, n, h, R, hk, hr => by
    apply tollerref01_Put_calls
    unfold tollerref01_Put_vc
    refine If.dec.2 ⟨fun hn => by omega, fun _ => ⟨by decide, by decide, ?_⟩⟩
    have hm : IntKind.wrap .i64 (mn ((k + 1 : Nat) : Int) 8 - 1) = (k : Int) := by
      rw [mn_eq, wrap_i64 (by omega) (by omega)]
      omega
    rw [hm]
    have hw := wrap_u8_range (Int.tmod n 256)
    have hl := leR_length k (IntKind.wrap .u64 (Int.tdiv n 256))
    refine ⟨⟨Ext.push _ _, _, str1 hw.1 hw.2, docput_spec k _ _ _ (by omega) fun h1 x1 => ⟨_, rfl, x1, ?_, ?_⟩⟩, docput_spec k _ _ _ (by omega) fun h1 x1 => ⟨_, rfl, x1, Ext.push _ _, _, str1 hw.1 hw.2, ?_, ?_⟩⟩
    · rw [hl, List.length_singleton]; omega
    · exact hr h1 ((Ext.push _ _).trans x1)
    · rw [hl, List.length_singleton]; omega
    · exact hr _ (x1.trans (Ext.push _ _))

theorem docless_spec {a b : Bs 32} (hr : ∀ h', Ext h h' → R (TV.bool (Op.bytesLess a.l b.l)).val h') : CallsH Try.prog 45 (TVs.vals [.bytes 32 a, .bytes 32 b]) h R := by
  apply tollerref03_Less_calls
  unfold tollerref03_Less_vc
  refine newTV_in fun h1 v1 x1 s1 => newTV_in fun h2 v2 x2 s2 => ?_
  have v1' := v1.ext x2
  have byte_at : ∀ {h : Heap} {b : Nat} {x : Bs 32} {i : Nat}, Var 26 h b (.bytes 32 x) → (hi : i < 32) → at1 h b (0 + i * 1) (.int .u8 ((x.l[i]'(by rw [x.h]; exact hi)).toNat : Int)) := by
    intro h b x i v hi
    have := v.bytes i hi
    rw [Nat.mul_one]
    unfold at1
    rw [this]
    have hl : i < x.l.length := by rw [x.h]; exact hi
    simp [List.getD, hl]
  refine ⟨fun s hh => 0 ≤ s.2 ∧ s.2 ≤ 32 ∧ hh = h2 ∧ Op.bytesLess a.l b.l = Op.bytesLess (a.l.drop s.2.toNat) (b.l.drop s.2.toNat), fun s _ => ((32 : Int) - s.2).toNat, ⟨by simp, by simp, rfl, by simp⟩, ?_⟩
  rintro ⟨x, i⟩ hh ⟨i0, i1, rfl, hl⟩
  simp only at i0 i1 hl ⊢
  have ha := a.h
  have hb := b.h
  refine If.dec.2 ⟨fun hi => ?_, fun hi => ?_⟩
  · have ni : i.toNat < 32 := by omega
    have da : a.l.drop i.toNat = a.l[i.toNat] :: a.l.drop (i.toNat + 1) := List.drop_eq_getElem_cons (by omega)
    have db : b.l.drop i.toNat = b.l[i.toNat] :: b.l.drop (i.toNat + 1) := List.drop_eq_getElem_cons (by omega)
    rw [da, db] at hl
    simp only [Op.bytesLess] at hl
    refine ⟨i0, hi, _, byte_at v1' ni, i0, hi, _, byte_at v2 ni, ?_⟩
    refine If.split (fun hne => ?_) (fun he => ?_)
    · refine ⟨i0, hi, _, byte_at v1' ni, i0, hi, _, byte_at v2 ni, ?_⟩
      have hne' : (a.l[i.toNat] == b.l[i.toNat]) = false := by
        rw [beq_eq_false_iff_ne]
        intro hx
        rw [hx] at hne
        simp at hne
      rw [hne', Bool.false_and, Bool.or_false] at hl
      have : Op.bytesLess a.l b.l = decide (((a.l[i.toNat]).toNat : Int) < ((b.l[i.toNat]).toNat : Int)) := by
        rw [hl]
        refine decide_eq_decide.2 ?_
        rw [UInt8.lt_iff_toNat_lt]
        omega
      rw [← this]
      exact hr _ (x1.trans x2)
    · have he' : a.l[i.toNat] = b.l[i.toNat] := by
        simp only [Bool.not_eq_false', decide_eq_true_eq] at he
        exact UInt8.toNat_inj.1 (by omega)
      rw [wrap_i64 (by omega) (by omega)]
      refine ⟨⟨by omega, by omega, by trivial, ?_⟩, by first | omega | (dsimp only; omega)⟩
      have hi' : (i + 1).toNat = i.toNat + 1 := by omega
      rw [hi', hl, he']
      have : ¬ (b.l[i.toNat] < b.l[i.toNat]) := UInt8.lt_irrefl _
      simp [this]
  · have hi' : i.toNat = 32 := by omega
    rw [hi', List.drop_eq_nil_of_le (by omega), List.drop_eq_nil_of_le (by omega)] at hl
    simp only [Op.bytesLess] at hl
    rw [hl] at hr
    exact hr _ (x1.trans x2)

theorem board_length : board.length = 5 := by decide

theorem lens11 : rlens 11 8 = lens 11 8 := by decide +kernel

theorem wrap_u64_range (n : Int) : 0 ≤ IntKind.wrap .u64 n ∧ IntKind.wrap .u64 n < 18446744073709551616 := by
  have : IntKind.wrap .u64 n = n % 18446744073709551616 := by
    unfold IntKind.wrap
    show (if (false && _) = true then _ else n % 2 ^ 64) = n % 18446744073709551616
    simp
  rw [this]
  omega

/-- The document's lot is the program's. -/
theorem doc_lot (slot who : Int) : docF ((board ++ leR (IntKind.wrap .u64 slot) 4) ++ leR (IntKind.wrap .u64 who) 2) = lotF slot who := by
  have w1 := wrap_u64_range slot
  have w2 := wrap_u64_range who
  rw [leR_eq 4 _ w1.1 w1.2, leR_eq 2 _ w2.1 w2.2]
  unfold lotF ofF
  have l4 := leF_length 4 (IntKind.wrap .u64 slot)
  have l2 := leF_length 2 (IntKind.wrap .u64 who)
  have hflat : [board, ([] ++ leF (IntKind.wrap .u64 slot) 4) ++ leF (IntKind.wrap .u64 who) 2].flatten = (board ++ leF (IntKind.wrap .u64 slot) 4) ++ leF (IntKind.wrap .u64 who) 2 := by simp
  have hcnt : cntF [board, ([] ++ leF (IntKind.wrap .u64 slot) 4) ++ leF (IntKind.wrap .u64 who) 2] 0 = 11 := by
    have h6 : ((([] ++ leF (IntKind.wrap .u64 slot) 4) ++ leF (IntKind.wrap .u64 who) 2).length : Int) = 6 := by
      rw [List.length_append, List.nil_append, l4, l2]; rfl
    rw [cntF, cntF, cntF, h6, board_length]
    decide +kernel
  rw [hflat, hcnt]
  have hlen : ((board ++ leF (IntKind.wrap .u64 slot) 4) ++ leF (IntKind.wrap .u64 who) 2).length = 11 := by
    rw [List.length_append, List.length_append, l4, l2, board_length]
  generalize (board ++ leF (IntKind.wrap .u64 slot) 4) ++ leF (IntKind.wrap .u64 who) 2 = t at *
  have hp : padF t = fullF t 11 := by
    unfold padF fullF
    rw [hlen]
    show ((t ++ [128]) ++ List.replicate (padK 11) 0) ++ rlens 11 8 = _
    rw [lens11]
    rfl
  have hpl : (padF t).length = 64 := by rw [padF_length, hlen]; rfl
  unfold docF
  rw [hpl]
  show outF (takeF firstW (((padF t).drop (64 * 0)).take 64)) 8 = _
  rw [Nat.mul_zero, List.drop_zero, List.take_of_length_le (by omega), hp]

end

/-! ### The least of those that are left -/

def seatOf (slot : Int) (j : Nat) : Seat := ⟨lotF slot (j : Int), (j : Int)⟩

theorem mem_sorted {slot : Int} {n : Nat} {x : Seat} (h : x ∈ sorted slot n) : ∃ j, j < n ∧ x = seatOf slot j := by
  have := (sorted_perm slot n).mem_iff.1 h
  unfold sts at this
  obtain ⟨j, hj, rfl⟩ := List.mem_map.1 this
  exact ⟨j, List.mem_range.1 hj, rfl⟩

theorem seat_in {slot : Int} {n j : Nat} (h : j < n) : seatOf slot j ∈ sorted slot n := by
  refine (sorted_perm slot n).mem_iff.2 ?_
  unfold sts
  exact List.mem_map.2 ⟨j, List.mem_range.2 h, rfl⟩

/-- The least of those among the first i that are left. -/
def Best (slot : Int) (un : Nat → Bool) (i : Nat) (best : Int) : Prop :=
  (best = -1 ∧ ∀ j, j < i → un j = false) ∨ ∃ b : Nat, best = (b : Int) ∧ b < i ∧ un b = true ∧ ∀ j, j < i → un j = true → j ≠ b → sb (seatOf slot b) (seatOf slot j)

theorem Best.skip {slot : Int} {un : Nat → Bool} {i : Nat} {best : Int} (B : Best slot un i best) (hu : un i = false) : Best slot un (i + 1) best := by
  rcases B with ⟨hb, hall⟩ | ⟨b, hb, hbi, hub, hall⟩
  · refine .inl ⟨hb, fun j hj => ?_⟩
    by_cases hji : j = i
    · rw [hji]; exact hu
    · exact hall j (by omega)
  · refine .inr ⟨b, hb, by omega, hub, fun j hj huj hjb => ?_⟩
    by_cases hji : j = i
    · rw [hji, hu] at huj; cases huj
    · exact hall j (by omega) huj hjb

theorem Best.first {slot : Int} {un : Nat → Bool} {i : Nat} {best : Int} (B : Best slot un i best) (hn : best < 0) (hu : un i = true) : Best slot un (i + 1) (i : Int) := by
  rcases B with ⟨_, hall⟩ | ⟨b, hb, _⟩
  · refine .inr ⟨i, rfl, by omega, hu, fun j hj huj hjb => ?_⟩
    rw [hall j (by omega)] at huj
    cases huj
  · omega

theorem Best.less {slot : Int} {un : Nat → Bool} {i b : Nat} (B : Best slot un i (b : Int)) (hu : un i = true) (hl : Op.bytesLess (lotF slot (i : Int)).l (lotF slot (b : Int)).l = true) : Best slot un (i + 1) (i : Int) := by
  rcases B with ⟨hb, _⟩ | ⟨b', hb, hbi, hub, hall⟩
  · omega
  · have : b' = b := by omega
    subst this
    have h1 : sb (seatOf slot i) (seatOf slot b') := .inl hl
    refine .inr ⟨i, rfl, by omega, hu, fun j hj huj hji => ?_⟩
    by_cases hjb : j = b'
    · rw [hjb]; exact h1
    · exact sb_trans h1 (hall j (by omega) huj hjb)

theorem Best.keep {slot : Int} {un : Nat → Bool} {i b : Nat} (B : Best slot un i (b : Int)) (hl : Op.bytesLess (lotF slot (i : Int)).l (lotF slot (b : Int)).l = false) : Best slot un (i + 1) (b : Int) := by
  rcases B with ⟨hb, _⟩ | ⟨b', hb, hbi, hub, hall⟩
  · omega
  · have : b' = b := by omega
    subst this
    refine .inr ⟨b', rfl, by omega, hub, fun j hj huj hjb => ?_⟩
    by_cases hji : j = i
    · subst hji
      rcases sb_total (x := seatOf slot b') (y := seatOf slot j) (by show (b' : Int) ≠ j; omega) with h1 | h1
      · exact h1
      · rcases h1 with h1 | ⟨_, h1⟩
        · have : Op.bytesLess (lotF slot (j : Int)).l (lotF slot (b' : Int)).l = true := h1
          rw [hl] at this
          cases this
        · have : (j : Int) < (b' : Int) := h1
          omega
    · exact hall j (by omega) huj hjb

/-- Who is left behind the first k of all in order. -/
noncomputable def left (slot : Int) (n k : Nat) (j : Nat) : Bool := !decide ((j : Int) ∈ (whos slot n).take k)

theorem whos_get {slot : Int} {n k : Nat} (hk : k < n) : ∃ j : Nat, j < n ∧ (sorted slot n)[k]? = some (seatOf slot j) ∧ (whos slot n)[k]? = some (j : Int) := by
  have hl := sorted_length slot n
  have hg : (sorted slot n)[k]? = some (sorted slot n)[k] := List.getElem?_eq_getElem (by omega)
  obtain ⟨j, hj, e⟩ := mem_sorted (List.getElem_mem (by omega : k < (sorted slot n).length))
  refine ⟨j, hj, by rw [hg, e], ?_⟩
  unfold whos
  rw [List.getElem?_map, hg, e]
  rfl

theorem take_mem {l : List Int} {k : Nat} {x : Int} (hn : l.Nodup) (hx : l[k]? = some x) : x ∉ l.take k := by
  intro h
  obtain ⟨i, hi⟩ := List.getElem?_of_mem h
  rw [List.getElem?_take] at hi
  split at hi
  · rename_i hik
    have hkl := (List.getElem?_eq_some_iff.1 hx).1
    have := (List.getElem?_inj (by omega) hn).1 (hi.trans hx.symm)
    omega
  · cases hi

theorem Best.done {slot : Int} {n k : Nat} {best : Int} (hk : k < n) (B : Best slot (left slot n k) n best) : ∃ b : Nat, b < n ∧ best = (b : Int) ∧ (whos slot n)[k]? = some (b : Int) := by
  obtain ⟨j0, hj0, hs0, hw0⟩ := whos_get (slot := slot) hk
  have hnd := whos_nodup slot n
  have hu0 : left slot n k j0 = true := by
    unfold left
    rw [decide_eq_false (take_mem hnd hw0)]
    rfl
  rcases B with ⟨_, hall⟩ | ⟨b, hb, hbn, hub, hall⟩
  · rw [hall j0 hj0] at hu0; cases hu0
  · refine ⟨b, hbn, hb, ?_⟩
    by_cases h0 : j0 = b
    · rw [← h0]; exact hw0
    · exfalso
      have h1 := hall j0 hj0 hu0 h0
      -- b stands behind the k-th
      have hbl : (b : Int) ∉ (whos slot n).take k := by
        unfold left at hub
        simpa using hub
      obtain ⟨i, hi⟩ := List.getElem?_of_mem (seat_in (slot := slot) hbn)
      have hwi : (whos slot n)[i]? = some (b : Int) := by
        unfold whos
        rw [List.getElem?_map, hi]
        rfl
      have hik : k < i := by
        rcases Nat.lt_trichotomy i k with h2 | h2 | h2
        · refine absurd (List.mem_of_getElem? (i := i) ?_) hbl
          rw [List.getElem?_take, if_pos h2]
          exact hwi
        · rw [h2, hw0] at hwi
          injection hwi with hwi
          omega
        · exact h2
      have hp := List.pairwise_iff_getElem.1 (sorted_pair slot n) k i (List.getElem?_eq_some_iff.1 hs0).1 (List.getElem?_eq_some_iff.1 hi).1 hik
      rw [(List.getElem?_eq_some_iff.1 hs0).2, (List.getElem?_eq_some_iff.1 hi).2] at hp
      exact hp h1

theorem left_succ {slot : Int} {n k b : Nat} (hw : (whos slot n)[k]? = some (b : Int)) (j : Nat) : left slot n (k + 1) j = if j = b then false else left slot n k j := by
  unfold left
  rw [take_snoc hw]
  by_cases hj : j = b
  · subst hj
    rw [if_pos rfl]
    simp
  · rw [if_neg hj]
    have : (j : Int) ≠ (b : Int) := by omega
    simp [this]

end Go.Proofs.Ytgdhddignbkloaa.Board
