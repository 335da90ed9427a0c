/- A validator's lot: the digest of a word and six bytes; which of two seats comes first. -/
import Derived.Test.YtgdhddignbkloaaBoardT
import Derived.Test.YtgdhddignbkloaaVsBoard
namespace Go.Proofs.Ytgdhddignbkloaa.Board
open Go Go.Vc
section
variable {R : Value → Heap → Prop} {h : Heap}

/-- How many bytes came, as the state counts. -/
def cntF : List (List UInt8) → Int → Int
  | [], n => n
  | t :: ts, n => cntF ts (IntKind.wrap .u64 (n + IntKind.wrap .u64 (t.length : Int)))

theorem cntF_snoc : ∀ (ts : List (List UInt8)) (t : List UInt8) (n : Int), cntF (ts ++ [t]) n = IntKind.wrap .u64 (cntF ts n + IntKind.wrap .u64 (t.length : Int))
  | [], _, _ => rfl
  | _ :: ts, t, _ => cntF_snoc ts t _

/-- The digest of short texts. -/
def ofF (ts : List (List UInt8)) : Bs 32 := outF (takeF firstW (fullF ts.flatten (cntF ts 0))) 8

theorem flatten_take_le : ∀ (ts : List (List UInt8)) (i : Nat), (ts.take i).flatten.length ≤ ts.flatten.length
  | [], i => by simp
  | t :: ts, 0 => by simp
  | t :: ts, i + 1 => by
    have := flatten_take_le ts i
    simp only [List.take_succ_cons, List.flatten_cons, List.length_append]
    omega

theorem take_snoc {α : Type} {ts : List α} {i : Nat} {t : α} (ht : ts[i]? = some t) : ts.take (i + 1) = ts.take i ++ [t] := by
  rw [List.take_add_one, ht]
  rfl

theorem bsz {n : Nat} {x y : Bs n} : (TV.bytes n x).size = (TV.bytes n y).size := by simp only [TV.size]

theorem of_spec {s : Sl} {ts : List (List UInt8)} (e : Elems 1 h s (ts.map TV.str)) (hl : ts.flatten.length ≤ 55) (hts2 : ts.length < 100) (hr : ∀ h', Ext h h' → R (TV.bytes 32 (ofF ts)).val h') : CallsH Try.prog 46 (TVs.vals [.slice s]) h R := by
  apply sha_Of_calls
  unfold sha_Of_vc
  refine newTV_in fun h1 v1 x1 s1 => ?_
  refine first_spec fun h2 x2 => ⟨_, rfl, newTV_in fun h3 v3 x3 s3 => ?_⟩
  have z1 := x1.size
  have z2 := x2.size
  have st3 : St (fun i => h.size < i) h3 h2.size firstW Sl.nil [] 0 := ⟨v3, ⟨Own.nil _ _ _, (fun l hl => by cases hl), fun i hi => by omega⟩, by omega, fun l hl => by cases hl⟩
  have x13 : Ext h h3 := (x1.trans x2).trans x3
  have v13 : Var 26 h3 h.size (.bytes 32 (Bs.zero 32)) := (v1.ext x2).ext x3
  have far : ∀ hh, Only (fun i => h.size < i) h3 hh → Ext h hh := fun hh o => Only.cut x13 o fun i hi => by omega
  have hn : ts.length = s.len := by have := e.len; rwa [List.length_map] at this
  refine ⟨fun i hh => 0 ≤ i ∧ i ≤ s.len ∧ (∃ s', St (fun i => h.size < i) hh h2.size firstW s' (ts.take i.toNat).flatten (cntF (ts.take i.toNat) 0)) ∧ Only (fun i => h.size < i) h3 hh, fun i _ => ((s.len : Int) - i).toNat, ⟨Int.le_refl 0, by omega, ⟨Sl.nil, by simpa [cntF] using st3⟩, Only.refl _ _⟩, ?_⟩
  rintro i h4 ⟨i0, i1, ⟨s4, st4⟩, o4⟩
  refine If.dec.2 ⟨fun hi => ?_, fun hi => ?_⟩
  · refine (e.ext (far h4 o4)).read i0 (by omega) fun l t hla ht ha => ?_
    rw [List.getElem?_map] at ht
    obtain ⟨x, hx, rfl⟩ := Option.map_eq_some_iff.1 ht
    refine ⟨x, ha, ?_⟩
    have hts := take_snoc hx
    have hle := flatten_take_le ts (i.toNat + 1)
    rw [hts, List.flatten_append, List.length_append] at hle
    have hxl : ([x] : List (List UInt8)).flatten = x := by simp
    rw [hxl] at hle
    refine add_spec st4 (by omega) fun h5 s5 st5 f5 => ⟨rfl, ?_⟩
    rw [wrap_i64 (n := i + 1) (by omega) (by omega)]
    have hi1 : (i + 1).toNat = i.toNat + 1 := by omega
    refine ⟨⟨by omega, by omega, ⟨s5, ?_⟩, o4.trans f5⟩, by first | omega | (dsimp only; omega)⟩
    rw [hi1, hts, List.flatten_append, hxl, cntF_snoc]
    exact st5
  · have hi2 : i.toNat = ts.length := by omega
    rw [hi2, List.take_length] at st4
    refine end_spec take_takes st4 hl fun h5 f5 => ⟨_, rfl, ?_⟩
    have v5 : Var 26 h5 h.size (.bytes 32 (Bs.zero 32)) := (v13.only o4 (Nat.lt_irrefl _)).only f5 (Nat.lt_irrefl _)
    refine put_in v5 (t := .bytes 32 (ofF ts)) bsz fun h6 v6 o6 s6 => ⟨_, v6.bytes, ?_⟩
    exact hr h6 (Only.cut (far h5 (o4.trans f5)) o6 fun i hi => by omega)

/-! ### le.Put -/

def leF (n : Int) : Nat → List UInt8
  | 0 => []
  | k + 1 => UInt8.ofNat (IntKind.wrap .u8 n).toNat :: leF (Int.fdiv n (2 ^ min (Int.toNat 8) (IntKind.bits .u64))) k

def leN (n : Int) : Nat → Int
  | 0 => n
  | k + 1 => leN (Int.fdiv n (2 ^ min (Int.toNat 8) (IntKind.bits .u64))) k

theorem leN_succ : ∀ (k : Nat) (n : Int), leN n (k + 1) = Int.fdiv (leN n k) (2 ^ min (Int.toNat 8) (IntKind.bits .u64))
  | 0, _ => rfl
  | k + 1, _ => leN_succ k _

theorem leF_succ : ∀ (k : Nat) (n : Int), leF n (k + 1) = leF n k ++ [UInt8.ofNat (IntKind.wrap .u8 (leN n k)).toNat]
  | 0, _ => rfl
  | k + 1, n => by
    rw [leF, leF_succ k]
    rfl

theorem leF_length : ∀ (k : Nat) (n : Int), (leF n k).length = k
  | 0, _ => rfl
  | k + 1, n => by simp [leF, leF_length k]

theorem put_spec_le {Q : Nat → Prop} {s : Sl} {bs : List UInt8} {n : Int} {k : Nat} (r : Row Q h s bs) (hl : bs.length < 1000) (hk : k ≤ 8)
    (hr : ∀ h' s', Row Q h' s' (bs ++ leF n k) → Only Q h h' → R (TV.slice s').val h') : CallsH Try.prog 48 (TVs.vals [.slice s, .int .u64 n, .int .i64 (k : Int)]) h R := by
  apply le_Put_calls
  unfold le_Put_vc
  refine ⟨fun σ hh => 0 ≤ σ.2.2 ∧ σ.2.2 ≤ (k : Int) ∧ Row Q hh σ.1 (bs ++ leF n σ.2.2.toNat) ∧ σ.2.1 = leN n σ.2.2.toNat ∧ Only Q h hh, fun σ _ => ((k : Int) - σ.2.2).toNat, ⟨Int.le_refl 0, by dsimp only; omega, by simpa [leF] using r, rfl, Only.refl _ _⟩, ?_⟩
  rintro ⟨s1, n1, i⟩ h1 ⟨i0, i1, r1, e1, o1⟩
  dsimp only at i0 i1 r1 e1 ⊢
  have hm : mn (mx (k : Int) 0) 8 = (k : Int) := by rw [mx_eq, mn_eq]; omega
  rw [hm]
  refine If.dec.2 ⟨fun hi => ?_, fun hi => ?_⟩
  · have hw := wrap_u8_range n1
    have hll := leF_length i.toNat n
    refine app_byte r1 (by rw [List.length_append]; omega) hw.1 hw.2 fun s2 h2 r2 o2 b2 => ⟨by decide, ?_⟩
    rw [wrap_i64 (n := i + 1) (by omega) (by omega)]
    have hi1 : (i + 1).toNat = i.toNat + 1 := by omega
    refine ⟨⟨by omega, by omega, ?_, ?_, o1.trans (r1.cut o2)⟩, by first | omega | (dsimp only; omega)⟩
    · rw [hi1, leF_succ, ← List.append_assoc, ← e1]
      exact r2
    · rw [hi1, leN_succ, e1]
  · have hi2 : i.toNat = k := by omega
    rw [hi2] at r1
    exact hr h1 s1 r1 o1

theorem Row.str {Q : Nat → Prop} {s : Sl} {bs : List UInt8} (r : Row Q h s bs) : strAt h s bs := by
  have e := r.own.elems
  have hl := r.len
  refine ⟨hl, ?_⟩
  cases hs : s.a with
  | none =>
    have := e.nil hs
    refine .inl ⟨rfl, ?_⟩
    cases bs with
    | nil => rfl
    | cons b bs => cases this
  | some l =>
    refine .inr ⟨l, rfl, fun j hj => ?_⟩
    have := e.get l hs j (byTV bs[j]) (by rw [List.getElem?_map, List.getElem?_eq_getElem hj]; rfl)
    rw [Nat.mul_one] at this
    exact this

def board : List UInt8 := (ByteArray.mk #[(98 : UInt8), (111 : UInt8), (97 : UInt8), (114 : UInt8), (100 : UInt8)]).data.toList

/-- A validator's digest for a slot. -/
def lotF (slot who : Int) : Bs 32 := ofF [board, ([] ++ leF (IntKind.wrap .u64 slot) 4) ++ leF (IntKind.wrap .u64 who) 2]

theorem lot_spec {slot who : Int} (hr : ∀ h', Ext h h' → R (TV.bytes 32 (lotF slot who)).val h') : CallsH Try.prog 63 (TVs.vals [.int .i64 slot, .int .i64 who]) h R := by
  apply board_lot_calls
  unfold board_lot_vc
  refine newTV_in fun h1 v1 x1 s1 => ?_
  have r1 : Row (fun i => h.size < i) h1 Sl.nil [] := ⟨Own.nil _ _ _, (fun l hl => by cases hl), fun i hi => by omega⟩
  refine put_spec_le (k := 4) r1 (by decide) (by decide) fun h2 s2 r2 o2 => ⟨_, rfl, ?_⟩
  have l4 := leF_length 4 (IntKind.wrap .u64 slot)
  have l2 := leF_length 2 (IntKind.wrap .u64 who)
  refine put_spec_le (k := 2) r2 (by rw [List.length_append]; simp only [List.length_nil]; omega) (by decide) fun h3 s3 r3 o3 => ⟨_, rfl, _, r3.str, ?_⟩
  have o13 := o2.trans o3
  have x13 : Ext h h3 := Only.cut x1 o13 fun i hi => by omega
  have v3 : Var 26 h3 h.size (.bytes 32 (Bs.zero 32)) := v1.only o13 (Nat.lt_irrefl _)
  have xp := Ext.push h3 (row (TVs.cells [TV.str board, TV.str (([] ++ leF (IntKind.wrap .u64 slot) 4) ++ leF (IntKind.wrap .u64 who) 2)]) 9)
  refine of_spec (ts := [board, ([] ++ leF (IntKind.wrap .u64 slot) 4) ++ leF (IntKind.wrap .u64 who) 2]) ?_ ?_ (by simp) fun h4 x4 => ⟨_, rfl, ?_⟩
  · exact (Own.new (T := 9) (sz := 1) h3 [TV.str board, TV.str (([] ++ leF (IntKind.wrap .u64 slot) 4) ++ leF (IntKind.wrap .u64 who) 2)] (fun t ht => by
      simp only [List.mem_cons, List.not_mem_nil, or_false] at ht
      rcases ht with rfl | rfl <;> rfl)).elems
  · simp only [List.flatten_cons, List.flatten_nil, List.length_append, List.length_nil]
    have : board.length = 5 := by decide
    omega
  · refine put_in ((v3.ext xp).ext x4) (t := .bytes 32 (lotF slot who)) bsz fun h5 v5 o5 s5 => ⟨_, v5.bytes, ?_⟩
    exact hr h5 (Only.cut ((x13.trans xp).trans x4) o5 fun i hi => by omega)

/-! ### Which of two seats comes first -/

structure Seat where
  lot : Bs 32
  who : Int

def Seat.tv (s : Seat) : TV := .agg [.bytes 32 s.lot, .int .i64 s.who]

def befF (x y : Seat) : Int :=
  if Op.bytesLess x.lot.l y.lot.l = true then -1 else if Op.bytesLess y.lot.l x.lot.l = true then 1 else if x.who < y.who then -1 else if y.who < x.who then 1 else 0

theorem str_var {T : TypeId} {h : Heap} {b n c : Nat} {x : Bs n} (v : Var T h b (.bytes n x)) : strAt h ⟨some ⟨b, 0⟩, n, c⟩ x.l :=
  ⟨x.h, .inr ⟨_, rfl, fun j hj => by
    have := v.bytes j (by rw [← x.h]; exact hj)
    rw [this]
    simp [List.getD, hj]⟩⟩

theorem less_spec {a b : Bs 32} (hr : ∀ h', Ext h h' → R (TV.bool (Op.bytesLess a.l b.l)).val h') : CallsH Try.prog 71 (TVs.vals [.bytes 32 a, .bytes 32 b]) h R := by
  apply sha_Less_calls
  unfold sha_Less_vc
  refine newTV_in fun h1 v1 x1 s1 => newTV_in fun h2 v2 x2 s2 => ?_
  exact ⟨a.l, str_var (v1.ext x2), b.l, str_var v2, hr _ (x1.trans x2)⟩

theorem nan_spec {x : Int} (hr : R (TV.bool false).val h) : CallsH Try.prog 88 (TVs.vals [.int .i64 x]) h R := by
  apply cmp_isNaN_int__calls
  unfold cmp_isNaN_int__vc
  have : (!decide (x = x)) = false := by simp
  rw [this]
  exact hr

theorem cmp_spec {x y : Int} (hr : R (TV.int .i64 (if x < y then -1 else if y < x then 1 else 0)).val h) : CallsH Try.prog 72 (TVs.vals [.int .i64 x, .int .i64 y]) h R := by
  apply cmp_Compare_int__calls
  unfold cmp_Compare_int__vc
  refine nan_spec ⟨_, rfl, nan_spec ⟨_, rfl, ?_⟩⟩
  refine If.no (If.no (If.dec.2 ⟨fun h1 => ?_, fun h1 => If.dec.2 ⟨fun h2 => ?_, fun h2 => ?_⟩⟩))
  · rw [if_pos h1] at hr; exact hr
  · rw [if_neg h1, if_pos h2] at hr; exact hr
  · rw [if_neg h1, if_neg h2] at hr; exact hr

theorem before_spec {x y : Seat} (hr : ∀ h', Ext h h' → R (TV.int .i64 (befF x y)).val h') : CallsH Try.prog 65 (TVs.vals [x.tv, y.tv]) h R := by
  apply board_before_calls x.lot x.who y.lot y.who
  unfold board_before_vc
  refine newTV_in fun h1 v1 x1 s1 => newTV_in fun h2 v2 x2 s2 => ?_
  have v1' := v1.ext x2
  have x12 := x1.trans x2
  refine ⟨x.lot, v1'.at.1, y.lot, v2.at.1, less_spec fun h3 x3 => ⟨_, rfl, If.split (fun e => ?_) fun e => ?_⟩⟩
  · have := hr h3 (x12.trans x3)
    rwa [show befF x y = -1 from if_pos e] at this
  · have v13 := v1'.ext x3
    have v23 := v2.ext x3
    refine ⟨y.lot, v23.at.1, x.lot, v13.at.1, less_spec fun h4 x4 => ⟨_, rfl, If.split (fun e2 => ?_) fun e2 => ?_⟩⟩
    · have := hr h4 ((x12.trans x3).trans x4)
      rwa [show befF x y = 1 by unfold befF; rw [if_neg (by rw [e]; decide), if_pos e2]] at this
    · refine ⟨x.who, (v13.ext x4).at.2, y.who, (v23.ext x4).at.2, cmp_spec ⟨_, rfl, ?_⟩⟩
      have := hr h4 ((x12.trans x3).trans x4)
      rwa [show befF x y = if x.who < y.who then -1 else if y.who < x.who then 1 else 0 by unfold befF; rw [if_neg (by rw [e]; decide), if_neg (by rw [e2]; decide)]] at this

end
end Go.Proofs.Ytgdhddignbkloaa.Board
