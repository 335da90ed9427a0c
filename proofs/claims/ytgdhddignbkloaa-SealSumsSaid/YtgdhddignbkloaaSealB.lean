/- Messages as bytes: rows of bits, whether a message can be, its bytes, what one speaker's tag is of. -/
import Derived.Test.YtgdhddignbkloaaSealA
import Derived.Test.YtgdhddignbkloaaVsSealB
namespace Go.Proofs.Ytgdhddignbkloaa.Board
open Go Go.Vc
section
variable {R : Value → Heap → Prop} {h : Heap}

/-- A bit more in a byte. -/
def orv (c i : Int) : Int := IntKind.wrap .u8 ((BitVec.ofInt (IntKind.bits .u8) c ||| BitVec.ofInt (IntKind.bits .u8) (IntKind.wrap .u8 (1 * 2 ^ min (Int.toNat (Int.tmod i 8)) (IntKind.bits .u8)))).toNat : Int)
def bitS (acc : List UInt8) (i : Nat) : List UInt8 := acc.set (i / 8) (UInt8.ofNat (orv (by8 acc (i / 8)) (i : Int)).toNat)
def bitG (row : List Bool) : Nat → List UInt8
  | 0 => List.replicate (row.length / 8 + 1) 0
  | i + 1 => if row.getD i false = true then bitS (bitG row i) i else bitG row i
/-- A row of bits as bytes. -/
def bitF (row : List Bool) : List UInt8 := bitS (bitG row row.length) row.length

theorem bitG_length (row : List Bool) : ∀ i, (bitG row i).length = row.length / 8 + 1
  | 0 => by simp [bitG]
  | i + 1 => by
    unfold bitG
    split
    · simp [bitS, bitG_length row i]
    · exact bitG_length row i

theorem by8_right (bs g : List UInt8) (k : Nat) : by8 (bs ++ g) (bs.length + k) = by8 g k := by
  unfold by8
  rw [List.getD_eq_getElem?_getD, List.getD_eq_getElem?_getD, List.getElem?_append_right (by omega)]
  congr 4
  omega

/-- A byte of a row is written. -/
theorem Row.set {Q : Nat → Prop} {s : Sl} {bs : List UInt8} (r : Row Q h s bs) {i c : Int} (i0 : 0 ≤ i) (i1 : i < bs.length) (c0 : 0 ≤ c) (c1 : c < 256) {K : Heap → Prop}
    (hk : ∀ h', Row Q h' s (bs.set i.toNat (UInt8.ofNat c.toNat)) → Only Q h h' → K h') : 0 ≤ i ∧ i < (s.len : Int) ∧ Nn s.a fun l => wok h l.b (l.o + i.toNat * 1) 1 ∧ Bind ((TV.int .u8 c).put h l.b (l.o + i.toNat * 1)) K := by
  refine r.own.put_in (t := .int .u8 c) i0 (by rw [List.length_map]; exact i1) rfl rfl fun h1 o1 f1 s1 => hk h1 ⟨?_, r.far, fun j hj => r.new j (by omega)⟩ (r.cut f1)
  have e : byTV (UInt8.ofNat c.toNat) = TV.int .u8 c := by
    unfold byTV
    rw [UInt8.toNat_ofNat']
    congr 1
    omega
  have : bys (bs.set i.toNat (UInt8.ofNat c.toNat)) = (bys bs).set i.toNat (TV.int .u8 c) := by simp [bys, List.map_set, e]
  rw [this]
  exact o1

theorem bput_spec {Q : Nat → Prop} {s list : Sl} {bs : List UInt8} {row : List Bool} (r : Row Q h s bs) (hl : bs.length < 1000) (hn : row.length < 1000) (hlen : row.length = list.len) (e : ∀ h', Only Q h h' → Elems 1 h' list (bools row))
    (hr : ∀ h' s', Row Q h' s' (bs ++ bitF row) → Only Q h h' → R (TV.slice s').val h') : CallsH Try.prog 49 (TVs.vals [.slice s, .slice list]) h R := by
  apply bitlist_Put_calls
  unfold bitlist_Put_vc
  have rl := r.len
  have hq : Int.tdiv (list.len : Int) 8 = ((row.length / 8 : Nat) : Int) := by
    rw [Int.tdiv_eq_ediv_of_nonneg (by omega), ← hlen]
    rfl
  rw [hq, wrap_i64 (n := ((row.length / 8 : Nat) : Int)) (by omega) (by omega), wrap_i64 (n := ((row.length / 8 : Nat) : Int) + 1) (by omega) (by omega)]
  have hk1 : Int.toNat (((row.length / 8 : Nat) : Int) + 1) = row.length / 8 + 1 := by omega
  refine ⟨by decide, by omega, by omega, ?_⟩
  rw [hk1]
  have hrep : List.replicate (row.length / 8 + 1) (Value.int .u8 0) = (bitG row 0).map fun c => Value.int .u8 (c.toNat : Int) := by simp [bitG]
  rw [hrep, ← bitG_length row 0]
  refine app_bytes r (by rw [bitG_length]; omega) fun s1 h1 r1 f1 b1 => ?_
  have f1 := r.cut f1
  refine ⟨fun i hh => 0 ≤ i ∧ i ≤ row.length ∧ Row Q hh s1 (bs ++ bitG row i.toNat) ∧ Only Q h hh, fun i _ => ((row.length : Int) - i).toNat, ⟨Int.le_refl 0, by omega, r1, f1⟩, ?_⟩
  rintro i h2 ⟨i0, i1, r2, f2⟩
  have l2 := r2.len
  rw [List.length_append, bitG_length] at l2
  rw [wrap_i64 (n := i + 1) (by omega) (by omega)]
  refine If.dec.2 ⟨fun hi => ?_, fun hi => ?_⟩
  · refine read_bool (e h2 f2) i0 (by omega) fun x hx => ?_
    have hgd : row.getD i.toNat false = x := by rw [List.getD_eq_getElem?_getD, hx]; rfl
    have hi1 : (i + 1).toNat = i.toNat + 1 := by omega
    cases x with
    | false =>
      refine If.no ⟨⟨by omega, by omega, ?_, f2⟩, by first | omega | (dsimp only; omega)⟩
      rw [hi1]
      unfold bitG
      rw [hgd, if_neg (by decide)]
      exact r2
    | true =>
      have hqi : Int.tdiv i 8 = ((i.toNat / 8 : Nat) : Int) := by
        rw [Int.tdiv_eq_ediv_of_nonneg i0]
        omega
      have hmi : 0 ≤ Int.tmod i 8 := by rw [Int.tmod_eq_emod_of_nonneg i0]; omega
      rw [hqi, wrap_i64 (n := ((i.toNat / 8 : Nat) : Int)) (by omega) (by omega), wrap_i64 (n := (s.len : Int) + ((i.toNat / 8 : Nat) : Int)) (by omega) (by omega)]
      have hb : i.toNat / 8 < row.length / 8 + 1 := by omega
      have hat : Int.toNat ((s.len : Int) + ((i.toNat / 8 : Nat) : Int)) = bs.length + i.toNat / 8 := by omega
      refine If.yes ⟨by decide, byte_in (bs := bs ++ bitG row i.toNat) r2.own.elems (by omega) (by rw [List.length_append, bitG_length]; omega) ⟨by decide, hmi, ?_⟩⟩
      have hw : 0 ≤ orv (by8 (bs ++ bitG row i.toNat) (Int.toNat ((s.len : Int) + ((i.toNat / 8 : Nat) : Int)))) i ∧ orv (by8 (bs ++ bitG row i.toNat) (Int.toNat ((s.len : Int) + ((i.toNat / 8 : Nat) : Int)))) i < 256 := wrap_u8_range _
      refine r2.set (i := (s.len : Int) + ((i.toNat / 8 : Nat) : Int)) (c := orv (by8 (bs ++ bitG row i.toNat) (Int.toNat ((s.len : Int) + ((i.toNat / 8 : Nat) : Int)))) i) (by omega) (by rw [List.length_append, bitG_length]; omega) hw.1 hw.2 fun h3 r3 f3 => ?_
      refine ⟨⟨by omega, by omega, ?_, f2.trans f3⟩, by first | omega | (dsimp only; omega)⟩
      rw [hat, by8_right, List.set_append_right _ _ (by omega), show bs.length + i.toNat / 8 - bs.length = i.toNat / 8 by omega] at r3
      rw [hi1]
      unfold bitG
      rw [hgd, if_pos rfl, bitS, show ((i.toNat : Nat) : Int) = i by omega]
      exact r3
  · have hin : i.toNat = row.length := by omega
    rw [hin] at r2
    have hmi : 0 ≤ Int.tmod (list.len : Int) 8 := by rw [Int.tmod_eq_emod_of_nonneg (by omega)]; omega
    rw [wrap_i64 (n := (s1.len : Int) - 1) (by omega) (by omega)]
    have hat : Int.toNat ((s1.len : Int) - 1) = bs.length + row.length / 8 := by omega
    refine byte_in (bs := bs ++ bitG row row.length) r2.own.elems (by omega) (by rw [List.length_append, bitG_length]; omega) ⟨by decide, hmi, ?_⟩
    have hw : 0 ≤ orv (by8 (bs ++ bitG row row.length) (Int.toNat ((s1.len : Int) - 1))) (list.len : Int) ∧ orv (by8 (bs ++ bitG row row.length) (Int.toNat ((s1.len : Int) - 1))) (list.len : Int) < 256 := wrap_u8_range _
    refine r2.set (i := (s1.len : Int) - 1) (c := orv (by8 (bs ++ bitG row row.length) (Int.toNat ((s1.len : Int) - 1))) (list.len : Int)) (by omega) (by rw [List.length_append, bitG_length]; omega) hw.1 hw.2 fun h3 r3 f3 => ?_
    refine hr h3 s1 ?_ (f2.trans f3)
    rw [hat, by8_right, List.set_append_right _ _ (by omega), show bs.length + row.length / 8 - bs.length = row.length / 8 by omega, ← hlen] at r3
    exact r3

/-! ### Messages -/

structure Ms where
  kind : Int
  slot : Int
  target : Bs 32
  member : Int
  body : Int
  bits : Sl
  tag : Bs 16
def Ms.tv (m : Ms) : TV := .agg [.int .i64 m.kind, .int .i64 m.slot, .bytes 32 m.target, .int .i64 m.member, .int .u64 m.body, .slice m.bits, .bytes 16 m.tag]

def zeroM : Ms := ⟨0, 0, Bs.zero 32, 0, 0, Sl.nil, Bs.zero 16⟩

/-- A message is read. -/
theorem ms_at {m : Ms} {b : Nat} (v : Var 32 h b m.tv) {K : Int → Int → Bs 32 → Int → Int → Sl → Bs 16 → Prop} (hk : K m.kind m.slot m.target m.member m.body m.bits m.tag) :
    ∃ (n : Int), ∃ (n_1 : Int), ∃ (b_ : Bs 32), ∃ (n_2 : Int), ∃ (n_3 : Int), ∃ (s : Sl), ∃ (b_1 : Bs 16), (at1 h b 0 (.int .i64 n) ∧ at1 h b 1 (.int .i64 n_1) ∧ atBytes h b 2 32 b_ ∧ at1 h b 34 (.int .i64 n_2) ∧ at1 h b 35 (.int .u64 n_3) ∧ at1 h b 36 (slVal s) ∧ atBytes h b 37 16 b_1) ∧ K n n_1 b_ n_2 n_3 s b_1 :=
  ⟨m.kind, m.slot, m.target, m.member, m.body, m.bits, m.tag, v.at, hk⟩

theorem mssz {c d : Ms} : c.tv.size = d.tv.size := by simp only [Ms.tv, TV.size, TVs.size]
theorem mssz1 {c : Ms} : 53 = c.tv.size := by simp only [Ms.tv, TV.size, TVs.size]

/-- Can a message be? -/
def goodF (m : Ms) (row : List Bool) : Bool :=
  !(decide (m.slot < 0) || decide (1073741824 < m.slot) || decide (m.member < 0) || decide (65535 < m.member) || (!decide (m.kind = 1) && !decide (m.body = 0))) &&
    if m.kind = 3 then decide (m.member = 0) && (decide (row.length ≤ 16) && row.contains true) else (decide (m.kind = 1) || decide (m.kind = 2)) && decide (row.length = 0)

def bidx : List Bool → Int → Int
  | [], _ => -1
  | b :: bs, i => if b = true then i else bidx bs (i + 1)

theorem bidx_nonneg : ∀ (l : List Bool) (i : Int), 0 ≤ i → (decide (0 ≤ bidx l i) = l.contains true)
  | [], i, _ => by simp [bidx]
  | b :: bs, i, hi => by
    unfold bidx
    cases b with
    | true => rw [if_pos rfl]; simp [hi]
    | false => rw [if_neg (by decide), bidx_nonneg bs (i + 1) (by omega)]; simp

theorem bindex_spec {s : Sl} {l : List Bool} (e : Elems 1 h s (bools l)) (hl : l.length < 100000) (hr : R (TV.int .i64 (bidx l 0)).val h) : CallsH Try.prog 62 (TVs.vals [.slice s, .bool true]) h R := by
  apply slices_Index___bool_bool__calls
  unfold slices_Index___bool_bool__vc
  have el : l.length = s.len := by have := e.len; rwa [List.length_map] at this
  refine ⟨fun σ hh => 0 ≤ σ.2 ∧ σ.2 ≤ s.len ∧ hh = h ∧ bidx l 0 = bidx (l.drop σ.2.toNat) σ.2, fun σ _ => ((s.len : Int) - σ.2).toNat, ⟨Int.le_refl 0, by first | omega | (dsimp only; omega), rfl, rfl⟩, ?_⟩
  rintro ⟨f, i⟩ hh ⟨i0, i1, rfl, ht⟩
  dsimp only at i0 i1 ht ⊢
  refine If.dec.2 ⟨fun hi => ?_, fun hi => ?_⟩
  · refine read_bool e i0 (by omega) fun x hx => ?_
    rw [drop_get hx, bidx] at ht
    cases x with
    | true =>
      rw [if_pos rfl] at ht
      rw [ht] at hr
      exact If.yes hr
    | false =>
      rw [if_neg (by decide)] at ht
      rw [wrap_i64 (n := i + 1) (by omega) (by omega)]
      have hi1 : (i + 1).toNat = i.toNat + 1 := by omega
      refine If.no ⟨⟨by first | omega | (dsimp only; omega), by first | omega | (dsimp only; omega), rfl, ?_⟩, by first | omega | (dsimp only; omega)⟩
      try dsimp only
      rw [hi1]
      exact ht
  · have hi2 : l.drop i.toNat = [] := List.drop_eq_nil_of_le (by omega)
    rw [hi2, bidx] at ht
    rw [ht] at hr
    exact hr

theorem contains_spec {s : Sl} {l : List Bool} (e : Elems 1 h s (bools l)) (hl : l.length < 100000) (hr : R (TV.bool (l.contains true)).val h) : CallsH Try.prog 50 (TVs.vals [.slice s, .bool true]) h R := by
  apply slices_Contains___bool_bool__calls
  unfold slices_Contains___bool_bool__vc
  refine bindex_spec e hl ⟨_, rfl, ?_⟩
  rw [bidx_nonneg l 0 (Int.le_refl 0)]
  exact hr

theorem mgood_spec {m : Ms} {row : List Bool} (e : Elems 1 h m.bits (bools row)) (hl : row.length < 100000) (hr : ∀ h', Ext h h' → R (TV.bool (goodF m row)).val h') : CallsH Try.prog 30 (TVs.vals [m.tv]) h R := by
  apply wire_Good_calls m.kind m.slot m.target m.member m.body m.bits m.tag
  unfold wire_Good_vc
  have el : row.length = m.bits.len := by have := e.len; rwa [List.length_map] at this
  refine newTV_in fun h1 v1 x1 s1 => ?_
  have at0 := v1.at (t := m.tv)
  obtain ⟨a0, a1, a2, a3, a4, a5, a6⟩ := at0
  have hr1 := hr h1 x1
  intro J HJ
  have fin : ∀ b, m.slot ≥ 0 → m.slot ≤ 1073741824 → m.member ≥ 0 → m.member ≤ 65535 → (m.kind = 1 ∨ m.body = 0) → J b h1 := by
    intro b g1 g2 g3 g4 g5
    refine HJ b h1 ⟨_, a0, ?_⟩
    have hpre : (!(decide (m.slot < 0) || decide (1073741824 < m.slot) || decide (m.member < 0) || decide (65535 < m.member) || (!decide (m.kind = 1) && !decide (m.body = 0)))) = true := by
      rcases g5 with g5 | g5 <;> simp [g5] <;> omega
    unfold goodF at hr1
    rw [hpre, Bool.true_and] at hr1
    refine If.dec.2 ⟨fun k3 => ?_, fun k3 => ?_⟩
    · rw [if_pos k3] at hr1
      refine ⟨_, a3, If.dec.2 ⟨fun k4 => ⟨_, a5, If.dec.2 ⟨fun k5 => ⟨_, a5, ?_⟩, fun k5 => ?_⟩⟩, fun k4 => ?_⟩⟩
      · refine contains_spec (e.ext x1) hl ⟨_, rfl, ?_⟩
        rw [decide_eq_true k4, decide_eq_true (show row.length ≤ 16 by omega)] at hr1
        exact hr1
      · rw [decide_eq_true k4, decide_eq_false (show ¬ row.length ≤ 16 by omega)] at hr1
        exact hr1
      · rw [decide_eq_false k4] at hr1
        exact hr1
    · rw [if_neg k3, el] at hr1
      have hd : decide (((m.bits.len : Nat) : Int) = 0) = decide (m.bits.len = 0) := by
        by_cases h0 : m.bits.len = 0
        · rw [decide_eq_true h0, decide_eq_true (by omega)]
        · rw [decide_eq_false h0, decide_eq_false (by omega)]
      rw [← hd] at hr1
      refine ⟨_, a0, If.dec.2 ⟨fun k4 => ⟨_, a5, ?_⟩, fun k4 => ⟨_, a0, If.dec.2 ⟨fun k5 => ⟨_, a5, ?_⟩, fun k5 => ?_⟩⟩⟩⟩
      · rw [decide_eq_true k4] at hr1
        exact hr1
      · rw [decide_eq_false k4, decide_eq_true k5] at hr1
        exact hr1
      · rw [decide_eq_false k4, decide_eq_false k5] at hr1
        exact hr1
  have bad : (m.slot < 0 ∨ 1073741824 < m.slot ∨ m.member < 0 ∨ 65535 < m.member ∨ (m.kind ≠ 1 ∧ m.body ≠ 0)) → R (TV.bool false).val h1 := by
    intro hb
    have hpre : (!(decide (m.slot < 0) || decide (1073741824 < m.slot) || decide (m.member < 0) || decide (65535 < m.member) || (!decide (m.kind = 1) && !decide (m.body = 0)))) = false := by
      rcases hb with hb | hb | hb | hb | ⟨hb, hc⟩
      · simp [hb]
      · simp [hb]
      · simp [hb]
      · simp [hb]
      · simp [hb, hc]
    unfold goodF at hr1
    rw [hpre, Bool.false_and] at hr1
    exact hr1
  clear HJ
  refine ⟨_, a1, If.dec.2 ⟨fun g => bad (.inl g), fun g1 => ⟨_, a1, If.dec.2 ⟨fun g => bad (.inr (.inl g)), fun g2 => ⟨_, a3, If.dec.2 ⟨fun g => bad (.inr (.inr (.inl g))), fun g3 => ⟨_, a3, If.dec.2 ⟨fun g => bad (.inr (.inr (.inr (.inl g)))), fun g4 => ⟨_, a0, If.split (fun g5 => ⟨_, a4, If.split (fun g6 => ?_) fun g6 => ?_⟩) fun g5 => ?_⟩⟩⟩⟩⟩⟩⟩⟩⟩
  · exact bad (.inr (.inr (.inr (.inr ⟨by simpa using g5, by simpa using g6⟩))))
  · exact fin _ (by omega) (by omega) (by omega) (by omega) (.inr (by simpa using g6))
  · exact fin _ (by omega) (by omega) (by omega) (by omega) (.inl (by simpa using g5))

end
end Go.Proofs.Ytgdhddignbkloaa.Board
