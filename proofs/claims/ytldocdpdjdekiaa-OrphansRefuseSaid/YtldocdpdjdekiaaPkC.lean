/- Texts that the proof needs, joined: ShaG, VsLeR, LeB, BitA, VsBit, BitB, VsWireP, WireP, VsWireQ, WireQ, VsWireR, WireR, PoolA, VsPool, PoolB, PoolC, VcQ, Shelf, PoolD, PoolE, VsPoolT, PoolF, VsPoolR, PoolM, PoolN. -/
import Derived.Shelf.SlSortCmp.NoneTotal
import Derived.Ground.SlsfProg
import Derived.Test.YtldocdpdjdekiaaProg
import Derived.Test.YtldocdpdjdekiaaPkB

section
/- The program's digest of texts of any length. -/
namespace Go.Proofs.Ytldocdpdjdekiaa.Board
open Go Go.Vc

abbrev bcells (bs : List UInt8) : List Value := bs.map fun c => Value.int .u8 (c.toNat : Int)

theorem bcells_one (bs : List UInt8) : ∀ v ∈ bcells bs, isOne v = true := fun v hv => by
  obtain ⟨c, _, rfl⟩ := List.mem_map.1 hv
  rfl

/-- A row of bytes, not from its block's beginning maybe, in blocks of Q, as all blocks to come are. -/
structure Row2 (Q : Nat → Prop) (h : Heap) (s : Sl) (bs : List UInt8) : Prop where
  len : bs.length = s.len
  cap : s.len ≤ s.cap
  row : (s.a = none ∧ s.cap = 0) ∨ ∃ b pre rest, s.a = some ⟨b, pre.length⟩ ∧ h[b]? = some (Go.Vc.row (pre ++ bcells bs ++ rest) 5) ∧ s.cap - s.len ≤ rest.length
  far : ∀ l, s.a = some l → Q l.b
  new : ∀ i, h.size ≤ i → Q i

section
variable {R : Value → Heap → Prop} {h : Heap} {Q : Nat → Prop} {s : Sl} {bs : List UInt8}

theorem Row2.lt (r : Row2 Q h s bs) : ∀ l, s.a = some l → l.b < h.size := fun l hl => by
  rcases r.row with ⟨hn, _⟩ | ⟨b, pre, rest, ha, hb, _⟩
  · rw [hn] at hl; cases hl
  · rw [ha] at hl; cases hl
    exact row_lt hb

theorem Row2.only {S : Nat → Prop} {h' : Heap} (r : Row2 Q h s bs) (o : Only S h h') (hs : ∀ l, s.a = some l → ¬ S l.b) : Row2 Q h' s bs := by
  refine ⟨r.len, r.cap, ?_, r.far, fun i hi => r.new i (Nat.le_trans o.size hi)⟩
  rcases r.row with h1 | ⟨b, pre, rest, ha, hb, hc⟩
  · exact .inl h1
  · exact .inr ⟨b, pre, rest, ha, (o.same b (row_lt hb) (hs _ ha)).trans hb, hc⟩

theorem Row2.elems (r : Row2 Q h s bs) : Elems 1 h s (bys bs) := by
  refine ⟨by rw [List.length_map]; exact r.len, fun hn => ?_, fun l hl i t ht => ?_⟩
  · rcases r.row with ⟨_, hc⟩ | ⟨b, pre, rest, ha, _⟩
    · have := r.len
      have := r.cap
      have : bs = [] := List.eq_nil_of_length_eq_zero (by omega)
      rw [this]
      rfl
    · rw [ha] at hn; cases hn
  · rcases r.row with ⟨hn, _⟩ | ⟨b, pre, rest, ha, hb, _⟩
    · rw [hn] at hl; cases hl
    · rw [ha] at hl
      cases hl
      rw [List.getElem?_map] at ht
      obtain ⟨c, hc, rfl⟩ := Option.map_eq_some_iff.1 ht
      show at1 h b (pre.length + i * 1) (.int .u8 (c.toNat : Int))
      refine at1_row hb ?_
      have hi := (List.getElem?_eq_some_iff.1 hc).1
      rw [Nat.mul_one, List.append_assoc, List.getElem?_append_right (Nat.le_add_right _ _), Nat.add_sub_cancel_left, List.getElem?_append_left (by rw [List.length_map]; exact hi), List.getElem?_map, hc]
      rfl

theorem Row2.cut2 (r : Row2 Q h s bs) {h' : Heap} (o : Only (In s) h h') : Only Q h h' := o.mono fun i ⟨l, hl, e⟩ => by rw [← e]; exact r.far l hl

theorem app2 {us : List UInt8} {K : Sl → Heap → Prop} (r : Row2 Q h s bs) (hl : bs.length + us.length < 1000000)
    (hk : ∀ s' h', Row2 Q h' s' (bs ++ us) → Only (In s) h h' → (∀ l, s'.a = some l → (∃ l', s.a = some l' ∧ l'.b = l.b) ∨ h.size ≤ l.b) → K s' h') :
    vcAppend ctx 5 s us.length (bcells us) h K := by
  have rl := r.len
  have rc := r.cap
  have blen : (bcells bs).length = s.len := by rw [List.length_map]; exact rl
  have ulen : (bcells us).length = us.length := List.length_map ..
  have both : bcells (bs ++ us) = bcells bs ++ bcells us := List.map_append ..
  refine ⟨bcells bs, ?_, by rw [bytes5]; omega, by rw [bytes5]; decide, fun hroom => ?_, fun hroom hn => ?_, fun hroom c hc => ?_⟩
  · rw [size5]
    refine ⟨by rw [blen, Nat.mul_one], ?_⟩
    rcases r.row with ⟨hn, hc⟩ | ⟨b, pre, rest, ha, hb, _⟩
    · exact .inl ⟨by omega, hn⟩
    · refine .inr ⟨_, ha, fun j hj => ?_⟩
      show cel h b (pre.length + j) = _
      rw [List.getElem?_eq_getElem hj]
      refine at1_row hb ?_
      rw [List.append_assoc, List.getElem?_append_right (Nat.le_add_right _ _), Nat.add_sub_cancel_left, List.getElem?_append_left hj, List.getElem?_eq_getElem hj]
  · rcases r.row with ⟨hn, hc⟩ | ⟨b, pre, rest, ha, hb, hr⟩
    · exact ⟨.inl (by omega), fun l hl => by rw [hn] at hl; cases hl⟩
    · refine ⟨.inr (by rw [ha]; rfl), fun l hl => ?_⟩
      rw [ha] at hl
      cases hl
      rw [size5]
      show wok h b (pre.length + s.len * 1) (bcells us).length ∧ _
      rw [Nat.mul_one]
      have hfit : pre.length + s.len + (bcells us).length ≤ (pre ++ bcells bs ++ rest).length := by
        rw [List.length_append, List.length_append, blen, ulen]
        omega
      refine ⟨wok_row hb hfit, ?_⟩
      obtain ⟨g1, g2, g3⟩ := putl_get (bcells us) h b (pre.length + s.len) _ 5 hb hfit
      refine hk _ _ ⟨by rw [List.length_append]; show _ = s.len + us.length; omega, hroom, .inr ⟨b, pre, rest.drop us.length, rfl, ?_, ?_⟩, ?_, fun i hi => r.new i (by rw [g2] at hi; exact hi)⟩ ⟨by rw [g2]; exact Nat.le_refl _, fun b' hb' hn => g3 b' (fun hx => hn ⟨_, ha, hx.symm⟩)⟩ fun l hl => by
        cases hl
        exact .inl ⟨_, ha, rfl⟩
      · rw [g1, both]
        congr 2
        have e1 : pre.length + s.len = (pre ++ bcells bs).length := by rw [List.length_append, blen]
        rw [e1, List.take_left, ulen, List.drop_append, List.drop_eq_nil_of_le (by omega), List.nil_append, Nat.add_sub_cancel_left, ← List.append_assoc]
      · rw [List.length_drop]
        show s.cap - (s.len + us.length) ≤ _
        omega
      · intro l hl
        cases hl
        exact r.far _ ha
  · rcases r.row with ⟨_, hc⟩ | ⟨b, pre, rest, ha, _⟩
    · have hu : us = [] := List.eq_nil_of_length_eq_zero (by omega)
      have hb0 : bs = [] := List.eq_nil_of_length_eq_zero (by omega)
      subst hu hb0
      refine hk _ _ ⟨by simp; omega, by show s.len + 0 ≤ s.cap; omega, .inl ⟨rfl, hc⟩, (fun l hl => by cases hl), r.new⟩ (Only.refl _ _) (fun l hl => by cases hl)
    · rw [ha] at hn; cases hn
  · refine hk _ _ ⟨by rw [List.length_append]; show _ = s.len + us.length; omega, hc, .inr ⟨h.size, [], zeros (ctx.ti 5).z (c - (s.len + us.length)), rfl, ?_, ?_⟩, ?_, ?_⟩ (Only.of_ext (Ext.push _ _)) ?_
    · rw [push_get, both, List.nil_append]
    · rw [zeros_length, zsize5, Nat.mul_one]
      exact Nat.le_refl _
    · intro l hl
      cases hl
      exact r.new _ (Nat.le_refl _)
    · intro i hi
      rw [Array.size_push] at hi
      exact r.new i (by omega)
    · intro l hl
      cases hl
      exact .inr (Nat.le_refl _)

theorem app2_byte {c : Int} {K : Sl → Heap → Prop} (r : Row2 Q h s bs) (hl : bs.length < 900000) (c0 : 0 ≤ c) (c1 : c < 256)
    (hk : ∀ s' h', Row2 Q h' s' (bs ++ [UInt8.ofNat c.toNat]) → Only (In s) h h' → (∀ l, s'.a = some l → (∃ l', s.a = some l' ∧ l'.b = l.b) ∨ h.size ≤ l.b) → K s' h') :
    ∃ new, slAt (h.push (row (TVs.cells [TV.int .u8 c]) 5)) (Sl.mk (some (Vc.Loc.mk h.size 0)) 1 1) 1 new ∧ (∀ v ∈ new, isOne v = true) ∧ vcAppend ctx 5 s 1 new (h.push (row (TVs.cells [TV.int .u8 c]) 5)) K := by
  have e : ((UInt8.ofNat c.toNat).toNat : Int) = c := by
    rw [UInt8.toNat_ofNat']
    omega
  have xp := Ext.push h (row (TVs.cells [TV.int .u8 c]) 5)
  refine ⟨bcells [UInt8.ofNat c.toNat], ⟨rfl, .inr ⟨_, rfl, fun j hj => ?_⟩⟩, bcells_one _, ?_⟩
  · have hj0 : j = 0 := by simpa using hj
    subst hj0
    have := at1_row (o := 0) (push_get h (row (TVs.cells [TV.int .u8 c]) 5)) (v := Value.int .u8 c) rfl
    unfold at1 at this
    rw [this]
    show some (Value.int .u8 c) = some (Value.int .u8 ((UInt8.ofNat c.toNat).toNat : Int))
    rw [e]
  · have r' : Row2 Q (h.push (row (TVs.cells [TV.int .u8 c]) 5)) s bs := r.only (Only.of_ext xp (S := fun _ => False)) (fun _ _ hx => hx)
    refine app2 (us := [UInt8.ofNat c.toNat]) r' (by simp; omega) fun s' h' r2 o2 b2 => hk s' h' r2 ((Only.of_ext xp).trans o2) fun l hl => ?_
    rcases b2 l hl with h1 | h1
    · exact .inl h1
    · exact .inr (by have := xp.size; omega)

/-- What is left behind 64 bytes. -/
theorem Row2.after {h' : Heap} (r : Row2 Q h s bs) (h64 : 64 ≤ bs.length) (o : Only (fun i => ¬ In s i) h h') (hn : ∀ i, h'.size ≤ i → Q i) : Row2 Q h' (cutSl s 64 s.len 1) (bs.drop 64) := by
  have rl := r.len
  have rc := r.cap
  refine ⟨by simp only [cutSl, List.length_drop]; omega, by simp only [cutSl]; omega, ?_, fun l hl => ?_, hn⟩
  · rcases r.row with ⟨_, hc⟩ | ⟨b, pre, rest, ha, hb, hr⟩
    · omega
    · have hb' : h'[b]? = some (Go.Vc.row (pre ++ bcells bs ++ rest) 5) := (o.same b (row_lt hb) (fun hx => hx ⟨_, ha, rfl⟩)).trans hb
      by_cases hc : s.cap = 64
      · refine .inr ⟨b, pre, bcells bs ++ rest, by simp only [cutSl]; rw [if_pos hc, ha], ?_, by simp only [cutSl]; omega⟩
        have : bs.drop 64 = [] := List.drop_eq_nil_of_le (by omega)
        rw [this, hb']
        simp
      · refine .inr ⟨b, pre ++ bcells (bs.take 64), rest, ?_, ?_, by simp only [cutSl]; omega⟩
        · simp only [cutSl]
          rw [if_neg hc, ha, List.length_append, List.length_map, List.length_take, Nat.min_eq_left h64, Nat.mul_one]
          rfl
        · rw [hb']
          congr 2
          have : bcells bs = bcells (bs.take 64) ++ bcells (bs.drop 64) := by rw [← List.map_append, List.take_append_drop]
          rw [this]
          simp
  · obtain ⟨l', h1, h2⟩ := cut_block hl
    rw [← h2]
    exact r.far l' h1

theorem foldP_append (T U : List UInt8) (w : Ws 8) : ∀ k, 64 * k ≤ T.length → foldP (T ++ U) w k = foldP T w k
  | 0, _ => rfl
  | k + 1, hk => by
    rw [foldP, foldP, foldP_append T U w k (by omega), List.drop_append_of_le_length (by omega), List.take_append_of_le_length (by rw [List.length_drop]; omega)]

/-- The state, behind k blocks of a text. -/
structure St2 (Q : Nat → Prop) (h : Heap) (b : Nat) (T : List UInt8) (k : Nat) (N : Int) (s : Sl) : Prop where
  var : Var 209 h b (.agg [.words .u32 8 (foldP T firstW k), .slice s, .int .u64 N])
  row : Row2 Q h s (T.drop (64 * k))
  fit : 64 * k ≤ T.length
  far : Q b
  apart : ∀ l, s.a = some l → l.b ≠ b

variable {b k : Nat} {T : List UInt8} {N : Int}

theorem St2.words (st : St2 Q h b T k N s) : atWords h b 0 .u32 8 (foldP T firstW k) := st.var.at.1
theorem St2.rest (st : St2 Q h b T k N s) : at1 h b 8 (slVal s) := st.var.at.2.1
theorem St2.count (st : St2 Q h b T k N s) : at1 h b 9 (.int .u64 N) := st.var.at.2.2

theorem St2.grown {h1 : Heap} {s' : Sl} {U : List UInt8} (st : St2 Q h b T k N s) (r1 : Row2 Q h1 s' (T.drop (64 * k) ++ U)) (o1 : Only (In s) h h1) (b1 : ∀ l, s'.a = some l → (∃ l', s.a = some l' ∧ l'.b = l.b) ∨ h.size ≤ l.b) {K : Heap → Prop}
    (hk : ∀ h2, St2 Q h2 b (T ++ U) k N s' → Only Q h h2 → h2.size = h1.size → K h2) : wok h1 b 8 1 ∧ Bind ((TV.slice s').put h1 b 8) K := by
  have hne : ∀ l, s'.a = some l → l.b ≠ b := fun l hl e => by
    rcases b1 l hl with ⟨l', h9, h10⟩ | h9
    · exact st.apart l' h9 (h10.trans e)
    · have := st.var.lt; omega
  have v1 := st.var.only o1 (fun ⟨l, hl, e⟩ => st.apart l hl e)
  refine field_in (i := 1) (t0 := .slice s) v1 rfl rfl rfl rfl fun h2 v2 (o2 : Only (· = b) h1 h2) s2 => hk h2 ⟨?_, ?_, ?_, st.far, hne⟩ ((st.row.cut2 o1).trans (o2.mono fun i hi => by subst hi; exact st.far)) s2
  · rw [foldP_append T U firstW k st.fit]
    exact v2
  · rw [List.drop_append_of_le_length st.fit]
    exact r1.only o2 hne
  · rw [List.length_append]; have := st.fit; omega

/-- A block is taken in. -/
theorem St2.step (st : St2 Q h b T k N s) (h64 : 64 ≤ s.len)
    (hk : ∀ h2 h3, Var 209 h2 b (.agg [.words .u32 8 (foldP T firstW (k + 1)), .slice s, .int .u64 N]) → Only (· = b) h h2 → (∀ K : Heap → Prop, (∀ h4, St2 Q h4 b T (k + 1) N (cutSl s 64 s.len 1) → Only Q h h4 → K h4) → wok h2 b 8 1 ∧ Bind ((TV.slice (cutSl s 64 s.len 1)).put h2 b 8) K) → h3 = h2 → R (TV.tup []).val h2) :
    CallsH Try.prog 134 (TVs.vals [.ptr (some ⟨b, 0⟩), .slice (cutSl s 0 64 1)]) h R := by
  have rl := st.row.len
  rw [List.length_drop] at rl
  have ec := cut_elems (i := 0) (j := 64) st.row.elems (by omega) h64 st.row.cap
  rw [List.drop_zero, Nat.sub_zero, ← List.map_take] at ec
  have hfit := st.fit
  refine take_takes h R b (foldP T firstW k) s (cutSl s 0 64 1) ((T.drop (64 * k)).take 64) N st.var ec (by rw [List.length_take, List.length_drop]; omega) (fun l hl => by
    obtain ⟨l', h1, h2⟩ := cut_block hl
    rw [← h2]
    exact st.apart l' h1) fun h2 v2 o2 => ?_
  refine hk h2 h2 v2 o2 (fun K hK => ?_) rfl
  refine field_in (i := 1) (t0 := .slice s) v2 rfl rfl rfl rfl fun h4 v4 (o4 : Only (· = b) h2 h4) s4 => hK h4 ⟨v4, ?_, by omega, st.far, fun l hl => ?_⟩ ((o2.mono fun i hi => by subst hi; exact st.far).trans (o4.mono fun i hi => by subst hi; exact st.far))
  · have : T.drop (64 * (k + 1)) = (T.drop (64 * k)).drop 64 := by rw [List.drop_drop]; congr 1
    rw [this]
    refine st.row.after (by rw [List.length_drop]; omega) ((o2.trans o4).mono fun i hi => ?_) fun i hi => st.row.new i (by have := o2.size; omega)
    rintro ⟨l, hl, e⟩
    exact st.apart l hl (e.trans hi)
  · obtain ⟨l', h1, h2⟩ := cut_block hl
    rw [← h2]
    exact st.apart l' h1

/-- Bytes more. -/
theorem add2_spec (st : St2 Q h b T k (T.length : Int) s) {text : List UInt8} (hl : T.length + text.length < 800000)
    (hr : ∀ h' s' k', St2 Q h' b (T ++ text) k' ((T ++ text).length : Int) s' → s'.len < 64 → Only Q h h' → R (TV.tup []).val h') :
    CallsH Try.prog 120 (TVs.vals [.ptr (some ⟨b, 0⟩), .str text]) h R := by
  apply sha_state_add_calls
  unfold sha_state_add_vc
  refine ⟨_, st.count, ?_⟩
  have hN : IntKind.wrap .u64 ((T.length : Int) + IntKind.wrap .u64 (text.length : Int)) = ((T ++ text).length : Int) := by
    rw [wrap_u64_small (n := (text.length : Int)) (by omega) (by omega), wrap_u64_small (by omega) (by omega), List.length_append]
    omega
  rw [hN]
  refine field_in (i := 2) (t0 := .int .u64 (T.length : Int)) st.var rfl rfl rfl rfl fun h1 v1 (o1 : Only (· = b) h h1) s1 => ?_
  have st1 : St2 Q h1 b T k ((T ++ text).length : Int) s := ⟨v1, st.row.only o1 st.apart, st.fit, st.far, st.apart⟩
  have f1 : Only Q h h1 := o1.mono fun i hi => by subst hi; exact st.far
  have dl : (T.drop (64 * k)).length ≤ T.length := by rw [List.length_drop]; omega
  refine ⟨s, st1.rest, app2 st1.row (by omega) fun s' h2 r2 o2 b2 => st1.grown r2 o2 b2 fun h3 st3 f3 s3 => ?_⟩
  refine ⟨fun _ hh => ∃ s4 k4, St2 Q hh b (T ++ text) k4 ((T ++ text).length : Int) s4 ∧ Only Q h hh, fun _ hh => lenAt hh b, ⟨s', k, st3, f1.trans f3⟩, ?_⟩
  rintro _ h4 ⟨s4, k4, st4, f4⟩
  refine ⟨s4, st4.rest, If.dec.2 ⟨fun h64 => ?_, fun h64 => hr h4 s4 k4 st4 (by omega) f4⟩⟩
  have hc := st4.row.cap
  refine ⟨s4, st4.rest, by decide, by omega, ?_⟩
  refine st4.step (by omega) fun h5 _ v5 o5 hstep _ => ⟨rfl, s4, v5.at.2.1, by decide, by omega, hstep _ fun h6 st6 f6 => ?_⟩
  refine ⟨⟨_, _, st6, f4.trans f6⟩, ?_⟩
  have g1 := lenAt_of st4.rest
  have g2 := lenAt_of st6.rest
  simp only [cutSl] at g2
  dsimp only
  omega

def rlx (x : Int) : Nat → List UInt8
  | 0 => []
  | m + 1 => rlx x m ++ [UInt8.ofNat (IntKind.wrap .u8 (Int.fdiv x ((2 : Int) ^ min (Int.toNat (IntKind.wrap .u64 (IntKind.wrap .i64 (8 * (7 - (m : Int)))))) (IntKind.bits .u64)))).toNat]
def lnx (x : Int) : Nat → List UInt8
  | 0 => []
  | i + 1 => lnx x i ++ [UInt8.ofNat (IntKind.wrap .u8 (Int.fdiv x (2 ^ min (Int.toNat (IntKind.wrap .i64 (56 - IntKind.wrap .i64 (8 * (i : Int))))) (IntKind.bits .u64)))).toNat]
theorem rlx_eq (n : Int) : ∀ m, rlens n m = rlx (IntKind.wrap .u64 (IntKind.wrap .u64 n * 8)) m
  | 0 => rfl
  | m + 1 => by rw [rlens, rlx, rlx_eq n m]
theorem lnx_eq (n : Int) : ∀ m, lens n m = lnx (IntKind.wrap .u64 (n * 8)) m
  | 0 => rfl
  | m + 1 => by rw [lens, lnx, lnx_eq n m]; rfl
theorem rlx_lnx (x : Int) : rlx x 8 = lnx x 8 := by kernel_rfl

theorem lens_rlens (n : Int) (h0 : 0 ≤ n) (h1 : n < 18446744073709551616) : rlens n 8 = lens n 8 := by
  rw [rlx_eq, lnx_eq, wrap_u64_small h0 h1, rlx_lnx]

set_option maxRecDepth 100000 in
set_option maxHeartbeats 1000000 in
theorem end2_spec (st : St2 Q h b T k (T.length : Int) s) (hl : T.length < 700000) (hr : ∀ h', Only Q h h' → R (TV.bytes 32 (docF T)).val h') : CallsH Try.prog 121 (TVs.vals [.ptr (some ⟨b, 0⟩)]) h R := by
  apply sha_state_end_calls
  unfold sha_state_end_vc
  have blt := st.var.lt
  have slt := st.row.lt
  refine newTV_in fun h1 v1 x1 s1 => ?_
  have st1 : St2 (fun i => Q i ∧ i ≠ h.size) h1 b T k (T.length : Int) s := ⟨st.var.ext x1, ⟨st.row.len, st.row.cap, (st.row.only (Only.of_ext x1 (S := fun _ => False)) (fun _ _ hx => hx)).row, fun l hl' => ⟨st.row.far l hl', by have := slt l hl'; omega⟩, fun i hi => ⟨st.row.new i (by omega), by omega⟩⟩, st.fit, ⟨st.far, by omega⟩, st.apart⟩
  have f1 : Only Q h h1 := Only.of_ext x1
  have hfit := st.fit
  have rl0 := st.row.len
  rw [List.length_drop] at rl0
  refine ⟨_, st1.count, s, st1.rest, ?_⟩
  refine app2_byte st1.row (by rw [List.length_drop]; omega) (by decide) (by decide) fun s2 h2 r2 o2 b2 => ?_
  have e128 : UInt8.ofNat (Int.toNat 128) = 128 := by decide
  rw [e128] at r2
  refine st1.grown r2 o2 b2 fun h3 st3 f3 s3 => ?_
  have hpk : padK T.length < 64 := by unfold padK; omega
  have lj : ∀ j, ((T ++ [128]) ++ List.replicate j (0 : UInt8)).length = T.length + 1 + j := fun j => by simp; omega
  refine ⟨fun _ hh => ∃ s' j, St2 (fun i => Q i ∧ i ≠ h.size) hh b ((T ++ [128]) ++ List.replicate j 0) k (T.length : Int) s' ∧ j ≤ padK T.length ∧ Only (fun i => Q i ∧ i ≠ h.size) h1 hh, fun _ hh => T.length + 100 - lenAt hh b, ⟨s2, 0, by simpa using st3, Nat.zero_le _, f3⟩, ?_⟩
  rintro _ h4 ⟨s4, j, st4, hj, f4⟩
  have l4 := st4.row.len
  rw [List.length_drop, lj] at l4
  have hmod : Int.tmod (s4.len : Int) 64 = ((s4.len % 64 : Nat) : Int) := by
    rw [Int.tmod_eq_emod_of_nonneg (by omega)]
    rfl
  refine ⟨s4, st4.rest, by decide, ?_⟩
  rw [hmod]
  refine If.split (fun hne => ?_) (fun heq => ?_)
  · have hne' : ¬ s4.len % 64 = 56 := fun e => by rw [e] at hne; simp at hne
    have hjp : j < padK T.length := by
      rcases Nat.lt_or_ge j (padK T.length) with h9 | h9
      · exact h9
      · exfalso
        apply hne'
        have : j = padK T.length := by omega
        unfold padK at this
        omega
    refine ⟨s4, st4.rest, ?_⟩
    refine app2_byte st4.row (by rw [List.length_drop, lj]; omega) (by decide) (by decide) fun s5 h5 r5 o5 b5 => ?_
    refine st4.grown r5 o5 b5 fun h6 st6 f6 s6 => ?_
    have e0 : UInt8.ofNat (Int.toNat 0) = 0 := by decide
    have er : ((T ++ [128]) ++ List.replicate j 0) ++ [UInt8.ofNat (Int.toNat 0)] = (T ++ [128]) ++ List.replicate (j + 1) 0 := by
      rw [e0, List.append_assoc, List.replicate_succ']
    rw [er] at st6
    have l6 := st6.row.len
    rw [List.length_drop, lj] at l6
    refine ⟨⟨s5, j + 1, st6, by omega, f4.trans f6⟩, ?_⟩
    have g1 := lenAt_of st4.rest
    have g2 := lenAt_of st6.rest
    dsimp only
    omega
  have heq' : s4.len % 64 = 56 := by simp at heq; omega
  have hjp : j = padK T.length := by unfold padK at hj ⊢; omega
  subst hjp
  have hbase : padF T = ((T ++ [128]) ++ List.replicate (padK T.length) 0) ++ lens (T.length : Int) 8 := by
    unfold padF
    rw [lens_rlens _ (by omega) (by omega)]
  have hbl := lj (padK T.length)
  generalize (T ++ [128]) ++ List.replicate (padK T.length) (0 : UInt8) = base at *
  refine ⟨fun i hh => 0 ≤ i ∧ i ≤ 8 ∧ ∃ s', St2 (fun i => Q i ∧ i ≠ h.size) hh b (base ++ lens (T.length : Int) i.toNat) k (T.length : Int) s' ∧ Only (fun i => Q i ∧ i ≠ h.size) h1 hh, fun i _ => ((8 : Int) - i).toNat, ⟨Int.le_refl 0, by decide, s4, by simpa [lens] using st4, f4⟩, ?_⟩
  rintro i h5 ⟨i0, i1, s5, st5, f5⟩
  have l5 := st5.row.len
  rw [List.length_drop, List.length_append, lens_length, hbl] at l5
  refine If.dec.2 ⟨fun hi => ?_, fun hi => ?_⟩
  · refine ⟨s5, st5.rest, ?_, Ext.push _ _, ?_⟩
    · rw [wrap_i64 (n := 8 * i) (by omega) (by omega), wrap_i64 (by omega) (by omega)]
      omega
    refine app2_byte st5.row (by rw [List.length_drop, List.length_append, lens_length, hbl]; omega) (wrap_u8_range _).1 (wrap_u8_range _).2 fun s6 h6 r6 o6 b6 => ?_
    refine st5.grown r6 o6 b6 fun h7 st7 f7 s7 => ?_
    rw [wrap_i64 (n := i + 1) (by omega) (by omega)]
    have hi1 : (i + 1).toNat = i.toNat + 1 := by omega
    refine ⟨⟨by omega, by omega, s6, ?_, f5.trans f7⟩, by first | omega | (dsimp only; omega)⟩
    rw [hi1]
    unfold lens lenB
    rw [show ((i.toNat : Nat) : Int) = i by omega, ← List.append_assoc]
    exact st7
  have hi2 : i.toNat = 8 := by omega
  rw [hi2, ← hbase] at st5
  have hpm := padF_mod T
  have hdoc : docF T = outF (foldP (padF T) firstW ((padF T).length / 64)) 8 := rfl
  rw [hdoc] at hr
  generalize padF T = P at *
  refine ⟨fun _ hh => ∃ s' k', St2 (fun i => Q i ∧ i ≠ h.size) hh b P k' (T.length : Int) s' ∧ Only (fun i => Q i ∧ i ≠ h.size) h1 hh, fun _ hh => lenAt hh b, ⟨s5, k, st5, f5⟩, ?_⟩
  rintro _ h6 ⟨s6, k6, st6, f6⟩
  have l6 := st6.row.len
  have hfit6 := st6.fit
  rw [List.length_drop] at l6
  refine ⟨s6, st6.rest, If.dec.2 ⟨fun hpos => ?_, fun hz => ?_⟩⟩
  · have h64 : 64 ≤ s6.len := by omega
    have hc := st6.row.cap
    refine ⟨s6, st6.rest, by decide, by omega, ?_⟩
    refine st6.step h64 fun h7 _ v7 o7 hstep _ => ⟨rfl, s6, v7.at.2.1, by decide, by omega, hstep _ fun h8 st8 f8 => ?_⟩
    refine ⟨⟨_, _, st8, f6.trans f8⟩, ?_⟩
    have g1 := lenAt_of st6.rest
    have g2 := lenAt_of st8.rest
    simp only [cutSl] at g2
    dsimp only
    omega
  have hk6 : k6 = P.length / 64 := by omega
  refine newTV_in fun h7 v7 x7 s7 => ?_
  refine ⟨_, (st6.var.ext x7).at.1, ?_⟩
  rw [hk6]
  have f6s := f6.size
  refine ⟨fun i hh => 0 ≤ i ∧ i ≤ 8 ∧ Var 50 hh h6.size (.bytes 32 (outF (foldP P firstW (P.length / 64)) i.toNat)) ∧ Only (· = h6.size) h7 hh, fun i _ => ((8 : Int) - i).toNat, ⟨Int.le_refl 0, by decide, v7, Only.refl _ _⟩, ?_⟩
  rintro i h8 ⟨i0, i1, v8, o8⟩
  refine If.dec.2 ⟨fun hi => ?_, fun hi => ?_⟩
  · rw [wrap_i64 (n := 4 * i) (by omega) (by omega), wrap_i64 (n := 4 * i + 1) (by omega) (by omega), wrap_i64 (n := 4 * i + 2) (by omega) (by omega), wrap_i64 (n := 4 * i + 3) (by omega) (by omega), wrap_i64 (n := i + 1) (by omega) (by omega)]
    refine ⟨i0, by omega, by decide, by decide, by decide, by omega, by omega, put_byte v8 (i := 4 * i.toNat) (by omega) (by omega) (wrap_u8_range _).1 (wrap_u8_range _).2 fun h9 v9 o9 s9 => ?_⟩
    refine ⟨by omega, by omega, put_byte v9 (i := 4 * i.toNat + 1) (by omega) (by omega) (wrap_u8_range _).1 (wrap_u8_range _).2 fun h10 v10 o10 s10 => ?_⟩
    refine ⟨by omega, by omega, put_byte v10 (i := 4 * i.toNat + 2) (by omega) (by omega) (wrap_u8_range _).1 (wrap_u8_range _).2 fun h11 v11 o11 s11 => ?_⟩
    refine ⟨by omega, by omega, put_byte v11 (i := 4 * i.toNat + 3) (by omega) (by omega) (wrap_u8_range _).1 (wrap_u8_range _).2 fun h12 v12 o12 s12 => ?_⟩
    have hi1 : (i + 1).toNat = i.toNat + 1 := by omega
    refine ⟨⟨by omega, by omega, ?_, o8.trans (o9.trans (o10.trans (o11.trans o12)))⟩, by first | omega | (dsimp only; omega)⟩
    rw [hi1]
    unfold outF out1 ob
    exact v12
  · have hi3 : i.toNat = 8 := by omega
    rw [hi3] at v8
    have vr : Var 50 h8 h.size (.bytes 32 (Bs.zero 32)) := ((v1.only f6 (fun h9 => h9.2 rfl)).ext x7).only o8 (by omega)
    refine ⟨_, v8.bytes, put_in vr (t := .bytes 32 (outF (foldP P firstW (P.length / 64)) 8)) bsz fun h9 v9 o9 s9 => ⟨_, v9.bytes, ?_⟩⟩
    refine hr _ (f1.trans ((f6.mono fun i hi => hi.1).trans ((Only.of_ext x7).trans ((o8.mono fun i hi => ?_).trans (o9.mono fun i hi => ?_)))))
    · subst hi; exact st.row.new _ (by omega)
    · subst hi; exact st.row.new _ (Nat.le_refl _)

theorem of2_spec {s : Sl} {ts : List (List UInt8)} (e : Elems 1 h s (ts.map TV.str)) (hl : ts.flatten.length < 700000) (hts2 : ts.length < 100000) (hr : ∀ h', Ext h h' → R (TV.bytes 32 (docF ts.flatten)).val h') : CallsH Try.prog 91 (TVs.vals [.slice s]) h R := by
  apply sha_Of_calls
  unfold sha_Of_vc
  refine newTV_in fun h1 v1 x1 s1 => ?_
  refine first_spec fun h2 x2 => ⟨_, rfl, newTV_in fun h3 v3 x3 s3 => ?_⟩
  have z1 := x1.size
  have z2 := x2.size
  have st3 : St2 (fun i => h.size < i) h3 h2.size [] 0 0 Sl.nil := ⟨v3, ⟨rfl, Nat.le_refl _, .inl ⟨rfl, rfl⟩, (fun l hl => by cases hl), fun i hi => by omega⟩, Nat.le_refl _, by omega, fun l hl => by cases hl⟩
  have x13 : Ext h h3 := (x1.trans x2).trans x3
  have v13 : Var 50 h3 h.size (.bytes 32 (Bs.zero 32)) := (v1.ext x2).ext x3
  have far : ∀ hh, Only (fun i => h.size < i) h3 hh → Ext h hh := fun hh o => Only.cut x13 o fun i hi => by omega
  have hn : ts.length = s.len := by have := e.len; rwa [List.length_map] at this
  refine ⟨fun i hh => 0 ≤ i ∧ i ≤ s.len ∧ (∃ s' k, St2 (fun i => h.size < i) hh h2.size (ts.take i.toNat).flatten k ((ts.take i.toNat).flatten.length : Int) s') ∧ Only (fun i => h.size < i) h3 hh, fun i _ => ((s.len : Int) - i).toNat, ⟨Int.le_refl 0, by omega, ⟨Sl.nil, 0, st3⟩, Only.refl _ _⟩, ?_⟩
  rintro i h4 ⟨i0, i1, ⟨s4, k4, st4⟩, o4⟩
  refine If.dec.2 ⟨fun hi => ?_, fun hi => ?_⟩
  · refine (e.ext (far h4 o4)).read i0 (by omega) fun l t hla ht ha => ?_
    rw [List.getElem?_map] at ht
    obtain ⟨x, hx, rfl⟩ := Option.map_eq_some_iff.1 ht
    refine ⟨x, ha, ?_⟩
    have hts := take_snoc hx
    have hle := flatten_take_le ts (i.toNat + 1)
    rw [hts, List.flatten_append, List.length_append] at hle
    have hxl : ([x] : List (List UInt8)).flatten = x := by simp
    rw [hxl] at hle
    refine add2_spec st4 (by omega) fun h5 s5 k5 st5 _ f5 => ⟨rfl, ?_⟩
    rw [wrap_i64 (n := i + 1) (by omega) (by omega)]
    have hi1 : (i + 1).toNat = i.toNat + 1 := by omega
    refine ⟨⟨by omega, by omega, ⟨s5, k5, ?_⟩, o4.trans f5⟩, by first | omega | (dsimp only; omega)⟩
    rw [hi1, hts, List.flatten_append, hxl]
    exact st5
  · have hi2 : i.toNat = ts.length := by omega
    rw [hi2, List.take_length] at st4
    refine end2_spec st4 hl fun h5 f5 => ⟨_, rfl, ?_⟩
    have v5 : Var 50 h5 h.size (.bytes 32 (Bs.zero 32)) := (v13.only o4 (Nat.lt_irrefl _)).only f5 (Nat.lt_irrefl _)
    refine put_in v5 (t := .bytes 32 (docF ts.flatten)) bsz fun h6 v6 o6 s6 => ⟨_, v6.bytes, ?_⟩
    exact hr h6 (Only.cut (far h5 (o4.trans f5)) o6 fun i hi => by omega)

end
end Go.Proofs.Ytldocdpdjdekiaa.Board
end

section
/- The conditions of functions, as the generator reckons them out, each with the proof that it is that. -/
namespace Go.Proofs.Ytldocdpdjdekiaa
open Go Go.Vc
set_option maxRecDepth 100000
set_option linter.unusedVariables false

def tollerref01_Put_vc (n : Int) (width : Int) (h : Heap) (R : Value → Heap → Prop) : Prop :=
 If (decide (width ≤ (0 : Int))) (R (TV.val (TV.str (ByteArray.mk #[]).data.toList)) h)
 ((256 : Int) ≠ (0 : Int) ∧
 (256 : Int) ≠ (0 : Int) ∧
 (Ext h (Array.push h (row (TVs.cells [TV.int IntKind.u8 (IntKind.wrap IntKind.u8 (Int.tmod n (256 : Int)))]) (5 : Nat))) ∧
 ∃ (bs : List UInt8),
 strAt (Array.mk (List.concat h.toList (row (TVs.cells [TV.int IntKind.u8 (IntKind.wrap IntKind.u8 (Int.tmod n (256 : Int)))]) (5 : Nat))))
 (Sl.mk (some (Loc.mk (Array.size h) (0 : Nat))) (1 : Nat) (1 : Nat)) bs ∧
 CallsH Try.prog (124 : Nat)
 (TVs.vals
 [TV.int IntKind.u64 (IntKind.wrap IntKind.u64 (Int.tdiv n (256 : Int))),
 TV.int IntKind.i64 (IntKind.wrap IntKind.i64 (mn width (8 : Int) - (1 : Int)))])
 (Array.push h (row (TVs.cells [TV.int IntKind.u8 (IntKind.wrap IntKind.u8 (Int.tmod n (256 : Int)))]) (5 : Nat)))
 fun (v : Value) (h_1 : Array Obj) ↦
 ∃ (s : List UInt8),
 v = TV.val (TV.str s) ∧
 Ext (Array.push h (row (TVs.cells [TV.int IntKind.u8 (IntKind.wrap IntKind.u8 (Int.tmod n (256 : Int)))]) (5 : Nat))) h_1 ∧
 (↑(List.length bs + List.length s) : Int) ≤ (9223372036854775807 : Int) ∧ R (TV.val (TV.str (bs ++ s))) h_1) ∧
 CallsH Try.prog (124 : Nat)
 (TVs.vals
 [TV.int IntKind.u64 (IntKind.wrap IntKind.u64 (Int.tdiv n (256 : Int))),
 TV.int IntKind.i64 (IntKind.wrap IntKind.i64 (mn width (8 : Int) - (1 : Int)))])
 h fun (v : Value) (h_1 : Heap) ↦
 ∃ (s : List UInt8),
 v = TV.val (TV.str s) ∧
 Ext h h_1 ∧
 Ext h_1 (Array.push h_1 (row (TVs.cells [TV.int IntKind.u8 (IntKind.wrap IntKind.u8 (Int.tmod n (256 : Int)))]) (5 : Nat))) ∧
 ∃ (bs : List UInt8),
 strAt (Array.mk (List.concat h_1.toList (row (TVs.cells [TV.int IntKind.u8 (IntKind.wrap IntKind.u8 (Int.tmod n (256 : Int)))]) (5 : Nat))))
 (Sl.mk (some (Loc.mk (Array.size h_1) (0 : Nat))) (1 : Nat) (1 : Nat)) bs ∧
 (↑(List.length bs + List.length s) : Int) ≤ (9223372036854775807 : Int) ∧
 R (TV.val (TV.str (bs ++ s)))
 (Array.push h_1 (row (TVs.cells [TV.int IntKind.u8 (IntKind.wrap IntKind.u8 (Int.tmod n (256 : Int)))]) (5 : Nat))))

theorem tollerref01_Put_calls (n : Int) (width : Int) (h : Heap) (R : Value → Heap → Prop) (H : tollerref01_Put_vc n width h R) : CallsH Try.prog 124 (TVs.vals [TV.int IntKind.u64 n, TV.int IntKind.i64 width]) h R :=
 vcFn_sound (C := ctx) ctx_ok (fn := Try.f124) Try.func124 ((by kernel_rfl : tollerref01_Put_vc n width h R = vcFn ctx Try.f124 [TV.int IntKind.u64 n, TV.int IntKind.i64 width] h R) ▸ H)


end Go.Proofs.Ytldocdpdjdekiaa
end

section
/- The document's lots, and the choice of the least one by one. -/
namespace Go.Proofs.Ytldocdpdjdekiaa.Board
open Go Go.Vc
set_option maxRecDepth 100000

/-! ### A number's bytes -/

def leR (n : Int) : Nat → List UInt8
  | 0 => []
  | k + 1 => UInt8.ofNat (IntKind.wrap .u8 (Int.tmod n 256)).toNat :: leR (IntKind.wrap .u64 (Int.tdiv n 256)) k

theorem leR_length : ∀ (k : Nat) (n : Int), (leR n k).length = k
  | 0, _ => rfl
  | k + 1, n => by simp [leR, leR_length k]

theorem leR_eq : ∀ (k : Nat) (n : Int), 0 ≤ n → n < 18446744073709551616 → leR n k = leF n k
  | 0, _, _, _ => rfl
  | k + 1, n, h0, h1 => by
    have e1 : Int.tmod n 256 = n % 256 := Int.tmod_eq_emod_of_nonneg h0
    have e2 : Int.tdiv n 256 = n / 256 := Int.tdiv_eq_ediv_of_nonneg h0
    have e3 : Int.fdiv n ((2 : Int) ^ min (Int.toNat 8) (IntKind.bits .u64)) = n / 256 := by
      show Int.fdiv n 256 = n / 256
      exact Int.fdiv_eq_ediv_of_nonneg n (by decide)
    rw [leR, leF, e1, e2, e3, wrap_u64_small (n := n / 256) (by omega) (by omega), leR_eq k (n / 256) (by omega) (by omega), wrap_u8, wrap_u8]
    congr 3
    omega

section
variable {R : Value → Heap → Prop} {h : Heap}

theorem docput_spec : ∀ (k : Nat) (n : Int) (h : Heap) (R : Value → Heap → Prop), k ≤ 8 → (∀ h', Ext h h' → R (TV.str (leR n k)).val h') → CallsH Try.prog 124 (TVs.vals [.int .u64 n, .int .i64 (k : Int)]) h R
  | 0, n, h, R, _, hr => by
    apply tollerref01_Put_calls
    unfold tollerref01_Put_vc
    exact If.dec.2 ⟨fun _ => hr h (Ext.refl _), fun hn => absurd (by decide) hn⟩
  | k + 1, n, h, R, hk, hr => by
    apply tollerref01_Put_calls
    unfold tollerref01_Put_vc
    refine If.dec.2 ⟨fun hn => by omega, fun _ => ⟨by decide, by decide, ?_⟩⟩
    have hm : IntKind.wrap .i64 (mn ((k + 1 : Nat) : Int) 8 - 1) = (k : Int) := by
      rw [mn_eq, wrap_i64 (by omega) (by omega)]
      omega
    rw [hm]
    have hw := wrap_u8_range (Int.tmod n 256)
    have hl := leR_length k (IntKind.wrap .u64 (Int.tdiv n 256))
    refine ⟨⟨Ext.push _ _, _, str1 hw.1 hw.2, docput_spec k _ _ _ (by omega) fun h1 x1 => ⟨_, rfl, x1, ?_, ?_⟩⟩, docput_spec k _ _ _ (by omega) fun h1 x1 => ⟨_, rfl, x1, Ext.push _ _, _, str1 hw.1 hw.2, ?_, ?_⟩⟩
    · rw [hl, List.length_singleton]; omega
    · exact hr h1 ((Ext.push _ _).trans x1)
    · rw [hl, List.length_singleton]; omega
    · exact hr _ (x1.trans (Ext.push _ _))


theorem wrap_u64_range (n : Int) : 0 ≤ IntKind.wrap .u64 n ∧ IntKind.wrap .u64 n < 18446744073709551616 := by
  have : IntKind.wrap .u64 n = n % 18446744073709551616 := by
    unfold IntKind.wrap
    show (if (false && _) = true then _ else n % 2 ^ 64) = n % 18446744073709551616
    simp
  rw [this]
  omega

end

/-! ### The least of those that are left -/

end Go.Proofs.Ytldocdpdjdekiaa.Board
end

section
/- Tags: a key as 64 bytes, the tag of texts by a key, tags joined. -/
namespace Go.Proofs.Ytldocdpdjdekiaa.Board
open Go Go.Vc

def getB {n : Nat} (b : Bs n) (i : Nat) : UInt8 := b.l.getD i 0

/-- A row of bytes that is filled from the beginning on. -/
def fillB {n : Nat} (f : Nat → UInt8) (b : Bs n) : Nat → Bs n
  | 0 => b
  | i + 1 => (fillB f b i).set i (f i)

theorem fillB_get {n : Nat} (f : Nat → UInt8) (b : Bs n) : ∀ (k j : Nat), k ≤ n → getB (fillB f b k) j = if j < k then f j else getB b j
  | 0, j, _ => by simp [fillB]
  | k + 1, j, hk => by
    have ih := fillB_get f b k j (by omega)
    unfold getB at ih ⊢
    simp only [fillB, Bs.set, List.getD_eq_getElem?_getD, List.getElem?_set] at ih ⊢
    by_cases hj : k = j
    · subst hj
      rw [if_pos rfl, if_pos (by rw [(fillB f b k).h]; omega), if_pos (Nat.lt_succ_self k)]
      rfl
    · rw [if_neg hj, ih]
      by_cases h1 : j < k
      · rw [if_pos h1, if_pos (by omega)]
      · rw [if_neg h1, if_neg (by omega)]

theorem fillB_l {n : Nat} (f : Nat → UInt8) (b : Bs n) : (fillB f b n).l = (List.range n).map f := by
  apply List.ext_getElem (by rw [(fillB f b n).h]; simp)
  intro j h1 h2
  have hj : j < n := by rw [← (fillB f b n).h]; exact h1
  have := fillB_get f b n j (Nat.le_refl n)
  rw [if_pos hj] at this
  unfold getB at this
  rw [List.getD_eq_getElem?_getD, List.getElem?_eq_getElem h1] at this
  simpa using this

theorem byte_at {T : TypeId} {h : Heap} {b n : Nat} {x : Bs n} (v : Var T h b (.bytes n x)) {i : Nat} (hi : i < n) : at1 h b (0 + i * 1) (.int .u8 ((getB x i).toNat : Int)) := by
  refine v.at1 ?_
  simp only [TV.cells, Nat.mul_one, Nat.zero_add]
  exact getElem?_toBytes x i hi

theorem Bs.get_ext {n : Nat} {a b : Bs n} (h : ∀ j, j < n → getB a j = getB b j) : a = b := by
  apply Bs.ext'
  apply List.ext_getElem (by rw [a.h, b.h])
  intro j h1 h2
  have hj : j < n := by rw [← a.h]; exact h1
  have := h j hj
  unfold getB at this
  rw [List.getD_eq_getElem?_getD, List.getD_eq_getElem?_getD, List.getElem?_eq_getElem h1, List.getElem?_eq_getElem h2] at this
  simpa using this

theorem bind_in {x : Heap} {K : Heap → Prop} (h : K x) : Bind x K := h

section
variable {R : Value → Heap → Prop} {h : Heap}

/-! ### The tag of texts by a key -/

theorem strs_elems {T : TypeId} (h : Heap) (ts : List (List UInt8)) : Elems 1 (h.push (row (TVs.cells (ts.map TV.str)) T)) ⟨some ⟨h.size, 0⟩, ts.length, ts.length⟩ (ts.map TV.str) := by
  have := (Own.new (T := T) (sz := 1) h (ts.map TV.str) (fun t ht => by
    obtain ⟨u, _, rfl⟩ := List.mem_map.1 ht
    rfl)).elems
  simpa using this

theorem bytes9 : (ctx.ti 9).bytes = 16 := by kernel_rfl
theorem size9 : (ctx.ti 9).size = 1 := by kernel_rfl
theorem zsize9 : (ctx.ti 9).z.size = 1 := by kernel_rfl

/-! ### Tags joined -/

end
end Go.Proofs.Ytldocdpdjdekiaa.Board
end

section
/- The conditions of functions, as the generator reckons them out, each with the proof that it is that. -/
namespace Go.Proofs.Ytldocdpdjdekiaa
open Go Go.Vc
set_option maxRecDepth 100000
set_option linter.unusedVariables false

def bitlist_Put_vc (b : Sl) (list : Sl) (h : Heap) (R : Value → Heap → Prop) : Prop :=
 (8 : Int) ≠ (0 : Int) ∧
 (0 : Int) ≤ IntKind.wrap IntKind.i64 (IntKind.wrap IntKind.i64 (Int.tdiv (↑list.len : Int) (8 : Int)) + (1 : Int)) ∧
 IntKind.wrap IntKind.i64 (IntKind.wrap IntKind.i64 (Int.tdiv (↑list.len : Int) (8 : Int)) + (1 : Int)) * (↑(1 : Nat) : Int) ≤ (70368744177664 : Int) ∧
 vcAppend Ytldocdpdjdekiaa.ctx (5 : Nat) b
 (Int.toNat (IntKind.wrap IntKind.i64 (IntKind.wrap IntKind.i64 (Int.tdiv (↑list.len : Int) (8 : Int)) + (1 : Int))))
 (List.replicate (Int.toNat (IntKind.wrap IntKind.i64 (IntKind.wrap IntKind.i64 (Int.tdiv (↑list.len : Int) (8 : Int)) + (1 : Int))))
 (Value.int IntKind.u8 (0 : Int)))
 h fun (s : Sl) (h : Heap) ↦
 Go.Vc.Loop (0 : Int) h fun (s_1 : Int) (h : Array Obj) (K : Int → Array Obj → Prop) ↦
 If (decide (s_1 < (↑list.len : Int)))
 ((0 : Int) ≤ s_1 ∧
 s_1 < (↑list.len : Int) ∧
 Nn list.a fun (l : Go.Vc.Loc) ↦
 ∃ (b_1 : Bool),
 at1 h l.b (l.o + Int.toNat s_1 * (1 : Nat)) (Value.bool b_1) ∧
 If b_1
 ((8 : Int) ≠ (0 : Int) ∧
 (0 : Int) ≤ IntKind.wrap IntKind.i64 ((↑b.len : Int) + IntKind.wrap IntKind.i64 (Int.tdiv s_1 (8 : Int))) ∧
 IntKind.wrap IntKind.i64 ((↑b.len : Int) + IntKind.wrap IntKind.i64 (Int.tdiv s_1 (8 : Int))) < (↑s.len : Int) ∧
 Nn s.a fun (l : Go.Vc.Loc) ↦
 ∃ (n : Int),
 at1 h l.b
 (l.o +
 Int.toNat (IntKind.wrap IntKind.i64 ((↑b.len : Int) + IntKind.wrap IntKind.i64 (Int.tdiv s_1 (8 : Int)))) * (1 : Nat))
 (Value.int IntKind.u8 n) ∧
 (8 : Int) ≠ (0 : Int) ∧
 (0 : Int) ≤ Int.tmod s_1 (8 : Int) ∧
 (0 : Int) ≤ IntKind.wrap IntKind.i64 ((↑b.len : Int) + IntKind.wrap IntKind.i64 (Int.tdiv s_1 (8 : Int))) ∧
 IntKind.wrap IntKind.i64 ((↑b.len : Int) + IntKind.wrap IntKind.i64 (Int.tdiv s_1 (8 : Int))) < (↑s.len : Int) ∧
 Nn s.a fun (l : Go.Vc.Loc) ↦
 wok h l.b
 (l.o +
 Int.toNat (IntKind.wrap IntKind.i64 ((↑b.len : Int) + IntKind.wrap IntKind.i64 (Int.tdiv s_1 (8 : Int)))) *
 (1 : Nat))
 (1 : Nat) ∧
 Vc.Bind
 (TV.put h l.b
 (l.o +
 Int.toNat
 (IntKind.wrap IntKind.i64 ((↑b.len : Int) + IntKind.wrap IntKind.i64 (Int.tdiv s_1 (8 : Int)))) *
 (1 : Nat))
 (TV.int IntKind.u8
 (IntKind.wrap IntKind.u8
 (↑(BitVec.toNat
 (BitVec.ofInt (IntKind.bits IntKind.u8) n |||
 BitVec.ofInt (IntKind.bits IntKind.u8)
 (IntKind.wrap IntKind.u8
 ((1 : Int) *
 (2 : Int) ^ min (Int.toNat (Int.tmod s_1 (8 : Int))) (IntKind.bits IntKind.u8))))) :
 Int))))
 fun (h : Array Obj) ↦ K (IntKind.wrap IntKind.i64 (s_1 + (1 : Int))) h)
 (K (IntKind.wrap IntKind.i64 (s_1 + (1 : Int))) h))
 ((0 : Int) ≤ IntKind.wrap IntKind.i64 ((↑s.len : Int) - (1 : Int)) ∧
 IntKind.wrap IntKind.i64 ((↑s.len : Int) - (1 : Int)) < (↑s.len : Int) ∧
 Nn s.a fun (l : Go.Vc.Loc) ↦
 ∃ (n : Int),
 at1 h l.b (l.o + Int.toNat (IntKind.wrap IntKind.i64 ((↑s.len : Int) - (1 : Int))) * (1 : Nat)) (Value.int IntKind.u8 n) ∧
 (8 : Int) ≠ (0 : Int) ∧
 (0 : Int) ≤ Int.tmod (↑list.len : Int) (8 : Int) ∧
 (0 : Int) ≤ IntKind.wrap IntKind.i64 ((↑s.len : Int) - (1 : Int)) ∧
 IntKind.wrap IntKind.i64 ((↑s.len : Int) - (1 : Int)) < (↑s.len : Int) ∧
 Nn s.a fun (l : Go.Vc.Loc) ↦
 wok h l.b (l.o + Int.toNat (IntKind.wrap IntKind.i64 ((↑s.len : Int) - (1 : Int))) * (1 : Nat)) (1 : Nat) ∧
 Vc.Bind
 (TV.put h l.b (l.o + Int.toNat (IntKind.wrap IntKind.i64 ((↑s.len : Int) - (1 : Int))) * (1 : Nat))
 (TV.int IntKind.u8
 (IntKind.wrap IntKind.u8
 (↑(BitVec.toNat
 (BitVec.ofInt (IntKind.bits IntKind.u8) n |||
 BitVec.ofInt (IntKind.bits IntKind.u8)
 (IntKind.wrap IntKind.u8
 ((1 : Int) *
 (2 : Int) ^ min (Int.toNat (Int.tmod (↑list.len : Int) (8 : Int))) (IntKind.bits IntKind.u8))))) :
 Int))))
 fun (h : Array Obj) ↦ R (TV.val (TV.slice s)) h)

theorem bitlist_Put_calls (b : Sl) (list : Sl) (h : Heap) (R : Value → Heap → Prop) (H : bitlist_Put_vc b list h R) : CallsH Try.prog 123 (TVs.vals [TV.slice b, TV.slice list]) h R :=
 vcFn_sound (C := ctx) ctx_ok (fn := Try.f123) Try.func123 ((by kernel_rfl : bitlist_Put_vc b list h R = vcFn ctx Try.f123 [TV.slice b, TV.slice list] h R) ▸ H)


def slices_Index___bool_bool__vc (s_ : Sl) (v_ : Bool) (h : Heap) (R : Value → Heap → Prop) : Prop :=
 Go.Vc.Loop ((0 : Int), (0 : Int)) h fun (s : Int × Int) (h : Array Obj) (K : Int × Int → Array Obj → Prop) ↦
 If (decide (s.snd < (↑s_.len : Int)))
 ((0 : Int) ≤ s.snd ∧
 s.snd < (↑s_.len : Int) ∧
 Nn s_.a fun (l : Go.Vc.Loc) ↦
 ∃ (b : Bool),
 at1 h l.b (l.o + Int.toNat s.snd * (1 : Nat)) (Value.bool b) ∧
 If (v_ == b) (R (TV.val (TV.int IntKind.i64 s.snd)) h) (K (s.fst, IntKind.wrap IntKind.i64 (s.snd + (1 : Int))) h))
 (R (TV.val (TV.int IntKind.i64 (-1 : Int))) h)

theorem slices_Index___bool_bool__calls (s_ : Sl) (v_ : Bool) (h : Heap) (R : Value → Heap → Prop) (H : slices_Index___bool_bool__vc s_ v_ h R) : CallsH Try.prog 109 (TVs.vals [TV.slice s_, TV.bool v_]) h R :=
 vcFn_sound (C := ctx) ctx_ok (fn := Try.f109) Try.func109 ((by kernel_rfl : slices_Index___bool_bool__vc s_ v_ h R = vcFn ctx Try.f109 [TV.slice s_, TV.bool v_] h R) ▸ H)


def slices_Contains___bool_bool__vc (s_ : Sl) (v_ : Bool) (h : Heap) (R : Value → Heap → Prop) : Prop :=
 CallsH Try.prog (109 : Nat) (TVs.vals [TV.slice s_, TV.bool v_]) h fun (v : Value) (h : Heap) ↦
 ∃ (n : Int), v = TV.val (TV.int IntKind.i64 n) ∧ R (TV.val (TV.bool (decide ((0 : Int) ≤ n)))) h

theorem slices_Contains___bool_bool__calls (s_ : Sl) (v_ : Bool) (h : Heap) (R : Value → Heap → Prop) (H : slices_Contains___bool_bool__vc s_ v_ h R) : CallsH Try.prog 74 (TVs.vals [TV.slice s_, TV.bool v_]) h R :=
 vcFn_sound (C := ctx) ctx_ok (fn := Try.f74) Try.func74 ((by kernel_rfl : slices_Contains___bool_bool__vc s_ v_ h R = vcFn ctx Try.f74 [TV.slice s_, TV.bool v_] h R) ▸ H)


def wire_Good_vc (m_Kind : Int) (m_Slot : Int) (m_Target : Bs (32 : Nat)) (m_Member : Int) (m_Body : Int) (m_Bits : Sl) (m_Tag : Bs (16 : Nat)) (h : Heap) (R : Value → Heap → Prop) : Prop :=
 Vc.Bind
 (newTV h
 (TV.agg
 [TV.int IntKind.i64 m_Kind, TV.int IntKind.i64 m_Slot, TV.bytes (32 : Nat) m_Target, TV.int IntKind.i64 m_Member, TV.int IntKind.u64 m_Body,
 TV.slice m_Bits, TV.bytes (16 : Nat) m_Tag])
 (63 : Nat))
 fun (h_1 : Array Obj) ↦
 Join
 (fun (s : Bool) (h_2 : Array Obj) ↦
 ∃ (n : Int),
 at1 h_2 (Array.size h) (0 : Nat) (Value.int IntKind.i64 n) ∧
 If (decide (n = (3 : Int)))
 (∃ (n : Int),
 at1 h_2 (Array.size h) (34 : Nat) (Value.int IntKind.i64 n) ∧
 If (decide (n = (0 : Int)))
 (∃ (s : Sl),
 at1 h_2 (Array.size h) (36 : Nat) (slVal s) ∧
 If (decide ((↑s.len : Int) ≤ (16 : Int)))
 (∃ (s : Sl),
 at1 h_2 (Array.size h) (36 : Nat) (slVal s) ∧
 CallsH Try.prog (74 : Nat) (TVs.vals [TV.slice s, TV.bool true]) h_2 fun (v : Value) (h : Array Obj) ↦
 ∃ (b : Bool), v = TV.val (TV.bool b) ∧ R (TV.val (TV.bool b)) h)
 (R (TV.val (TV.bool false)) h_2))
 (R (TV.val (TV.bool false)) h_2))
 (∃ (n : Int),
 at1 h_2 (Array.size h) (0 : Nat) (Value.int IntKind.i64 n) ∧
 If (decide (n = (1 : Int)))
 (∃ (s : Sl), at1 h_2 (Array.size h) (36 : Nat) (slVal s) ∧ R (TV.val (TV.bool (decide ((↑s.len : Int) = (0 : Int))))) h_2)
 (∃ (n : Int),
 at1 h_2 (Array.size h) (0 : Nat) (Value.int IntKind.i64 n) ∧
 If (decide (n = (2 : Int)))
 (∃ (s : Sl), at1 h_2 (Array.size h) (36 : Nat) (slVal s) ∧ R (TV.val (TV.bool (decide ((↑s.len : Int) = (0 : Int))))) h_2)
 (R (TV.val (TV.bool false)) h_2))))
 fun (J : Bool → Array Obj → Prop) ↦
 ∃ (n : Int),
 at1 h_1 (Array.size h) (1 : Nat) (Value.int IntKind.i64 n) ∧
 If (decide (n < (0 : Int))) (R (TV.val (TV.bool false)) h_1)
 (∃ (n : Int),
 at1 h_1 (Array.size h) (1 : Nat) (Value.int IntKind.i64 n) ∧
 If (decide ((1073741824 : Int) < n)) (R (TV.val (TV.bool false)) h_1)
 (∃ (n : Int),
 at1 h_1 (Array.size h) (34 : Nat) (Value.int IntKind.i64 n) ∧
 If (decide (n < (0 : Int))) (R (TV.val (TV.bool false)) h_1)
 (∃ (n : Int),
 at1 h_1 (Array.size h) (34 : Nat) (Value.int IntKind.i64 n) ∧
 If (decide ((65535 : Int) < n)) (R (TV.val (TV.bool false)) h_1)
 (∃ (n : Int),
 at1 h_1 (Array.size h) (0 : Nat) (Value.int IntKind.i64 n) ∧
 If (!decide (n = (1 : Int)))
 (∃ (n : Int),
 at1 h_1 (Array.size h) (35 : Nat) (Value.int IntKind.u64 n) ∧
 If (!decide (n = (0 : Int))) (R (TV.val (TV.bool false)) h_1) (J false h_1))
 (J false h_1)))))

theorem wire_Good_calls (m_Kind : Int) (m_Slot : Int) (m_Target : Bs (32 : Nat)) (m_Member : Int) (m_Body : Int) (m_Bits : Sl) (m_Tag : Bs (16 : Nat)) (h : Heap) (R : Value → Heap → Prop) (H : wire_Good_vc m_Kind m_Slot m_Target m_Member m_Body m_Bits m_Tag h R) : CallsH Try.prog 85 (TVs.vals [TV.agg [TV.int IntKind.i64 m_Kind, TV.int IntKind.i64 m_Slot, TV.bytes (32 : Nat) m_Target, TV.int IntKind.i64 m_Member, TV.int IntKind.u64 m_Body, TV.slice m_Bits, TV.bytes (16 : Nat) m_Tag]]) h R :=
 vcFn_sound (C := ctx) ctx_ok (fn := Try.f85) Try.func85 ((by kernel_rfl : wire_Good_vc m_Kind m_Slot m_Target m_Member m_Body m_Bits m_Tag h R = vcFn ctx Try.f85 [TV.agg [TV.int IntKind.i64 m_Kind, TV.int IntKind.i64 m_Slot, TV.bytes (32 : Nat) m_Target, TV.int IntKind.i64 m_Member, TV.int IntKind.u64 m_Body, TV.slice m_Bits, TV.bytes (16 : Nat) m_Tag]] h R) ▸ H)


end Go.Proofs.Ytldocdpdjdekiaa
end

section
/- Messages as bytes: rows of bits, whether a message can be, its bytes, what one speaker's tag is of. -/
namespace Go.Proofs.Ytldocdpdjdekiaa.Board
open Go Go.Vc
section
variable {R : Value → Heap → Prop} {h : Heap}

/-- A bit more in a byte. -/
def orv (c i : Int) : Int := IntKind.wrap .u8 ((BitVec.ofInt (IntKind.bits .u8) c ||| BitVec.ofInt (IntKind.bits .u8) (IntKind.wrap .u8 (1 * 2 ^ min (Int.toNat (Int.tmod i 8)) (IntKind.bits .u8)))).toNat : Int)
def bitS (acc : List UInt8) (i : Nat) : List UInt8 := acc.set (i / 8) (UInt8.ofNat (orv (by8 acc (i / 8)) (i : Int)).toNat)
def bitG (row : List Bool) : Nat → List UInt8
  | 0 => List.replicate (row.length / 8 + 1) 0
  | i + 1 => if row.getD i false = true then bitS (bitG row i) i else bitG row i
/-- A row of bits as bytes. -/
def bitF (row : List Bool) : List UInt8 := bitS (bitG row row.length) row.length

theorem bitG_length (row : List Bool) : ∀ i, (bitG row i).length = row.length / 8 + 1
  | 0 => by simp [bitG]
  | i + 1 => by
    unfold bitG
    split
    · simp [bitS, bitG_length row i]
    · exact bitG_length row i

theorem by8_right (bs g : List UInt8) (k : Nat) : by8 (bs ++ g) (bs.length + k) = by8 g k := by
  unfold by8
  rw [List.getD_eq_getElem?_getD, List.getD_eq_getElem?_getD, List.getElem?_append_right (by omega)]
  congr 4
  omega

/-- A byte of a row is written. -/
theorem Row.set {Q : Nat → Prop} {s : Sl} {bs : List UInt8} (r : Row Q h s bs) {i c : Int} (i0 : 0 ≤ i) (i1 : i < bs.length) (c0 : 0 ≤ c) (c1 : c < 256) {K : Heap → Prop}
    (hk : ∀ h', Row Q h' s (bs.set i.toNat (UInt8.ofNat c.toNat)) → Only Q h h' → K h') : 0 ≤ i ∧ i < (s.len : Int) ∧ Nn s.a fun l => wok h l.b (l.o + i.toNat * 1) 1 ∧ Bind ((TV.int .u8 c).put h l.b (l.o + i.toNat * 1)) K := by
  refine r.own.put_in (t := .int .u8 c) i0 (by rw [List.length_map]; exact i1) rfl rfl fun h1 o1 f1 s1 => hk h1 ⟨?_, r.far, fun j hj => r.new j (by omega)⟩ (r.cut f1)
  have e : byTV (UInt8.ofNat c.toNat) = TV.int .u8 c := by
    unfold byTV
    rw [UInt8.toNat_ofNat']
    congr 1
    omega
  have : bys (bs.set i.toNat (UInt8.ofNat c.toNat)) = (bys bs).set i.toNat (TV.int .u8 c) := by simp [bys, List.map_set, e]
  rw [this]
  exact o1

theorem bput_spec {Q : Nat → Prop} {s list : Sl} {bs : List UInt8} {row : List Bool} (r : Row Q h s bs) (hl : bs.length < 1000) (hn : row.length < 1000) (hlen : row.length = list.len) (e : ∀ h', Only Q h h' → Elems 1 h' list (bools row))
    (hr : ∀ h' s', Row Q h' s' (bs ++ bitF row) → Only Q h h' → R (TV.slice s').val h') : CallsH Try.prog 123 (TVs.vals [.slice s, .slice list]) h R := by
  apply bitlist_Put_calls
  unfold bitlist_Put_vc
  have rl := r.len
  have hq : Int.tdiv (list.len : Int) 8 = ((row.length / 8 : Nat) : Int) := by
    rw [Int.tdiv_eq_ediv_of_nonneg (by omega), ← hlen]
    rfl
  rw [hq, wrap_i64 (n := ((row.length / 8 : Nat) : Int)) (by omega) (by omega), wrap_i64 (n := ((row.length / 8 : Nat) : Int) + 1) (by omega) (by omega)]
  have hk1 : Int.toNat (((row.length / 8 : Nat) : Int) + 1) = row.length / 8 + 1 := by omega
  refine ⟨by decide, by omega, by omega, ?_⟩
  rw [hk1]
  have hrep : List.replicate (row.length / 8 + 1) (Value.int .u8 0) = (bitG row 0).map fun c => Value.int .u8 (c.toNat : Int) := by simp [bitG]
  rw [hrep, ← bitG_length row 0]
  refine app_bytes r (by rw [bitG_length]; omega) fun s1 h1 r1 f1 b1 => ?_
  have f1 := r.cut f1
  refine ⟨fun i hh => 0 ≤ i ∧ i ≤ row.length ∧ Row Q hh s1 (bs ++ bitG row i.toNat) ∧ Only Q h hh, fun i _ => ((row.length : Int) - i).toNat, ⟨Int.le_refl 0, by omega, r1, f1⟩, ?_⟩
  rintro i h2 ⟨i0, i1, r2, f2⟩
  have l2 := r2.len
  rw [List.length_append, bitG_length] at l2
  rw [wrap_i64 (n := i + 1) (by omega) (by omega)]
  refine If.dec.2 ⟨fun hi => ?_, fun hi => ?_⟩
  · refine read_bool (e h2 f2) i0 (by omega) fun x hx => ?_
    have hgd : row.getD i.toNat false = x := by rw [List.getD_eq_getElem?_getD, hx]; rfl
    have hi1 : (i + 1).toNat = i.toNat + 1 := by omega
    cases x with
    | false =>
      refine If.no ⟨⟨by omega, by omega, ?_, f2⟩, by first | omega | (dsimp only; omega)⟩
      rw [hi1]
      unfold bitG
      rw [hgd, if_neg (by decide)]
      exact r2
    | true =>
      have hqi : Int.tdiv i 8 = ((i.toNat / 8 : Nat) : Int) := by
        rw [Int.tdiv_eq_ediv_of_nonneg i0]
        omega
      have hmi : 0 ≤ Int.tmod i 8 := by rw [Int.tmod_eq_emod_of_nonneg i0]; omega
      rw [hqi, wrap_i64 (n := ((i.toNat / 8 : Nat) : Int)) (by omega) (by omega), wrap_i64 (n := (s.len : Int) + ((i.toNat / 8 : Nat) : Int)) (by omega) (by omega)]
      have hb : i.toNat / 8 < row.length / 8 + 1 := by omega
      have hat : Int.toNat ((s.len : Int) + ((i.toNat / 8 : Nat) : Int)) = bs.length + i.toNat / 8 := by omega
      refine If.yes ⟨by decide, byte_in (bs := bs ++ bitG row i.toNat) r2.own.elems (by omega) (by rw [List.length_append, bitG_length]; omega) ⟨by decide, hmi, ?_⟩⟩
      have hw : 0 ≤ orv (by8 (bs ++ bitG row i.toNat) (Int.toNat ((s.len : Int) + ((i.toNat / 8 : Nat) : Int)))) i ∧ orv (by8 (bs ++ bitG row i.toNat) (Int.toNat ((s.len : Int) + ((i.toNat / 8 : Nat) : Int)))) i < 256 := wrap_u8_range _
      refine r2.set (i := (s.len : Int) + ((i.toNat / 8 : Nat) : Int)) (c := orv (by8 (bs ++ bitG row i.toNat) (Int.toNat ((s.len : Int) + ((i.toNat / 8 : Nat) : Int)))) i) (by omega) (by rw [List.length_append, bitG_length]; omega) hw.1 hw.2 fun h3 r3 f3 => ?_
      refine ⟨⟨by omega, by omega, ?_, f2.trans f3⟩, by first | omega | (dsimp only; omega)⟩
      rw [hat, by8_right, List.set_append_right _ _ (by omega), show bs.length + i.toNat / 8 - bs.length = i.toNat / 8 by omega] at r3
      rw [hi1]
      unfold bitG
      rw [hgd, if_pos rfl, bitS, show ((i.toNat : Nat) : Int) = i by omega]
      exact r3
  · have hin : i.toNat = row.length := by omega
    rw [hin] at r2
    have hmi : 0 ≤ Int.tmod (list.len : Int) 8 := by rw [Int.tmod_eq_emod_of_nonneg (by omega)]; omega
    rw [wrap_i64 (n := (s1.len : Int) - 1) (by omega) (by omega)]
    have hat : Int.toNat ((s1.len : Int) - 1) = bs.length + row.length / 8 := by omega
    refine byte_in (bs := bs ++ bitG row row.length) r2.own.elems (by omega) (by rw [List.length_append, bitG_length]; omega) ⟨by decide, hmi, ?_⟩
    have hw : 0 ≤ orv (by8 (bs ++ bitG row row.length) (Int.toNat ((s1.len : Int) - 1))) (list.len : Int) ∧ orv (by8 (bs ++ bitG row row.length) (Int.toNat ((s1.len : Int) - 1))) (list.len : Int) < 256 := wrap_u8_range _
    refine r2.set (i := (s1.len : Int) - 1) (c := orv (by8 (bs ++ bitG row row.length) (Int.toNat ((s1.len : Int) - 1))) (list.len : Int)) (by omega) (by rw [List.length_append, bitG_length]; omega) hw.1 hw.2 fun h3 r3 f3 => ?_
    refine hr h3 s1 ?_ (f2.trans f3)
    rw [hat, by8_right, List.set_append_right _ _ (by omega), show bs.length + row.length / 8 - bs.length = row.length / 8 by omega, ← hlen] at r3
    exact r3

/-! ### Messages -/

structure Ms where
  kind : Int
  slot : Int
  target : Bs 32
  member : Int
  body : Int
  bits : Sl
  tag : Bs 16
def Ms.tv (m : Ms) : TV := .agg [.int .i64 m.kind, .int .i64 m.slot, .bytes 32 m.target, .int .i64 m.member, .int .u64 m.body, .slice m.bits, .bytes 16 m.tag]

def zeroM : Ms := ⟨0, 0, Bs.zero 32, 0, 0, Sl.nil, Bs.zero 16⟩

/-- A message is read. -/
theorem ms_at {m : Ms} {b : Nat} (v : Var 63 h b m.tv) {K : Int → Int → Bs 32 → Int → Int → Sl → Bs 16 → Prop} (hk : K m.kind m.slot m.target m.member m.body m.bits m.tag) :
    ∃ (n : Int), ∃ (n_1 : Int), ∃ (b_ : Bs 32), ∃ (n_2 : Int), ∃ (n_3 : Int), ∃ (s : Sl), ∃ (b_1 : Bs 16), (at1 h b 0 (.int .i64 n) ∧ at1 h b 1 (.int .i64 n_1) ∧ atBytes h b 2 32 b_ ∧ at1 h b 34 (.int .i64 n_2) ∧ at1 h b 35 (.int .u64 n_3) ∧ at1 h b 36 (slVal s) ∧ atBytes h b 37 16 b_1) ∧ K n n_1 b_ n_2 n_3 s b_1 :=
  ⟨m.kind, m.slot, m.target, m.member, m.body, m.bits, m.tag, v.at, hk⟩

theorem mssz {c d : Ms} : c.tv.size = d.tv.size := by simp only [Ms.tv, TV.size, TVs.size]
theorem mssz1 {c : Ms} : 53 = c.tv.size := by simp only [Ms.tv, TV.size, TVs.size]

/-- Can a message be? -/
def goodF (m : Ms) (row : List Bool) : Bool :=
  !(decide (m.slot < 0) || decide (1073741824 < m.slot) || decide (m.member < 0) || decide (65535 < m.member) || (!decide (m.kind = 1) && !decide (m.body = 0))) &&
    if m.kind = 3 then decide (m.member = 0) && (decide (row.length ≤ 16) && row.contains true) else (decide (m.kind = 1) || decide (m.kind = 2)) && decide (row.length = 0)

def bidx : List Bool → Int → Int
  | [], _ => -1
  | b :: bs, i => if b = true then i else bidx bs (i + 1)

theorem bidx_nonneg : ∀ (l : List Bool) (i : Int), 0 ≤ i → (decide (0 ≤ bidx l i) = l.contains true)
  | [], i, _ => by simp [bidx]
  | b :: bs, i, hi => by
    unfold bidx
    cases b with
    | true => rw [if_pos rfl]; simp [hi]
    | false => rw [if_neg (by decide), bidx_nonneg bs (i + 1) (by omega)]; simp

theorem bindex_spec {s : Sl} {l : List Bool} (e : Elems 1 h s (bools l)) (hl : l.length < 100000) (hr : R (TV.int .i64 (bidx l 0)).val h) : CallsH Try.prog 109 (TVs.vals [.slice s, .bool true]) h R := by
  apply slices_Index___bool_bool__calls
  unfold slices_Index___bool_bool__vc
  have el : l.length = s.len := by have := e.len; rwa [List.length_map] at this
  refine ⟨fun σ hh => 0 ≤ σ.2 ∧ σ.2 ≤ s.len ∧ hh = h ∧ bidx l 0 = bidx (l.drop σ.2.toNat) σ.2, fun σ _ => ((s.len : Int) - σ.2).toNat, ⟨Int.le_refl 0, by first | omega | (dsimp only; omega), rfl, rfl⟩, ?_⟩
  rintro ⟨f, i⟩ hh ⟨i0, i1, rfl, ht⟩
  dsimp only at i0 i1 ht ⊢
  refine If.dec.2 ⟨fun hi => ?_, fun hi => ?_⟩
  · refine read_bool e i0 (by omega) fun x hx => ?_
    rw [drop_get hx, bidx] at ht
    cases x with
    | true =>
      rw [if_pos rfl] at ht
      rw [ht] at hr
      exact If.yes hr
    | false =>
      rw [if_neg (by decide)] at ht
      rw [wrap_i64 (n := i + 1) (by omega) (by omega)]
      have hi1 : (i + 1).toNat = i.toNat + 1 := by omega
      refine If.no ⟨⟨by first | omega | (dsimp only; omega), by first | omega | (dsimp only; omega), rfl, ?_⟩, by first | omega | (dsimp only; omega)⟩
      try dsimp only
      rw [hi1]
      exact ht
  · have hi2 : l.drop i.toNat = [] := List.drop_eq_nil_of_le (by omega)
    rw [hi2, bidx] at ht
    rw [ht] at hr
    exact hr

theorem contains_spec {s : Sl} {l : List Bool} (e : Elems 1 h s (bools l)) (hl : l.length < 100000) (hr : R (TV.bool (l.contains true)).val h) : CallsH Try.prog 74 (TVs.vals [.slice s, .bool true]) h R := by
  apply slices_Contains___bool_bool__calls
  unfold slices_Contains___bool_bool__vc
  refine bindex_spec e hl ⟨_, rfl, ?_⟩
  rw [bidx_nonneg l 0 (Int.le_refl 0)]
  exact hr

theorem mgood_spec {m : Ms} {row : List Bool} (e : Elems 1 h m.bits (bools row)) (hl : row.length < 100000) (hr : ∀ h', Ext h h' → R (TV.bool (goodF m row)).val h') : CallsH Try.prog 85 (TVs.vals [m.tv]) h R := by
  apply wire_Good_calls m.kind m.slot m.target m.member m.body m.bits m.tag
  unfold wire_Good_vc
  have el : row.length = m.bits.len := by have := e.len; rwa [List.length_map] at this
  refine newTV_in fun h1 v1 x1 s1 => ?_
  have at0 := v1.at (t := m.tv)
  obtain ⟨a0, a1, a2, a3, a4, a5, a6⟩ := at0
  have hr1 := hr h1 x1
  intro J HJ
  have fin : ∀ b, m.slot ≥ 0 → m.slot ≤ 1073741824 → m.member ≥ 0 → m.member ≤ 65535 → (m.kind = 1 ∨ m.body = 0) → J b h1 := by
    intro b g1 g2 g3 g4 g5
    refine HJ b h1 ⟨_, a0, ?_⟩
    have hpre : (!(decide (m.slot < 0) || decide (1073741824 < m.slot) || decide (m.member < 0) || decide (65535 < m.member) || (!decide (m.kind = 1) && !decide (m.body = 0)))) = true := by
      rcases g5 with g5 | g5 <;> simp [g5] <;> omega
    unfold goodF at hr1
    rw [hpre, Bool.true_and] at hr1
    refine If.dec.2 ⟨fun k3 => ?_, fun k3 => ?_⟩
    · rw [if_pos k3] at hr1
      refine ⟨_, a3, If.dec.2 ⟨fun k4 => ⟨_, a5, If.dec.2 ⟨fun k5 => ⟨_, a5, ?_⟩, fun k5 => ?_⟩⟩, fun k4 => ?_⟩⟩
      · refine contains_spec (e.ext x1) hl ⟨_, rfl, ?_⟩
        rw [decide_eq_true k4, decide_eq_true (show row.length ≤ 16 by omega)] at hr1
        exact hr1
      · rw [decide_eq_true k4, decide_eq_false (show ¬ row.length ≤ 16 by omega)] at hr1
        exact hr1
      · rw [decide_eq_false k4] at hr1
        exact hr1
    · rw [if_neg k3, el] at hr1
      have hd : decide (((m.bits.len : Nat) : Int) = 0) = decide (m.bits.len = 0) := by
        by_cases h0 : m.bits.len = 0
        · rw [decide_eq_true h0, decide_eq_true (by omega)]
        · rw [decide_eq_false h0, decide_eq_false (by omega)]
      rw [← hd] at hr1
      refine ⟨_, a0, If.dec.2 ⟨fun k4 => ⟨_, a5, ?_⟩, fun k4 => ⟨_, a0, If.dec.2 ⟨fun k5 => ⟨_, a5, ?_⟩, fun k5 => ?_⟩⟩⟩⟩
      · rw [decide_eq_true k4] at hr1
        exact hr1
      · rw [decide_eq_false k4, decide_eq_true k5] at hr1
        exact hr1
      · rw [decide_eq_false k4, decide_eq_false k5] at hr1
        exact hr1
  have bad : (m.slot < 0 ∨ 1073741824 < m.slot ∨ m.member < 0 ∨ 65535 < m.member ∨ (m.kind ≠ 1 ∧ m.body ≠ 0)) → R (TV.bool false).val h1 := by
    intro hb
    have hpre : (!(decide (m.slot < 0) || decide (1073741824 < m.slot) || decide (m.member < 0) || decide (65535 < m.member) || (!decide (m.kind = 1) && !decide (m.body = 0)))) = false := by
      rcases hb with hb | hb | hb | hb | ⟨hb, hc⟩
      · simp [hb]
      · simp [hb]
      · simp [hb]
      · simp [hb]
      · simp [hb, hc]
    unfold goodF at hr1
    rw [hpre, Bool.false_and] at hr1
    exact hr1
  clear HJ
  refine ⟨_, a1, If.dec.2 ⟨fun g => bad (.inl g), fun g1 => ⟨_, a1, If.dec.2 ⟨fun g => bad (.inr (.inl g)), fun g2 => ⟨_, a3, If.dec.2 ⟨fun g => bad (.inr (.inr (.inl g))), fun g3 => ⟨_, a3, If.dec.2 ⟨fun g => bad (.inr (.inr (.inr (.inl g)))), fun g4 => ⟨_, a0, If.split (fun g5 => ⟨_, a4, If.split (fun g6 => ?_) fun g6 => ?_⟩) fun g5 => ?_⟩⟩⟩⟩⟩⟩⟩⟩⟩
  · exact bad (.inr (.inr (.inr (.inr ⟨by simpa using g5, by simpa using g6⟩))))
  · exact fin _ (by omega) (by omega) (by omega) (by omega) (.inr (by simpa using g6))
  · exact fin _ (by omega) (by omega) (by omega) (by omega) (.inl (by simpa using g5))

end
end Go.Proofs.Ytldocdpdjdekiaa.Board
end

section
/- The conditions of functions, as the generator reckons them out, each with the proof that it is that. -/
namespace Go.Proofs.Ytldocdpdjdekiaa
open Go Go.Vc
set_option maxRecDepth 100000
set_option linter.unusedVariables false

def wire_Plain_vc (m_Kind : Int) (m_Slot : Int) (m_Target : Bs (32 : Nat)) (m_Member : Int) (m_Body : Int) (m_Bits : Sl) (m_Tag : Bs (16 : Nat)) (h : Heap) (R : Value → Heap → Prop) : Prop :=
 Vc.Bind
 (newTV h
 (TV.agg
 [TV.int IntKind.i64 m_Kind, TV.int IntKind.i64 m_Slot, TV.bytes (32 : Nat) m_Target, TV.int IntKind.i64 m_Member, TV.int IntKind.u64 m_Body,
 TV.slice m_Bits, TV.bytes (16 : Nat) m_Tag])
 (63 : Nat))
 fun (h_1 : Array Obj) ↦
 ∃ (n : Int),
 at1 h_1 (Array.size h) (0 : Nat) (Value.int IntKind.i64 n) ∧
 ∃ (n_1 : Int),
 at1 (Array.push h_1 (row (TVs.cells [TV.int IntKind.u8 (IntKind.wrap IntKind.u8 n)]) (5 : Nat))) (Array.size h) (1 : Nat) (Value.int IntKind.i64 n_1) ∧
 CallsH Try.prog (122 : Nat)
 (TVs.vals
 [TV.slice (Sl.mk (some (Loc.mk (Array.size h_1) (0 : Nat))) (1 : Nat) (1 : Nat)), TV.int IntKind.u64 (IntKind.wrap IntKind.u64 n_1),
 TV.int IntKind.i64 (4 : Int)])
 (Array.push h_1 (row (TVs.cells [TV.int IntKind.u8 (IntKind.wrap IntKind.u8 n)]) (5 : Nat))) fun (v : Value) (h_2 : Array Obj) ↦
 ∃ (s : Sl),
 v = TV.val (TV.slice s) ∧
 ∃ (new : List Value),
 slAt h_2 (cutSl (Sl.mk (some (Loc.mk (Array.size h) (2 : Nat))) (32 : Nat) (32 : Nat)) (0 : Nat) (32 : Nat) (1 : Nat)) (1 : Nat) new ∧
 (∀ (v : Value), v ∈ new → isOne v = true) ∧
 vcAppend Ytldocdpdjdekiaa.ctxL (5 : Nat) s
 (cutSl (Sl.mk (some (Loc.mk (Array.size h) (2 : Nat))) (32 : Nat) (32 : Nat)) (0 : Nat) (32 : Nat) (1 : Nat)).len new h_2
 fun (s : Sl) (h_3 : Array Obj) ↦
 ∃ (n : Int),
 at1 h_3 (Array.size h) (0 : Nat) (Value.int IntKind.i64 n) ∧
 If (decide (n = (1 : Int)))
 (∃ (h0 : Array Obj),
 Vc.Sub h0 h_3 ∧
 ∃ (n : Int),
 at1 h0 (Array.size h) (34 : Nat) (Value.int IntKind.i64 n) ∧
 ∃ (n_2 : Int),
 at1 h0 (Array.size h) (35 : Nat) (Value.int IntKind.u64 n_2) ∧
 CallsH Try.prog (122 : Nat)
 (TVs.vals [TV.slice s, TV.int IntKind.u64 (IntKind.wrap IntKind.u64 n), TV.int IntKind.i64 (2 : Int)]) h_3
 fun (v : Value) (h : Array Obj) ↦
 ∃ (s : Sl),
 v = TV.val (TV.slice s) ∧
 Vc.Sub h0 h ∧
 CallsH Try.prog (122 : Nat) (TVs.vals [TV.slice s, TV.int IntKind.u64 n_2, TV.int IntKind.i64 (8 : Int)]) h
 fun (v : Value) (h : Array Obj) ↦
 ∃ (s : Sl), v = TV.val (TV.slice s) ∧ ∃ (bs : List UInt8), strAt h s bs ∧ R (TV.val (TV.str bs)) h)
 (If (decide (n = (2 : Int)))
 (∃ (n : Int),
 at1 h_3 (Array.size h) (34 : Nat) (Value.int IntKind.i64 n) ∧
 CallsH Try.prog (122 : Nat)
 (TVs.vals [TV.slice s, TV.int IntKind.u64 (IntKind.wrap IntKind.u64 n), TV.int IntKind.i64 (2 : Int)]) h_3
 fun (v : Value) (h : Array Obj) ↦
 ∃ (s : Sl), v = TV.val (TV.slice s) ∧ ∃ (bs : List UInt8), strAt h s bs ∧ R (TV.val (TV.str bs)) h)
 (If (decide (n = (3 : Int)))
 (∃ (s_1 : Sl),
 at1 h_3 (Array.size h) (36 : Nat) (slVal s_1) ∧
 CallsH Try.prog (123 : Nat) (TVs.vals [TV.slice s, TV.slice s_1]) h_3 fun (v : Value) (h : Array Obj) ↦
 ∃ (s : Sl), v = TV.val (TV.slice s) ∧ ∃ (bs : List UInt8), strAt h s bs ∧ R (TV.val (TV.str bs)) h)
 (∃ (bs : List UInt8), strAt h_3 s bs ∧ R (TV.val (TV.str bs)) h_3)))

theorem wire_Plain_calls (m_Kind : Int) (m_Slot : Int) (m_Target : Bs (32 : Nat)) (m_Member : Int) (m_Body : Int) (m_Bits : Sl) (m_Tag : Bs (16 : Nat)) (h : Heap) (R : Value → Heap → Prop) (H : wire_Plain_vc m_Kind m_Slot m_Target m_Member m_Body m_Bits m_Tag h R) : CallsH Try.prog 92 (TVs.vals [TV.agg [TV.int IntKind.i64 m_Kind, TV.int IntKind.i64 m_Slot, TV.bytes (32 : Nat) m_Target, TV.int IntKind.i64 m_Member, TV.int IntKind.u64 m_Body, TV.slice m_Bits, TV.bytes (16 : Nat) m_Tag]]) h R :=
 vcFn_sound (C := ctxL) ctxL_ok (fn := Try.f92) Try.func92 ((by kernel_rfl : wire_Plain_vc m_Kind m_Slot m_Target m_Member m_Body m_Bits m_Tag h R = vcFn ctxL Try.f92 [TV.agg [TV.int IntKind.i64 m_Kind, TV.int IntKind.i64 m_Slot, TV.bytes (32 : Nat) m_Target, TV.int IntKind.i64 m_Member, TV.int IntKind.u64 m_Body, TV.slice m_Bits, TV.bytes (16 : Nat) m_Tag]] h R) ▸ H)


end Go.Proofs.Ytldocdpdjdekiaa
end

section
/- A message's bytes, who speaks, its tag, what is signed and checked, its votes. -/
namespace Go.Proofs.Ytldocdpdjdekiaa.Board
open Go Go.Vc
section
variable {R : Value → Heap → Prop} {h : Heap}

/-- A message's bytes without its tag. -/
def plainF (m : Ms) (row : List Bool) : List UInt8 :=
  (([UInt8.ofNat (IntKind.wrap .u8 m.kind).toNat] ++ leF (IntKind.wrap .u64 m.slot) 4) ++ m.target.l) ++
    if m.kind = 1 then leF (IntKind.wrap .u64 m.member) 2 ++ leF m.body 8 else if m.kind = 2 then leF (IntKind.wrap .u64 m.member) 2 else if m.kind = 3 then bitF row else []

theorem leF_len (n : Int) (k : Nat) : (leF n k).length = k := leF_length k n
theorem bitF_len (row : List Bool) : (bitF row).length = row.length / 8 + 1 := by simp [bitF, bitS, bitG_length]

theorem plainF_len (m : Ms) (row : List Bool) : (plainF m row).length ≤ 60 + row.length := by
  unfold plainF
  simp only [List.length_append, leF_len, m.target.h, List.length_singleton]
  split
  · simp only [List.length_append, leF_len]; omega
  · split
    · simp only [leF_len]; omega
    · split
      · rw [bitF_len]; omega
      · simp only [List.length_nil]; omega

theorem elems_bytes {b o n c : Nat} {x : Bs n} (a : atBytes h b o n x) : Elems 1 h ⟨some ⟨b, o⟩, n, c⟩ (bys x.l) := by
  refine ⟨by rw [List.length_map, x.h], (fun hn => by cases hn), fun l hl i t ht => ?_⟩
  obtain rfl := Option.some.inj hl
  rw [List.getElem?_map] at ht
  obtain ⟨u, hu, rfl⟩ := Option.map_eq_some_iff.1 ht
  have hi : i < n := by rw [← x.h]; exact (List.getElem?_eq_some_iff.1 hu).1
  have := a i hi
  rw [List.getD_eq_getElem?_getD, hu] at this
  show at1 _ _ _ _
  rw [Nat.mul_one]
  exact this

theorem app_loose {e : TypeId} {s : Sl} {n : Nat} {new : List Value} {K : Sl → Heap → Prop} (H : vcAppend ctx e s n new h K) : vcAppend ctxL e s n new h K := H

theorem put_n {T : TypeId} {b n : Nat} {t0 t : TV} {K : Heap → Prop} (v : Var T h b t0) (hn : n = t0.size) (hs : t.size = t0.size) (hk : ∀ h1, Var T h1 b t → Only (· = b) h h1 → h1.size = h.size → K h1) : wok h b 0 n ∧ Bind (t.put h b 0) K := by
  subst hn
  exact put_in v hs hk

theorem app_bytesN {Q : Nat → Prop} {s : Sl} {bs us : List UInt8} {n : Nat} {K : Sl → Heap → Prop} (hn : n = us.length) (r : Row Q h s bs) (hl : bs.length + us.length < 10000)
    (hk : ∀ s' h', Row Q h' s' (bs ++ us) → Only (In s) h h' → (∀ l, s'.a = some l → (∃ l', s.a = some l' ∧ l'.b = l.b) ∨ h.size ≤ l.b) → K s' h') :
    vcAppend ctx 5 s n (us.map fun c => Value.int .u8 (c.toNat : Int)) h K := by
  subst hn
  exact app_bytes r hl hk

theorem bind_of {h1 : Heap} {K : Heap → Prop} (hk : K h1) : Bind h1 K := hk

set_option maxRecDepth 100000 in
theorem plain_spec {m : Ms} {row : List Bool} (e : Elems 1 h m.bits (bools row)) (hl : row.length < 500) (hr : ∀ h', Ext h h' → R (TV.str (plainF m row)).val h') : CallsH Try.prog 92 (TVs.vals [m.tv]) h R := by
  apply wire_Plain_calls m.kind m.slot m.target m.member m.body m.bits m.tag
  unfold wire_Plain_vc
  have el : row.length = m.bits.len := by have := e.len; rwa [List.length_map] at this
  refine newTV_in fun h1 v1 x1 s1 => ?_
  have at1' := v1.at (t := m.tv)
  obtain ⟨a0, a1, a2, a3, a4, a5, a6⟩ := at1'
  have hw := wrap_u8_range m.kind
  have xp := Ext.push h1 (Vc.row (TVs.cells [TV.int .u8 (IntKind.wrap .u8 m.kind)]) 5)
  have r1 : Row (fun i => h.size < i) (h1.push (Vc.row (TVs.cells [TV.int .u8 (IntKind.wrap .u8 m.kind)]) 5)) ⟨some ⟨h1.size, 0⟩, 1, 1⟩ [UInt8.ofNat (IntKind.wrap .u8 m.kind).toNat] := by
    have o := Own.new (T := 5) (sz := 1) h1 [TV.int .u8 (IntKind.wrap .u8 m.kind)] (fun t ht => by
      simp only [List.mem_cons, List.not_mem_nil, or_false] at ht
      subst ht; rfl)
    have e1 : byTV (UInt8.ofNat (IntKind.wrap .u8 m.kind).toNat) = TV.int .u8 (IntKind.wrap .u8 m.kind) := by
      unfold byTV
      rw [UInt8.toNat_ofNat']
      congr 1
      omega
    refine ⟨?_, fun l hl => ?_, fun i hi => ?_⟩
    · have e2 : bys [UInt8.ofNat (IntKind.wrap .u8 m.kind).toNat] = [TV.int .u8 (IntKind.wrap .u8 m.kind)] := by simp [bys, e1]
      rw [e2]
      exact o
    · obtain rfl := Option.some.inj hl
      show h.size < h1.size
      omega
    · rw [Array.size_push] at hi
      omega
  refine ⟨_, a0, _, at1_ext xp a1, ?_⟩
  refine put_spec_le (k := 4) r1 (by simp) (by decide) fun h2 s2 r2 o2 => ⟨_, rfl, ?_⟩
  have x2 : Ext h1 h2 := Only.cut xp o2 fun i hi => by omega
  have hc : cutSl (Sl.mk (some (Vc.Loc.mk h.size 2)) 32 32) 0 32 1 = ⟨some ⟨h.size, 2⟩, 32, 32⟩ := rfl
  rw [hc]
  refine ⟨m.target.l.map fun c => Value.int .u8 (c.toNat : Int), by rw [← bys_cells]; exact (elems_bytes (atBytes_ext x2 a2)).cells (bys_size _) (by decide), bcells_one m.target.l, app_loose ?_⟩
  refine app_bytesN m.target.h.symm r2 (by rw [List.length_append, leF_len, List.length_singleton, m.target.h]; decide) fun s3 h3 r3 f3 b3 => ?_
  have f3 := r2.cut f3
  have x3 : Ext h1 h3 := Only.cut xp (o2.trans f3) fun i hi => by omega
  have x03 := x1.trans x3
  have v3 : Var 63 h3 h.size m.tv := v1.ext x3
  have at3 := v3.at
  obtain ⟨b0, b1, b2, b3, b4, b5, b6⟩ := at3
  have l3 : (([UInt8.ofNat (IntKind.wrap .u8 m.kind).toNat] ++ leF (IntKind.wrap .u64 m.slot) 4) ++ m.target.l).length = 37 := by
    rw [List.length_append, List.length_append, leF_len, List.length_singleton, m.target.h]
  refine ⟨_, b0, If.dec.2 ⟨fun k1 => ?_, fun k1 => If.dec.2 ⟨fun k2 => ?_, fun k2 => If.dec.2 ⟨fun k3 => ?_, fun k3 => ?_⟩⟩⟩⟩
  · refine ⟨h1, x3.sub, _, a3, _, a4, ?_⟩
    refine put_spec_le (k := 2) r3 (by rw [l3]; decide) (by decide) fun h4 s4 r4 o4 => ⟨_, rfl, (Only.cut x3 o4 fun i hi => by omega : Ext h1 h4).sub, ?_⟩
    refine put_spec_le (k := 8) r4 (by rw [List.length_append, l3, leF_len]; decide) (by decide) fun h5 s5 r5 o5 => ⟨_, rfl, _, r5.str, ?_⟩
    have := hr h5 (Only.cut x03 (o4.trans o5) fun i hi => by omega)
    unfold plainF at this
    rw [if_pos k1, ← List.append_assoc] at this
    exact this
  · refine ⟨_, b3, ?_⟩
    refine put_spec_le (k := 2) r3 (by rw [l3]; decide) (by decide) fun h4 s4 r4 o4 => ⟨_, rfl, _, r4.str, ?_⟩
    have := hr h4 (Only.cut x03 o4 fun i hi => by omega)
    unfold plainF at this
    rw [if_neg k1, if_pos k2] at this
    exact this
  · refine ⟨_, b5, ?_⟩
    refine bput_spec r3 (by rw [l3]; decide) (by omega) el (fun h' o' => e.ext (Only.cut x03 o' fun i hi => by omega)) fun h4 s4 r4 o4 => ⟨_, rfl, _, r4.str, ?_⟩
    have := hr h4 (Only.cut x03 o4 fun i hi => by omega)
    unfold plainF at this
    rw [if_neg k1, if_neg k2, if_pos k3] at this
    exact this
  · have := hr h3 x03
    unfold plainF at this
    rw [if_neg k1, if_neg k2, if_neg k3, List.append_nil] at this
    exact ⟨_, r3.str, this⟩

/-! ### What one speaker's tag is of -/

/-! ### Who speaks -/

end
end Go.Proofs.Ytldocdpdjdekiaa.Board
end

section
/- The conditions of functions, as the generator reckons them out, each with the proof that it is that. -/
namespace Go.Proofs.Ytldocdpdjdekiaa
open Go Go.Vc
set_option maxRecDepth 100000
set_option linter.unusedVariables false

def tollerref02_Bytes_vc (l_ : Sl) (h : Heap) (R : Value → Heap → Prop) : Prop :=
 ∃ (new : List Value),
 slAt (Array.push h (row (TVs.cells []) (4 : Nat))) l_ (1 : Nat) new ∧
 (∀ (v : Value), v ∈ new → isOne v = true) ∧
 vcAppend Ytldocdpdjdekiaa.ctx (4 : Nat) (Sl.mk (some (Loc.mk (Array.size h) (0 : Nat))) (0 : Nat) (0 : Nat)) l_.len new
 (Array.push h (row (TVs.cells []) (4 : Nat))) fun (s : Sl) (h_1 : Array Obj) ↦
 ∃ (new : List Value),
 slAt (Array.push h_1 (row (TVs.cells [TV.bool true]) (4 : Nat))) (Sl.mk (some (Loc.mk (Array.size h_1) (0 : Nat))) (1 : Nat) (1 : Nat)) (1 : Nat)
 new ∧
 (∀ (v : Value), v ∈ new → isOne v = true) ∧
 vcAppend Ytldocdpdjdekiaa.ctx (4 : Nat) s (1 : Nat) new (Array.push h_1 (row (TVs.cells [TV.bool true]) (4 : Nat)))
 fun (s_1 : Sl) (h_2 : Array Obj) ↦
 Go.Vc.Loop (Sl.mk none (0 : Nat) (0 : Nat), (0 : Int)) h_2 fun (s_2 : Sl × Int) (h_3 : Array Obj) (K : Sl × Int → Array Obj → Prop) ↦
 If (decide (s_2.snd < (↑s_1.len : Int)))
 ((0 : Int) ≤ s_2.snd ∧
 s_2.snd < (↑s_1.len : Int) ∧
 Nn s_1.a fun (l : Go.Vc.Loc) ↦
 ∃ (b : Bool),
 at1 h_3 l.b (l.o + Int.toNat s_2.snd * (1 : Nat)) (Value.bool b) ∧
 Join
 (fun (s_3 : Sl) (h_4 : Array Obj) ↦
 If b
 (Go.Vc.Loop ((1 : Int), (0 : Int)) h_4 fun (s_4 : Int × Int) (h_5 : Array Obj) (K_1 : Int × Int → Array Obj → Prop) ↦
 (8 : Int) ≠ (0 : Int) ∧
 If (decide (s_4.snd < Int.tmod s_2.snd (8 : Int)))
 (K_1 (IntKind.wrap IntKind.i64 ((2 : Int) * s_4.fst), IntKind.wrap IntKind.i64 (s_4.snd + (1 : Int))) h_5)
 ((0 : Int) ≤ IntKind.wrap IntKind.i64 ((↑s_3.len : Int) - (1 : Int)) ∧
 IntKind.wrap IntKind.i64 ((↑s_3.len : Int) - (1 : Int)) < (↑s_3.len : Int) ∧
 Nn s_3.a fun (l_1 : Go.Vc.Loc) ↦
 ∃ (n : Int),
 at1 h_5 l_1.b (l_1.o + Int.toNat (IntKind.wrap IntKind.i64 ((↑s_3.len : Int) - (1 : Int))) * (1 : Nat))
 (Value.int IntKind.u8 n) ∧
 (0 : Int) ≤ IntKind.wrap IntKind.i64 ((↑s_3.len : Int) - (1 : Int)) ∧
 IntKind.wrap IntKind.i64 ((↑s_3.len : Int) - (1 : Int)) < (↑s_3.len : Int) ∧
 Nn s_3.a fun (l_2 : Go.Vc.Loc) ↦
 wok h_5 l_2.b
 (l_2.o + Int.toNat (IntKind.wrap IntKind.i64 ((↑s_3.len : Int) - (1 : Int))) * (1 : Nat))
 (1 : Nat) ∧
 Vc.Bind
 (TV.put h_5 l_2.b
 (l_2.o + Int.toNat (IntKind.wrap IntKind.i64 ((↑s_3.len : Int) - (1 : Int))) * (1 : Nat))
 (TV.int IntKind.u8 (IntKind.wrap IntKind.u8 (n + IntKind.wrap IntKind.u8 s_4.fst))))
 fun (h : Array Obj) ↦ K (s_3, IntKind.wrap IntKind.i64 (s_2.snd + (1 : Int))) h))
 (K (s_3, IntKind.wrap IntKind.i64 (s_2.snd + (1 : Int))) h_4))
 fun (J : Sl → Array Obj → Prop) ↦
 (8 : Int) ≠ (0 : Int) ∧
 If (decide (Int.tmod s_2.snd (8 : Int) = (0 : Int)))
 (∃ (new : List Value),
 slAt (Array.push h_3 (row (TVs.cells [TV.int IntKind.u8 (0 : Int)]) (5 : Nat)))
 (Sl.mk (some (Loc.mk (Array.size h_3) (0 : Nat))) (1 : Nat) (1 : Nat)) (1 : Nat) new ∧
 (∀ (v : Value), v ∈ new → isOne v = true) ∧
 vcAppend Ytldocdpdjdekiaa.ctx (5 : Nat) s_2.fst (1 : Nat) new
 (Array.push h_3 (row (TVs.cells [TV.int IntKind.u8 (0 : Int)]) (5 : Nat))) fun (s : Sl) (h : Array Obj) ↦ J s h)
 (J s_2.fst h_3))
 (∃ (bs : List UInt8), strAt h_3 s_2.fst bs ∧ R (TV.val (TV.str bs)) h_3)

theorem tollerref02_Bytes_calls (l_ : Sl) (h : Heap) (R : Value → Heap → Prop) (H : tollerref02_Bytes_vc l_ h R) : CallsH Try.prog 125 (TVs.vals [TV.slice l_]) h R :=
 vcFn_sound (C := ctx) ctx_ok (fn := Try.f125) Try.func125 ((by kernel_rfl : tollerref02_Bytes_vc l_ h R = vcFn ctx Try.f125 [TV.slice l_] h R) ▸ H)


def tollerref07_Good_vc (m_Kind : Int) (m_Slot : Int) (m_Target : Bs (32 : Nat)) (m_Member : Int) (m_Body : Int) (m_Bits : Sl) (m_Tag : Bs (16 : Nat)) (h : Heap) (R : Value → Heap → Prop) : Prop :=
 Vc.Bind
 (newTV h
 (TV.agg
 [TV.int IntKind.i64 m_Kind, TV.int IntKind.i64 m_Slot, TV.bytes (32 : Nat) m_Target, TV.int IntKind.i64 m_Member, TV.int IntKind.u64 m_Body,
 TV.slice m_Bits, TV.bytes (16 : Nat) m_Tag])
 (63 : Nat))
 fun (h_1 : Array Obj) ↦
 Join
 (fun (s : Bool × Bool × Bool) (h_2 : Array Obj) ↦
 ∃ (s : Sl),
 at1 h_2 (Array.size h) (36 : Nat) (slVal s) ∧
 Go.Vc.Loop ((0 : Int), (0 : Int)) h_2 fun (s_1 : Int × Int) (h_3 : Array Obj) (K : Int × Int → Array Obj → Prop) ↦
 If (decide (s_1.snd < (↑s.len : Int)))
 ((0 : Int) ≤ s_1.snd ∧
 s_1.snd < (↑s.len : Int) ∧
 Nn s.a fun (l : Go.Vc.Loc) ↦
 ∃ (b : Bool),
 at1 h_3 l.b (l.o + Int.toNat s_1.snd * (1 : Nat)) (Value.bool b) ∧
 If b (K (IntKind.wrap IntKind.i64 (s_1.fst + (1 : Int)), IntKind.wrap IntKind.i64 (s_1.snd + (1 : Int))) h_3)
 (K (s_1.fst, IntKind.wrap IntKind.i64 (s_1.snd + (1 : Int))) h_3))
 (∃ (n : Int),
 at1 h_3 (Array.size h) (0 : Nat) (Value.int IntKind.i64 n) ∧
 If (decide (n = (3 : Int)))
 (∃ (n : Int),
 at1 h_3 (Array.size h) (34 : Nat) (Value.int IntKind.i64 n) ∧
 If (decide (n = (0 : Int)))
 (∃ (n : Int),
 at1 h_3 (Array.size h) (35 : Nat) (Value.int IntKind.u64 n) ∧
 If (decide (n = (0 : Int)))
 (∃ (s : Sl),
 at1 h_3 (Array.size h) (36 : Nat) (slVal s) ∧
 If (decide ((↑s.len : Int) ≤ (16 : Int))) (R (TV.val (TV.bool (decide ((0 : Int) < s_1.fst)))) h_3)
 (R (TV.val (TV.bool false)) h_3))
 (R (TV.val (TV.bool false)) h_3))
 (R (TV.val (TV.bool false)) h_3))
 (∃ (s : Sl),
 at1 h_3 (Array.size h) (36 : Nat) (slVal s) ∧
 If (decide ((↑s.len : Int) = (0 : Int)))
 (∃ (n : Int),
 at1 h_3 (Array.size h) (0 : Nat) (Value.int IntKind.i64 n) ∧
 If (decide (n = (1 : Int))) (R (TV.val (TV.bool true)) h_3)
 (∃ (n : Int), at1 h_3 (Array.size h) (35 : Nat) (Value.int IntKind.u64 n) ∧ R (TV.val (TV.bool (decide (n = (0 : Int))))) h_3))
 (R (TV.val (TV.bool false)) h_3))))
 fun (J : Bool × Bool × Bool → Array Obj → Prop) ↦
 ∃ (n : Int),
 at1 h_1 (Array.size h) (0 : Nat) (Value.int IntKind.i64 n) ∧
 If (decide (n < (1 : Int))) (R (TV.val (TV.bool false)) h_1)
 (∃ (n_1 : Int),
 at1 h_1 (Array.size h) (0 : Nat) (Value.int IntKind.i64 n_1) ∧
 If (decide ((3 : Int) < n_1)) (R (TV.val (TV.bool false)) h_1)
 (∃ (n_2 : Int),
 at1 h_1 (Array.size h) (1 : Nat) (Value.int IntKind.i64 n_2) ∧
 If (decide (n_2 < (0 : Int))) (R (TV.val (TV.bool false)) h_1)
 (∃ (n_3 : Int),
 at1 h_1 (Array.size h) (1 : Nat) (Value.int IntKind.i64 n_3) ∧
 If (decide ((1073741824 : Int) < n_3)) (R (TV.val (TV.bool false)) h_1)
 (∃ (n_4 : Int),
 at1 h_1 (Array.size h) (34 : Nat) (Value.int IntKind.i64 n_4) ∧
 If (decide (n_4 < (0 : Int))) (R (TV.val (TV.bool false)) h_1)
 (∃ (n_5 : Int),
 at1 h_1 (Array.size h) (34 : Nat) (Value.int IntKind.i64 n_5) ∧
 If (decide ((65535 : Int) < n_5)) (R (TV.val (TV.bool false)) h_1) (J (false, decide (n < (1 : Int)), false) h_1))))))

theorem tollerref07_Good_calls (m_Kind : Int) (m_Slot : Int) (m_Target : Bs (32 : Nat)) (m_Member : Int) (m_Body : Int) (m_Bits : Sl) (m_Tag : Bs (16 : Nat)) (h : Heap) (R : Value → Heap → Prop) (H : tollerref07_Good_vc m_Kind m_Slot m_Target m_Member m_Body m_Bits m_Tag h R) : CallsH Try.prog 57 (TVs.vals [TV.agg [TV.int IntKind.i64 m_Kind, TV.int IntKind.i64 m_Slot, TV.bytes (32 : Nat) m_Target, TV.int IntKind.i64 m_Member, TV.int IntKind.u64 m_Body, TV.slice m_Bits, TV.bytes (16 : Nat) m_Tag]]) h R :=
 vcFn_sound (C := ctx) ctx_ok (fn := Try.f57) Try.func57 ((by kernel_rfl : tollerref07_Good_vc m_Kind m_Slot m_Target m_Member m_Body m_Bits m_Tag h R = vcFn ctx Try.f57 [TV.agg [TV.int IntKind.i64 m_Kind, TV.int IntKind.i64 m_Slot, TV.bytes (32 : Nat) m_Target, TV.int IntKind.i64 m_Member, TV.int IntKind.u64 m_Body, TV.slice m_Bits, TV.bytes (16 : Nat) m_Tag]] h R) ▸ H)


end Go.Proofs.Ytldocdpdjdekiaa
end

section
/- The document's messages: the same bytes, the same speakers, the same tags. -/
namespace Go.Proofs.Ytldocdpdjdekiaa.Board
open Go Go.Vc
section
variable {R : Value → Heap → Prop} {h : Heap}

/-! ### Rows of bits -/

theorem or_add : ∀ k : Fin 8, ∀ c : Fin 256, c.val < 2 ^ k.val →
    IntKind.wrap .u8 ((BitVec.ofInt (IntKind.bits .u8) ((c.val : Nat) : Int) ||| BitVec.ofInt (IntKind.bits .u8) (IntKind.wrap .u8 (1 * 2 ^ min (Int.toNat ((k.val : Nat) : Int)) (IntKind.bits .u8)))).toNat : Int) = ((c.val + 2 ^ k.val : Nat) : Int) := by decide +kernel

theorem tmod8 (i : Nat) : Int.tmod (i : Int) 8 = ((i % 8 : Nat) : Int) := by
  rw [Int.tmod_eq_emod_of_nonneg (by omega)]
  rfl

theorem orv_add {c i : Nat} (hc : c < 2 ^ (i % 8)) : orv (c : Int) (i : Int) = ((c + 2 ^ (i % 8) : Nat) : Int) := by
  unfold orv
  rw [tmod8]
  have h8 : i % 8 < 8 := Nat.mod_lt _ (by decide)
  have h2 : 2 ^ (i % 8) ≤ 2 ^ 7 := Nat.pow_le_pow_right (by decide) (by omega)
  exact or_add ⟨i % 8, h8⟩ ⟨c, by omega⟩ hc

def bn (l : List UInt8) (j : Nat) : Nat := (l.getD j 0).toNat
theorem by8_bn (l : List UInt8) (j : Nat) : by8 l j = (bn l j : Int) := rfl

theorem bn_set {l : List UInt8} {i j : Nat} {x : UInt8} (hi : i < l.length) : bn (l.set i x) j = if i = j then x.toNat else bn l j := by
  unfold bn
  rw [List.getD_eq_getElem?_getD, List.getElem?_set]
  by_cases h1 : i = j
  · subst h1
    rw [if_pos rfl, if_pos rfl, if_pos hi]
    rfl
  · rw [if_neg h1, if_neg h1, ← List.getD_eq_getElem?_getD]

/-- Behind what is taken in all is 0; the byte at hand is small. -/
theorem bitG_small (row : List Bool) : ∀ (i : Nat), i ≤ row.length → ∀ j, bn (bitG row i) j < 2 ^ (i - 8 * j)
  | 0, _, j => by
    have : bn (bitG row 0) j = 0 := by
      unfold bn bitG
      rw [List.getD_eq_getElem?_getD, List.getElem?_replicate]
      split <;> rfl
    rw [this]
    exact Nat.two_pow_pos _
  | i + 1, hi, j => by
    have ih := bitG_small row i (by omega)
    have mono : 2 ^ (i - 8 * j) ≤ 2 ^ (i + 1 - 8 * j) := Nat.pow_le_pow_right (by decide) (by omega)
    unfold bitG
    split
    · have hq : i / 8 < (bitG row i).length := by rw [bitG_length]; omega
      unfold bitS
      rw [bn_set hq]
      split
      · rename_i hj
        have h1 := ih (i / 8)
        have e1 : i - 8 * (i / 8) = i % 8 := by omega
        rw [e1] at h1
        rw [by8_bn, orv_add h1, Int.toNat_natCast, UInt8.toNat_ofNat']
        have h2 : 2 ^ (i % 8) ≤ 2 ^ 7 := Nat.pow_le_pow_right (by decide) (by omega)
        have e2 : i + 1 - 8 * j = i % 8 + 1 := by omega
        rw [e2, Nat.pow_succ]
        rw [Nat.mod_eq_of_lt (by omega)]
        omega
      · exact Nat.lt_of_lt_of_le (ih j) mono
    · exact Nat.lt_of_lt_of_le (ih j) mono

/-- What the document has behind so many places. -/
def dG (row : List Bool) (i : Nat) : List UInt8 := (bitG row i).take ((i + 7) / 8)

theorem dG_length {row : List Bool} {i : Nat} (hi : i ≤ row.length + 1) : (dG row i).length = (i + 7) / 8 := by
  unfold dG
  rw [List.length_take, bitG_length]
  omega

/-- One place on, without a bit. -/
theorem dG_open {row : List Bool} {i : Nat} (hi : i ≤ row.length) : (bitG row i).take ((i + 8) / 8) = if i % 8 = 0 then dG row i ++ [0] else dG row i := by
  unfold dG
  split
  · rename_i h8
    have e1 : (i + 8) / 8 = i / 8 + 1 := by omega
    have e2 : (i + 7) / 8 = i / 8 := by omega
    have hq : i / 8 < (bitG row i).length := by rw [bitG_length]; omega
    have hs := bitG_small row i hi (i / 8)
    rw [show i - 8 * (i / 8) = 0 by omega] at hs
    rw [e1, e2, List.take_add_one, List.getElem?_eq_getElem hq]
    have h0 : bn (bitG row i) (i / 8) = 0 := by omega
    unfold bn at h0
    rw [List.getD_eq_getElem?_getD, List.getElem?_eq_getElem hq] at h0
    have : (bitG row i)[i / 8] = 0 := UInt8.toNat_inj.1 h0
    rw [this]
    rfl
  · rename_i h8
    have e1 : (i + 8) / 8 = (i + 7) / 8 := by omega
    rw [e1]

theorem b4 : (ctx.ti 4).bytes = 1 := by kernel_rfl
theorem sz4 : (ctx.ti 4).size = 1 := by kernel_rfl
theorem zz4 : (ctx.ti 4).z.size = 1 := by kernel_rfl

/-- What the document has behind so many places, the last bit with it. -/
def cG (row : List Bool) (i : Nat) : List UInt8 := if i ≤ row.length then dG row i else bitF row

theorem by8_take {l : List UInt8} {m j : Nat} (h : j < m) : by8 (l.take m) j = by8 l j := by
  unfold by8
  rw [List.getD_eq_getElem?_getD, List.getD_eq_getElem?_getD, List.getElem?_take, if_pos h]

theorem cG_no {row : List Bool} {i : Nat} (hi : i ≤ row.length) (hx : (row ++ [true])[i]? = some false) : cG row (i + 1) = (bitG row i).take ((i + 8) / 8) := by
  have hlt : i < row.length := by
    apply Classical.byContradiction
    intro hn
    have : i = row.length := by omega
    subst this
    simp at hx
  rw [List.getElem?_append_left hlt] at hx
  unfold cG dG
  rw [if_pos (by omega)]
  have hg : bitG row (i + 1) = bitG row i := by
    rw [bitG, if_neg]
    rw [List.getD_eq_getElem?_getD, hx]
    decide
  rw [hg]

theorem cG_yes {row : List Bool} {i : Nat} (hi : i ≤ row.length) (hx : (row ++ [true])[i]? = some true) : cG row (i + 1) = ((bitG row i).take ((i + 8) / 8)).set (i / 8) (UInt8.ofNat (bn (bitG row i) (i / 8) + 2 ^ (i % 8))) := by
  have hs := bitG_small row i hi (i / 8)
  rw [show i - 8 * (i / 8) = i % 8 by omega] at hs
  have hb : (bitS (bitG row i) i).take ((i + 8) / 8) = ((bitG row i).take ((i + 8) / 8)).set (i / 8) (UInt8.ofNat (bn (bitG row i) (i / 8) + 2 ^ (i % 8))) := by
    unfold bitS
    rw [by8_bn, orv_add hs, Int.toNat_natCast, List.take_set]
  by_cases hlt : i < row.length
  · rw [List.getElem?_append_left hlt] at hx
    unfold cG dG
    rw [if_pos (by omega)]
    have hg : bitG row (i + 1) = bitS (bitG row i) i := by
      rw [bitG, if_pos]
      rw [List.getD_eq_getElem?_getD, hx]
      rfl
    rw [hg]
    exact hb
  · have hin : i = row.length := by omega
    subst hin
    unfold cG
    rw [if_neg (by omega), ← hb]
    unfold bitF
    rw [List.take_of_length_le]
    simp [bitS, bitG_length]

set_option maxRecDepth 100000 in
theorem bytesof_spec {s : Sl} {row : List Bool} (e : Elems 1 h s (bools row)) (hl : row.length < 500) (hr : ∀ h', Ext h h' → R (TV.str (bitF row)).val h') : CallsH Try.prog 125 (TVs.vals [.slice s]) h R := by
  apply tollerref02_Bytes_calls
  unfold tollerref02_Bytes_vc
  have el : row.length = s.len := by have := e.len; rwa [List.length_map] at this
  have xp := Ext.push h (Vc.row (TVs.cells []) 4)
  refine appendN (C := ctx) (T := 4) (sz := 1) sz4 zz4 (by rw [b4]; decide) (by decide) (by rw [b4]; show (0 + s.len) * 1 ≤ _; omega) (Own.new (T := 4) (sz := 1) h [] (fun t ht => by cases ht)) (e.ext xp) (fun u hu => by obtain ⟨b, _, rfl⟩ := List.mem_map.1 hu; rfl) (fun u hu => by obtain ⟨b, _, rfl⟩ := List.mem_map.1 hu; rfl) fun s1 h1 o1 hl1 f1 b1 => ?_
  have x01 : Ext h h1 := Only.cut xp f1 fun i ⟨l, hl, hi⟩ => by
    obtain rfl := Option.some.inj hl
    rw [← hi]
    exact Nat.le_refl _
  have l1 : s1.len = row.length := by have := o1.len; rw [List.nil_append, List.length_map] at this; exact this.symm
  refine append1 (C := ctx) (T := 4) (sz := 1) (x := .bool true) sz4 zz4 (by rw [b4]; decide) (by rw [b4]; omega) o1 rfl rfl fun s2 h2 o2 f2 b2 => ?_
  have x02 : Ext h h2 := Only.cut x01 f2 fun i ⟨l, hl, hi⟩ => by
    rcases b1 l hl with ⟨l', hl', hi'⟩ | hi'
    · obtain rfl := Option.some.inj hl'
      rw [← hi, ← hi']
      exact Nat.le_refl _
    · rw [Array.size_push] at hi'
      omega
  have e2 : Elems 1 h2 s2 (bools (row ++ [true])) := by
    have := o2.elems
    simpa [bools] using this
  have l2 : s2.len = row.length + 1 := by have := e2.len; rw [List.length_map, List.length_append] at this; exact this.symm
  refine ⟨fun σ hh => 0 ≤ σ.2 ∧ σ.2 ≤ s2.len ∧ Row (fun b => h2.size ≤ b) hh σ.1 (cG row σ.2.toNat) ∧ Ext h2 hh, fun σ _ => ((s2.len : Int) - σ.2).toNat,
    ⟨Int.le_refl 0, by first | omega | (dsimp only; omega), ⟨Own.nil _ _ _, (fun l hl => by cases hl), fun i hi => hi⟩, Ext.refl _⟩, ?_⟩
  rintro ⟨out, i⟩ h3 ⟨i0, i1, r3, x3⟩
  dsimp only at i0 i1 r3 x3 ⊢
  refine If.dec.2 ⟨fun hi => ?_, fun hi => ?_⟩
  · refine read_bool (e2.ext x3) i0 (by rw [List.length_append, List.length_singleton]; omega) fun x hx => ?_
    have hin : i.toNat ≤ row.length := by omega
    have hcd : cG row i.toNat = dG row i.toNat := if_pos hin
    rw [hcd] at r3
    have hdl := dG_length (row := row) (i := i.toNat) (by omega)
    have htm : Int.tmod i 8 = ((i.toNat % 8 : Nat) : Int) := by
      have := tmod8 i.toNat
      rwa [show ((i.toNat : Nat) : Int) = i by omega] at this
    rw [wrap_i64 (n := i + 1) (by omega) (by omega)]
    have hi1 : (i + 1).toNat = i.toNat + 1 := by omega
    intro J HJ
    have step : ∀ (o : Sl) (h4 : Heap), Row (fun b => h2.size ≤ b) h4 o ((bitG row i.toNat).take ((i.toNat + 8) / 8)) → Ext h2 h4 → J o h4 := by
      intro o h4 r4 x4
      refine HJ o h4 ?_
      have hTl : ((bitG row i.toNat).take ((i.toNat + 8) / 8)).length = i.toNat / 8 + 1 := by rw [List.length_take, bitG_length]; omega
      have hol := r4.len
      rw [hTl] at hol
      cases x with
      | false =>
        refine If.no ⟨⟨by first | omega | (dsimp only; omega), by first | omega | (dsimp only; omega), ?_, x4⟩, by first | omega | (dsimp only; omega)⟩
        try dsimp only
        rw [hi1, cG_no hin hx]
        exact r4
      | true =>
        refine If.yes ?_
        refine ⟨fun σ hh => 0 ≤ σ.2 ∧ σ.2 ≤ Int.tmod i 8 ∧ h4 = hh ∧ σ.1 = ((2 ^ σ.2.toNat : Nat) : Int), fun σ _ => (Int.tmod i 8 - σ.2).toNat, ⟨Int.le_refl 0, by rw [htm]; exact Int.natCast_nonneg _, rfl, rfl⟩, ?_⟩
        rintro ⟨u, k⟩ hh ⟨k0, k1, rfl, hu⟩
        dsimp only at k0 k1 hu ⊢
        refine ⟨by decide, ?_⟩
        rw [htm] at k1 ⊢
        have hm8 : i.toNat % 8 < 8 := Nat.mod_lt _ (by decide)
        have hpow : 2 ^ k.toNat ≤ 2 ^ 7 := Nat.pow_le_pow_right (by decide) (by omega)
        obtain ⟨P, hP⟩ : ∃ P, P = 2 ^ k.toNat := ⟨_, rfl⟩
        rw [← hP] at hu hpow
        refine If.dec.2 ⟨fun hk => ?_, fun hk => ?_⟩
        · rw [wrap_i64 (n := 2 * u) (by omega) (by omega), wrap_i64 (n := k + 1) (by omega) (by omega)]
          refine ⟨⟨by omega, by omega, rfl, ?_⟩, by first | omega | (dsimp only; omega)⟩
          rw [hu, show (k + 1).toNat = k.toNat + 1 by omega, Nat.pow_succ, ← hP]
          omega
        · have hkk : k.toNat = i.toNat % 8 := by omega
          rw [hkk] at hP
          rw [wrap_i64 (n := (o.len : Int) - 1) (by omega) (by omega)]
          have hat : Int.toNat ((o.len : Int) - 1) = i.toNat / 8 := by omega
          have hsm := bitG_small row i.toNat hin (i.toNat / 8)
          rw [show i.toNat - 8 * (i.toNat / 8) = i.toNat % 8 by omega] at hsm
          refine byte_in (bs := (bitG row i.toNat).take ((i.toNat + 8) / 8)) r4.own.elems (by omega) (by rw [hTl]; omega) ?_
          rw [hat, by8_take (by omega), by8_bn]
          have hval : IntKind.wrap .u8 ((bn (bitG row i.toNat) (i.toNat / 8) : Int) + IntKind.wrap .u8 u) = ((bn (bitG row i.toNat) (i.toNat / 8) + 2 ^ (i.toNat % 8) : Nat) : Int) := by
            rw [hu, wrap_u8, wrap_u8, ← hP]
            rw [← hP] at hsm
            omega
          rw [hval, show i.toNat / 8 = ((o.len : Int) - 1).toNat from hat.symm]
          refine r4.set (i := (o.len : Int) - 1) (by omega) (by rw [hTl]; omega) (by omega) (by rw [hat]; omega) fun h5 r5 f5 => ?_
          refine ⟨⟨by first | omega | (dsimp only; omega), by first | omega | (dsimp only; omega), ?_, Only.cut x4 f5 fun j hj => hj⟩, by first | omega | (dsimp only; omega)⟩
          try dsimp only
          rw [hi1, cG_yes hin hx]
          rw [hat, Int.toNat_natCast] at r5
          exact r5
    clear HJ
    refine ⟨by decide, ?_⟩
    rw [htm]
    have hopen := dG_open (row := row) (i := i.toNat) hin
    refine If.dec.2 ⟨fun h8 => ?_, fun h8 => ?_⟩
    · rw [if_pos (by omega)] at hopen
      refine app_byte r3 (by omega) (by decide) (by decide) fun s4 h4 r4 f4 b4 => ?_
      refine step s4 h4 ?_ (Only.cut x3 (r3.cut f4) fun j hj => hj)
      rw [hopen]
      exact r4
    · rw [if_neg (by omega)] at hopen
      refine step out h3 ?_ x3
      rw [hopen]
      exact r3
  · have hin : i.toNat = row.length + 1 := by omega
    rw [hin] at r3
    have hc : cG row (row.length + 1) = bitF row := if_neg (by omega)
    rw [hc] at r3
    exact ⟨_, r3.str, hr h3 (x02.trans x3)⟩

/-! ### Whether a message can be -/

def yes : List Bool → Nat
  | [] => 0
  | b :: l => (if b = true then 1 else 0) + yes l

theorem yes_snoc : ∀ (l : List Bool) (b : Bool), yes (l ++ [b]) = yes l + if b = true then 1 else 0
  | [], b => by simp [yes]
  | a :: l, b => by rw [List.cons_append, yes, yes, yes_snoc l b]; omega

theorem yes_le : ∀ l : List Bool, yes l ≤ l.length
  | [] => Nat.le_refl _
  | b :: l => by have := yes_le l; rw [yes, List.length_cons]; split <;> omega

theorem yes_pos : ∀ l : List Bool, decide (0 < ((yes l : Nat) : Int)) = l.contains true
  | [] => by simp [yes]
  | b :: l => by
    have ih := yes_pos l
    rw [yes]
    cases b with
    | true => simp; omega
    | false => simp at ih ⊢; exact ih

theorem docgood_spec {m : Ms} {row : List Bool} (e : Elems 1 h m.bits (bools row)) (hl : row.length < 100000) (hr : ∀ h', Ext h h' → R (TV.bool (goodF m row)).val h') : CallsH Try.prog 57 (TVs.vals [m.tv]) h R := by
  apply tollerref07_Good_calls m.kind m.slot m.target m.member m.body m.bits m.tag
  unfold tollerref07_Good_vc
  have el : row.length = m.bits.len := by have := e.len; rwa [List.length_map] at this
  refine newTV_in fun h1 v1 x1 s1 => ?_
  have at0 := v1.at (t := m.tv)
  obtain ⟨a0, a1, a2, a3, a4, a5, a6⟩ := at0
  have hr1 := hr h1 x1
  intro J HJ
  have fin : ∀ b, 1 ≤ m.kind → m.kind ≤ 3 → m.slot ≥ 0 → m.slot ≤ 1073741824 → m.member ≥ 0 → m.member ≤ 65535 → J b h1 := by
    intro b k1 k2 g1 g2 g3 g4
    refine HJ b h1 ⟨m.bits, a5, ?_⟩
    refine ⟨fun σ hh => 0 ≤ σ.2 ∧ σ.2 ≤ m.bits.len ∧ hh = h1 ∧ σ.1 = ((yes (row.take σ.2.toNat) : Nat) : Int), fun σ _ => ((m.bits.len : Int) - σ.2).toNat, ⟨Int.le_refl 0, by first | omega | (dsimp only; omega), rfl, by simp [yes]⟩, ?_⟩
    rintro ⟨y, i⟩ hh ⟨i0, i1, rfl, hy⟩
    dsimp only at i0 i1 hy ⊢
    refine If.dec.2 ⟨fun hi => ?_, fun hi => ?_⟩
    · refine read_bool (e.ext x1) i0 (by omega) fun x hx => ?_
      have hys := yes_snoc (row.take i.toNat) x
      rw [← take_snoc hx] at hys
      have hyl := yes_le (row.take i.toNat)
      rw [List.length_take] at hyl
      rw [wrap_i64 (n := i + 1) (by omega) (by omega)]
      have hi1 : (i + 1).toNat = i.toNat + 1 := by omega
      cases x with
      | true =>
        rw [wrap_i64 (n := y + 1) (by omega) (by omega)]
        refine If.yes ⟨⟨by first | omega | (dsimp only; omega), by first | omega | (dsimp only; omega), rfl, ?_⟩, by first | omega | (dsimp only; omega)⟩
        try dsimp only
        rw [hi1, hys, if_pos rfl]
        omega
      | false =>
        refine If.no ⟨⟨by first | omega | (dsimp only; omega), by first | omega | (dsimp only; omega), rfl, ?_⟩, by first | omega | (dsimp only; omega)⟩
        try dsimp only
        rw [hi1, hys, if_neg (by decide)]
        omega
    · have hall : row.take i.toNat = row := List.take_of_length_le (by omega)
      rw [hall] at hy
      subst hy
      have hpos := yes_pos row
      have hpre : ∀ b5 : Bool, (!(decide (m.slot < 0) || decide (1073741824 < m.slot) || decide (m.member < 0) || decide (65535 < m.member) || b5)) = !b5 := by
        intro b5
        rw [decide_eq_false (show ¬ m.slot < 0 by omega), decide_eq_false (show ¬ 1073741824 < m.slot by omega), decide_eq_false (show ¬ m.member < 0 by omega), decide_eq_false (show ¬ 65535 < m.member by omega)]
        rfl
      unfold goodF at hr1
      rw [hpre] at hr1
      refine ⟨_, a0, If.dec.2 ⟨fun k3 => ?_, fun k3 => ?_⟩⟩
      · rw [if_pos k3, decide_eq_false (show ¬ m.kind = 1 by omega), ← hpos] at hr1
        refine ⟨_, a3, If.dec.2 ⟨fun g => ⟨_, a4, If.dec.2 ⟨fun g' => ⟨_, a5, If.dec.2 ⟨fun g'' => ?_, fun g'' => ?_⟩⟩, fun g' => ?_⟩⟩, fun g => ?_⟩⟩
        · rw [decide_eq_true g, decide_eq_true g', decide_eq_true (show row.length ≤ 16 by omega)] at hr1
          simpa using hr1
        · rw [decide_eq_true g, decide_eq_true g', decide_eq_false (show ¬ row.length ≤ 16 by omega)] at hr1
          simpa using hr1
        · rw [decide_eq_false g'] at hr1
          simpa using hr1
        · rw [decide_eq_false g] at hr1
          simpa using hr1
      · rw [if_neg k3] at hr1
        refine ⟨_, a5, If.dec.2 ⟨fun g => ⟨_, a0, If.dec.2 ⟨fun g' => ?_, fun g' => ⟨_, a4, ?_⟩⟩⟩, fun g => ?_⟩⟩
        · rw [decide_eq_true g', decide_eq_true (show row.length = 0 by omega)] at hr1
          simpa using hr1
        · rw [decide_eq_false g', decide_eq_true (show row.length = 0 by omega), decide_eq_true (show m.kind = 2 by omega)] at hr1
          simpa using hr1
        · rw [decide_eq_false (show ¬ row.length = 0 by omega)] at hr1
          simpa using hr1
  have bad : (m.kind < 1 ∨ 3 < m.kind ∨ m.slot < 0 ∨ 1073741824 < m.slot ∨ m.member < 0 ∨ 65535 < m.member) → R (TV.bool false).val h1 := by
    intro hb
    have : goodF m row = false := by
      unfold goodF
      rcases hb with hb | hb | hb | hb | hb | hb
      · rw [if_neg (by omega), decide_eq_false (show ¬ m.kind = 1 by omega), decide_eq_false (show ¬ m.kind = 2 by omega)]; simp
      · rw [if_neg (by omega), decide_eq_false (show ¬ m.kind = 1 by omega), decide_eq_false (show ¬ m.kind = 2 by omega)]; simp
      · simp [hb]
      · simp [hb]
      · simp [hb]
      · simp [hb]
    rw [this] at hr1
    exact hr1
  clear HJ
  exact ⟨_, a0, If.dec.2 ⟨fun g => bad (.inl g), fun g1 => ⟨_, a0, If.dec.2 ⟨fun g => bad (.inr (.inl g)), fun g2 => ⟨_, a1, If.dec.2 ⟨fun g => bad (.inr (.inr (.inl g))), fun g3 => ⟨_, a1, If.dec.2 ⟨fun g => bad (.inr (.inr (.inr (.inl g)))), fun g4 => ⟨_, a3, If.dec.2 ⟨fun g => bad (.inr (.inr (.inr (.inr (.inl g))))), fun g5 => ⟨_, a3, If.dec.2 ⟨fun g => bad (.inr (.inr (.inr (.inr (.inr g))))), fun g6 => fin _ (by omega) (by omega) (by omega) (by omega) (by omega) (by omega)⟩⟩⟩⟩⟩⟩⟩⟩⟩⟩⟩⟩

/-! ### Who speaks -/

end
end Go.Proofs.Ytldocdpdjdekiaa.Board
end

section
/- The conditions of functions, as the generator reckons them out, each with the proof that it is that. -/
namespace Go.Proofs.Ytldocdpdjdekiaa
open Go Go.Vc
set_option maxRecDepth 100000
set_option linter.unusedVariables false

def tollerref07_text_vc (b : Sl) (h : Heap) (R : Value → Heap → Prop) : Prop :=
 ∃ (bs : List UInt8), strAt h b bs ∧ R (TV.val (TV.str bs)) h

theorem tollerref07_text_calls (b : Sl) (h : Heap) (R : Value → Heap → Prop) (H : tollerref07_text_vc b h R) : CallsH Try.prog 94 (TVs.vals [TV.slice b]) h R :=
 vcFn_sound (C := ctx) ctx_ok (fn := Try.f94) Try.func94 ((by kernel_rfl : tollerref07_text_vc b h R = vcFn ctx Try.f94 [TV.slice b] h R) ▸ H)


def tollerref07_Plain_vc (m_Kind : Int) (m_Slot : Int) (m_Target : Bs (32 : Nat)) (m_Member : Int) (m_Body : Int) (m_Bits : Sl) (m_Tag : Bs (16 : Nat)) (h : Heap) (R : Value → Heap → Prop) : Prop :=
 Vc.Bind
 (newTV h
 (TV.agg
 [TV.int IntKind.i64 m_Kind, TV.int IntKind.i64 m_Slot, TV.bytes (32 : Nat) m_Target, TV.int IntKind.i64 m_Member, TV.int IntKind.u64 m_Body,
 TV.slice m_Bits, TV.bytes (16 : Nat) m_Tag])
 (63 : Nat))
 fun (h_1 : Array Obj) ↦
 Join
 (fun (s : Int × Int × List UInt8 × Int × Int × List UInt8 × List UInt8 × Sl × Sl × Sl × List UInt8 × List UInt8 × List UInt8) (h_2 : Array Obj) ↦
 ∃ (n : Int),
 at1 h_2 (Array.size h) (0 : Nat) (Value.int IntKind.i64 n) ∧
 If (decide (n = (3 : Int)))
 (∃ (s_1 : Sl),
 at1 h_2 (Array.size h) (36 : Nat) (slVal s_1) ∧
 CallsH Try.prog (125 : Nat) (TVs.vals [TV.slice s_1]) h_2 fun (v : Value) (h_3 : Array Obj) ↦
 ∃ (s_2 : List UInt8),
 v = TV.val (TV.str s_2) ∧
 (↑(List.length s.snd.snd.snd.snd.snd.snd.snd.snd.snd.snd.snd.snd + List.length s_2) : Int) ≤ (9223372036854775807 : Int) ∧
 R (TV.val (TV.str (s.snd.snd.snd.snd.snd.snd.snd.snd.snd.snd.snd.snd ++ s_2))) h_3)
 (∃ (n : Int),
 at1 h_2 (Array.size h) (34 : Nat) (Value.int IntKind.i64 n) ∧
 CallsH Try.prog (124 : Nat) (TVs.vals [TV.int IntKind.u64 (IntKind.wrap IntKind.u64 n), TV.int IntKind.i64 (2 : Int)]) h_2
 fun (v : Value) (h_3 : Array Obj) ↦
 ∃ (s_1 : List UInt8),
 v = TV.val (TV.str s_1) ∧
 (↑(List.length s.snd.snd.snd.snd.snd.snd.snd.snd.snd.snd.snd.snd + List.length s_1) : Int) ≤ (9223372036854775807 : Int) ∧
 ∃ (n : Int),
 at1 h_3 (Array.size h) (0 : Nat) (Value.int IntKind.i64 n) ∧
 If (decide (n = (1 : Int)))
 (∃ (n : Int),
 at1 h_3 (Array.size h) (35 : Nat) (Value.int IntKind.u64 n) ∧
 CallsH Try.prog (124 : Nat) (TVs.vals [TV.int IntKind.u64 n, TV.int IntKind.i64 (8 : Int)]) h_3
 fun (v : Value) (h_4 : Array Obj) ↦
 ∃ (s_2 : List UInt8),
 v = TV.val (TV.str s_2) ∧
 (↑(List.length (s.snd.snd.snd.snd.snd.snd.snd.snd.snd.snd.snd.snd ++ s_1) + List.length s_2) : Int) ≤
 (9223372036854775807 : Int) ∧
 R (TV.val (TV.str (s.snd.snd.snd.snd.snd.snd.snd.snd.snd.snd.snd.snd ++ s_1 ++ s_2))) h_4)
 (R (TV.val (TV.str (s.snd.snd.snd.snd.snd.snd.snd.snd.snd.snd.snd.snd ++ s_1))) h_3)))
 fun (J : Int × Int × List UInt8 × Int × Int × List UInt8 × List UInt8 × Sl × Sl × Sl × List UInt8 × List UInt8 × List UInt8 → Array Obj → Prop) ↦
 ∃ (n : Int),
 at1 h_1 (Array.size h) (0 : Nat) (Value.int IntKind.i64 n) ∧
 ∃ (n_1 : Int),
 at1 h_1 (Array.size h) (1 : Nat) (Value.int IntKind.i64 n_1) ∧
 (CallsH Try.prog (124 : Nat) (TVs.vals [TV.int IntKind.u64 (IntKind.wrap IntKind.u64 n), TV.int IntKind.i64 (1 : Int)]) h_1
 fun (v : Value) (h_2 : Array Obj) ↦
 ∃ (s : List UInt8),
 v = TV.val (TV.str s) ∧
 Ext h_1 h_2 ∧
 (CallsH Try.prog (124 : Nat) (TVs.vals [TV.int IntKind.u64 (IntKind.wrap IntKind.u64 n_1), TV.int IntKind.i64 (4 : Int)]) h_2
 fun (v : Value) (h_3 : Array Obj) ↦
 ∃ (s_1 : List UInt8),
 v = TV.val (TV.str s_1) ∧
 (↑(List.length s + List.length s_1) : Int) ≤ (9223372036854775807 : Int) ∧
 Ext h_3 (Array.push h_3 (row (TVs.cells []) (5 : Nat))) ∧
 ∃ (new : List Value),
 slAt (Array.push h_3 (row (TVs.cells []) (5 : Nat)))
 (cutSl (Sl.mk (some (Loc.mk (Array.size h) (2 : Nat))) (32 : Nat) (32 : Nat)) (0 : Nat) (32 : Nat) (1 : Nat)) (1 : Nat)
 new ∧
 (∀ (v : Value), v ∈ new → isOne v = true) ∧
 vcAppend Ytldocdpdjdekiaa.ctx (5 : Nat) (Sl.mk (some (Loc.mk (Array.size h_3) (0 : Nat))) (0 : Nat) (0 : Nat))
 (cutSl (Sl.mk (some (Loc.mk (Array.size h) (2 : Nat))) (32 : Nat) (32 : Nat)) (0 : Nat) (32 : Nat) (1 : Nat)).len new
 (Array.push h_3 (row (TVs.cells []) (5 : Nat))) fun (s_2 : Sl) (h_4 : Array Obj) ↦
 CallsH Try.prog (94 : Nat) (TVs.vals [TV.slice s_2]) h_4 fun (v : Value) (h_5 : Array Obj) ↦
 ∃ (s_3 : List UInt8),
 v = TV.val (TV.str s_3) ∧
 (↑(List.length (s ++ s_1) + List.length s_3) : Int) ≤ (9223372036854775807 : Int) ∧
 J
 (n, IntKind.wrap IntKind.u64 n, s, n_1, IntKind.wrap IntKind.u64 n_1, s_1, s ++ s_1,
 Sl.mk (some (Loc.mk (Array.size h_3) (0 : Nat))) (0 : Nat) (0 : Nat),
 cutSl (Sl.mk (some (Loc.mk (Array.size h) (2 : Nat))) (32 : Nat) (32 : Nat)) (0 : Nat) (32 : Nat)
 (1 : Nat),
 s_2, s_3, s ++ s_1 ++ s_3, s ++ s_1 ++ s_3)
 h_5) ∧
 Ext h_2 (Array.push h_2 (row (TVs.cells []) (5 : Nat))) ∧
 CallsH Try.prog (124 : Nat) (TVs.vals [TV.int IntKind.u64 (IntKind.wrap IntKind.u64 n_1), TV.int IntKind.i64 (4 : Int)])
 (Array.push h_2 (row (TVs.cells []) (5 : Nat))) fun (v : Value) (h_3 : Array Obj) ↦
 ∃ (s_1 : List UInt8),
 v = TV.val (TV.str s_1) ∧
 (↑(List.length s + List.length s_1) : Int) ≤ (9223372036854775807 : Int) ∧
 ∃ (new : List Value),
 slAt h_3 (cutSl (Sl.mk (some (Loc.mk (Array.size h) (2 : Nat))) (32 : Nat) (32 : Nat)) (0 : Nat) (32 : Nat) (1 : Nat))
 (1 : Nat) new ∧
 (∀ (v : Value), v ∈ new → isOne v = true) ∧
 vcAppend Ytldocdpdjdekiaa.ctx (5 : Nat) (Sl.mk (some (Loc.mk (Array.size h_2) (0 : Nat))) (0 : Nat) (0 : Nat))
 (cutSl (Sl.mk (some (Loc.mk (Array.size h) (2 : Nat))) (32 : Nat) (32 : Nat)) (0 : Nat) (32 : Nat) (1 : Nat)).len new
 h_3 fun (s_2 : Sl) (h_4 : Array Obj) ↦
 CallsH Try.prog (94 : Nat) (TVs.vals [TV.slice s_2]) h_4 fun (v : Value) (h_5 : Array Obj) ↦
 ∃ (s_3 : List UInt8),
 v = TV.val (TV.str s_3) ∧
 (↑(List.length (s ++ s_1) + List.length s_3) : Int) ≤ (9223372036854775807 : Int) ∧
 J
 (n, IntKind.wrap IntKind.u64 n, s, n_1, IntKind.wrap IntKind.u64 n_1, s_1, s ++ s_1,
 Sl.mk (some (Loc.mk (Array.size h_2) (0 : Nat))) (0 : Nat) (0 : Nat),
 cutSl (Sl.mk (some (Loc.mk (Array.size h) (2 : Nat))) (32 : Nat) (32 : Nat)) (0 : Nat) (32 : Nat)
 (1 : Nat),
 s_2, s_3, s ++ s_1 ++ s_3, s ++ s_1 ++ s_3)
 h_5) ∧
 Ext h_1 (Array.push h_1 (row (TVs.cells []) (5 : Nat))) ∧
 CallsH Try.prog (124 : Nat) (TVs.vals [TV.int IntKind.u64 (IntKind.wrap IntKind.u64 n), TV.int IntKind.i64 (1 : Int)])
 (Array.push h_1 (row (TVs.cells []) (5 : Nat))) fun (v : Value) (h_2 : Array Obj) ↦
 ∃ (s : List UInt8),
 v = TV.val (TV.str s) ∧
 Ext (Array.push h_1 (row (TVs.cells []) (5 : Nat))) h_2 ∧
 CallsH Try.prog (124 : Nat) (TVs.vals [TV.int IntKind.u64 (IntKind.wrap IntKind.u64 n_1), TV.int IntKind.i64 (4 : Int)]) h_2
 fun (v : Value) (h_3 : Array Obj) ↦
 ∃ (s_1 : List UInt8),
 v = TV.val (TV.str s_1) ∧
 (↑(List.length s + List.length s_1) : Int) ≤ (9223372036854775807 : Int) ∧
 ∃ (new : List Value),
 slAt h_3 (cutSl (Sl.mk (some (Loc.mk (Array.size h) (2 : Nat))) (32 : Nat) (32 : Nat)) (0 : Nat) (32 : Nat) (1 : Nat))
 (1 : Nat) new ∧
 (∀ (v : Value), v ∈ new → isOne v = true) ∧
 vcAppend Ytldocdpdjdekiaa.ctx (5 : Nat) (Sl.mk (some (Loc.mk (Array.size h_1) (0 : Nat))) (0 : Nat) (0 : Nat))
 (cutSl (Sl.mk (some (Loc.mk (Array.size h) (2 : Nat))) (32 : Nat) (32 : Nat)) (0 : Nat) (32 : Nat) (1 : Nat)).len new
 h_3 fun (s_2 : Sl) (h_4 : Array Obj) ↦
 CallsH Try.prog (94 : Nat) (TVs.vals [TV.slice s_2]) h_4 fun (v : Value) (h_5 : Array Obj) ↦
 ∃ (s_3 : List UInt8),
 v = TV.val (TV.str s_3) ∧
 (↑(List.length (s ++ s_1) + List.length s_3) : Int) ≤ (9223372036854775807 : Int) ∧
 J
 (n, IntKind.wrap IntKind.u64 n, s, n_1, IntKind.wrap IntKind.u64 n_1, s_1, s ++ s_1,
 Sl.mk (some (Loc.mk (Array.size h_1) (0 : Nat))) (0 : Nat) (0 : Nat),
 cutSl (Sl.mk (some (Loc.mk (Array.size h) (2 : Nat))) (32 : Nat) (32 : Nat)) (0 : Nat) (32 : Nat) (1 : Nat),
 s_2, s_3, s ++ s_1 ++ s_3, s ++ s_1 ++ s_3)
 h_5

theorem tollerref07_Plain_calls (m_Kind : Int) (m_Slot : Int) (m_Target : Bs (32 : Nat)) (m_Member : Int) (m_Body : Int) (m_Bits : Sl) (m_Tag : Bs (16 : Nat)) (h : Heap) (R : Value → Heap → Prop) (H : tollerref07_Plain_vc m_Kind m_Slot m_Target m_Member m_Body m_Bits m_Tag h R) : CallsH Try.prog 93 (TVs.vals [TV.agg [TV.int IntKind.i64 m_Kind, TV.int IntKind.i64 m_Slot, TV.bytes (32 : Nat) m_Target, TV.int IntKind.i64 m_Member, TV.int IntKind.u64 m_Body, TV.slice m_Bits, TV.bytes (16 : Nat) m_Tag]]) h R :=
 vcFn_sound (C := ctx) ctx_ok (fn := Try.f93) Try.func93 ((by kernel_rfl : tollerref07_Plain_vc m_Kind m_Slot m_Target m_Member m_Body m_Bits m_Tag h R = vcFn ctx Try.f93 [TV.agg [TV.int IntKind.i64 m_Kind, TV.int IntKind.i64 m_Slot, TV.bytes (32 : Nat) m_Target, TV.int IntKind.i64 m_Member, TV.int IntKind.u64 m_Body, TV.slice m_Bits, TV.bytes (16 : Nat) m_Tag]] h R) ▸ H)


def tollerref02_Same_vc (a : Sl) (b : Sl) (h : Heap) (R : Value → Heap → Prop) : Prop :=
 If (!decide ((↑a.len : Int) = (↑b.len : Int))) (R (TV.val (TV.bool false)) h)
 (Go.Vc.Loop (false, (0 : Int)) h fun (s : Bool × Int) (h : Array Obj) (K : Bool × Int → Array Obj → Prop) ↦
 If (decide (s.snd < (↑a.len : Int)))
 ((0 : Int) ≤ s.snd ∧
 s.snd < (↑a.len : Int) ∧
 Nn a.a fun (l : Go.Vc.Loc) ↦
 ∃ (b_1 : Bool),
 at1 h l.b (l.o + Int.toNat s.snd * (1 : Nat)) (Value.bool b_1) ∧
 (0 : Int) ≤ s.snd ∧
 s.snd < (↑b.len : Int) ∧
 Nn b.a fun (l : Go.Vc.Loc) ↦
 ∃ (b : Bool),
 at1 h l.b (l.o + Int.toNat s.snd * (1 : Nat)) (Value.bool b) ∧
 If (!b_1 == b) (R (TV.val (TV.bool false)) h) (K (s.fst, IntKind.wrap IntKind.i64 (s.snd + (1 : Int))) h))
 (R (TV.val (TV.bool true)) h))

theorem tollerref02_Same_calls (a : Sl) (b : Sl) (h : Heap) (R : Value → Heap → Prop) (H : tollerref02_Same_vc a b h R) : CallsH Try.prog 96 (TVs.vals [TV.slice a, TV.slice b]) h R :=
 vcFn_sound (C := ctx) ctx_ok (fn := Try.f96) Try.func96 ((by kernel_rfl : tollerref02_Same_vc a b h R = vcFn ctx Try.f96 [TV.slice a, TV.slice b] h R) ▸ H)


def tollerref07_Same_vc (a_Kind : Int) (a_Slot : Int) (a_Target : Bs (32 : Nat)) (a_Member : Int) (a_Body : Int) (a_Bits : Sl) (a_Tag : Bs (16 : Nat)) (b_Kind : Int) (b_Slot : Int) (b_Target : Bs (32 : Nat)) (b_Member : Int) (b_Body : Int) (b_Bits : Sl) (b_Tag : Bs (16 : Nat)) (h : Heap) (R : Value → Heap → Prop) : Prop :=
 Vc.Bind
 (newTV h
 (TV.agg
 [TV.int IntKind.i64 a_Kind, TV.int IntKind.i64 a_Slot, TV.bytes (32 : Nat) a_Target, TV.int IntKind.i64 a_Member, TV.int IntKind.u64 a_Body,
 TV.slice a_Bits, TV.bytes (16 : Nat) a_Tag])
 (63 : Nat))
 fun (h_1 : Array Obj) ↦
 Vc.Bind
 (newTV h_1
 (TV.agg
 [TV.int IntKind.i64 b_Kind, TV.int IntKind.i64 b_Slot, TV.bytes (32 : Nat) b_Target, TV.int IntKind.i64 b_Member, TV.int IntKind.u64 b_Body,
 TV.slice b_Bits, TV.bytes (16 : Nat) b_Tag])
 (63 : Nat))
 fun (h_2 : Array Obj) ↦
 ∃ (n : Int),
 at1 h_2 (Array.size h) (0 : Nat) (Value.int IntKind.i64 n) ∧
 ∃ (n_1 : Int),
 at1 h_2 (Array.size h_1) (0 : Nat) (Value.int IntKind.i64 n_1) ∧
 If (decide (n = n_1))
 (∃ (n : Int),
 at1 h_2 (Array.size h) (1 : Nat) (Value.int IntKind.i64 n) ∧
 ∃ (n_2 : Int),
 at1 h_2 (Array.size h_1) (1 : Nat) (Value.int IntKind.i64 n_2) ∧
 If (decide (n = n_2))
 (∃ (b : Bs (32 : Nat)),
 atBytes h_2 (Array.size h) (2 : Nat) (32 : Nat) b ∧
 ∃ (b_1 : Bs (32 : Nat)),
 atBytes h_2 (Array.size h_1) (2 : Nat) (32 : Nat) b_1 ∧
 If (decide (b.l = b_1.l))
 (∃ (n : Int),
 at1 h_2 (Array.size h) (34 : Nat) (Value.int IntKind.i64 n) ∧
 ∃ (n_3 : Int),
 at1 h_2 (Array.size h_1) (34 : Nat) (Value.int IntKind.i64 n_3) ∧
 If (decide (n = n_3))
 (∃ (n : Int),
 at1 h_2 (Array.size h) (35 : Nat) (Value.int IntKind.u64 n) ∧
 ∃ (n_4 : Int),
 at1 h_2 (Array.size h_1) (35 : Nat) (Value.int IntKind.u64 n_4) ∧
 If (decide (n = n_4))
 (∃ (b : Bs (16 : Nat)),
 atBytes h_2 (Array.size h) (37 : Nat) (16 : Nat) b ∧
 ∃ (b_2 : Bs (16 : Nat)),
 atBytes h_2 (Array.size h_1) (37 : Nat) (16 : Nat) b_2 ∧
 If (decide (b.l = b_2.l))
 (∃ (s : Sl),
 at1 h_2 (Array.size h) (36 : Nat) (slVal s) ∧
 ∃ (s_1 : Sl),
 at1 h_2 (Array.size h_1) (36 : Nat) (slVal s_1) ∧
 CallsH Try.prog (96 : Nat) (TVs.vals [TV.slice s, TV.slice s_1]) h_2
 fun (v : Value) (h : Array Obj) ↦
 ∃ (b : Bool), v = TV.val (TV.bool b) ∧ R (TV.val (TV.bool b)) h)
 (R (TV.val (TV.bool false)) h_2))
 (R (TV.val (TV.bool false)) h_2))
 (R (TV.val (TV.bool false)) h_2))
 (R (TV.val (TV.bool false)) h_2))
 (R (TV.val (TV.bool false)) h_2))
 (R (TV.val (TV.bool false)) h_2)

theorem tollerref07_Same_calls (a_Kind : Int) (a_Slot : Int) (a_Target : Bs (32 : Nat)) (a_Member : Int) (a_Body : Int) (a_Bits : Sl) (a_Tag : Bs (16 : Nat)) (b_Kind : Int) (b_Slot : Int) (b_Target : Bs (32 : Nat)) (b_Member : Int) (b_Body : Int) (b_Bits : Sl) (b_Tag : Bs (16 : Nat)) (h : Heap) (R : Value → Heap → Prop) (H : tollerref07_Same_vc a_Kind a_Slot a_Target a_Member a_Body a_Bits a_Tag b_Kind b_Slot b_Target b_Member b_Body b_Bits b_Tag h R) : CallsH Try.prog 61 (TVs.vals [TV.agg [TV.int IntKind.i64 a_Kind, TV.int IntKind.i64 a_Slot, TV.bytes (32 : Nat) a_Target, TV.int IntKind.i64 a_Member, TV.int IntKind.u64 a_Body, TV.slice a_Bits, TV.bytes (16 : Nat) a_Tag], TV.agg [TV.int IntKind.i64 b_Kind, TV.int IntKind.i64 b_Slot, TV.bytes (32 : Nat) b_Target, TV.int IntKind.i64 b_Member, TV.int IntKind.u64 b_Body, TV.slice b_Bits, TV.bytes (16 : Nat) b_Tag]]) h R :=
 vcFn_sound (C := ctx) ctx_ok (fn := Try.f61) Try.func61 ((by kernel_rfl : tollerref07_Same_vc a_Kind a_Slot a_Target a_Member a_Body a_Bits a_Tag b_Kind b_Slot b_Target b_Member b_Body b_Bits b_Tag h R = vcFn ctx Try.f61 [TV.agg [TV.int IntKind.i64 a_Kind, TV.int IntKind.i64 a_Slot, TV.bytes (32 : Nat) a_Target, TV.int IntKind.i64 a_Member, TV.int IntKind.u64 a_Body, TV.slice a_Bits, TV.bytes (16 : Nat) a_Tag], TV.agg [TV.int IntKind.i64 b_Kind, TV.int IntKind.i64 b_Slot, TV.bytes (32 : Nat) b_Target, TV.int IntKind.i64 b_Member, TV.int IntKind.u64 b_Body, TV.slice b_Bits, TV.bytes (16 : Nat) b_Tag]] h R) ▸ H)


end Go.Proofs.Ytldocdpdjdekiaa
end

section
/- The document's bytes, tags, checks and votes: the program's. -/
namespace Go.Proofs.Ytldocdpdjdekiaa.Board
open Go Go.Vc
section
variable {R : Value → Heap → Prop} {h : Heap}

/-- What every message that comes in has. -/
def BodyOk (m : Ms) : Prop := 0 ≤ m.body ∧ m.body < 18446744073709551616

theorem kind_byte {n : Int} (h : n = 1 ∨ n = 2 ∨ n = 3) : leR (IntKind.wrap .u64 n) 1 = [UInt8.ofNat (IntKind.wrap .u8 n).toNat] := by
  rcases h with h | h | h <;> subst h <;> rfl

theorem good_kind {m : Ms} {row : List Bool} (hg : goodF m row = true) : m.kind = 1 ∨ m.kind = 2 ∨ m.kind = 3 := by
  by_cases h3 : m.kind = 3
  · exact .inr (.inr h3)
  · unfold goodF at hg
    rw [if_neg h3] at hg
    simp only [Bool.and_eq_true, Bool.or_eq_true, decide_eq_true_eq] at hg
    rcases hg.2.1 with h | h
    · exact .inl h
    · exact .inr (.inl h)

theorem empty_row {b : Nat} {hh : Heap} (hb : b < hh.size) : Row (fun i => b < i) (hh.push (Vc.row (TVs.cells []) 5)) ⟨some ⟨hh.size, 0⟩, 0, 0⟩ [] := by
  refine ⟨Own.new (T := 5) (sz := 1) hh [] (fun t ht => by cases ht), fun l hl => ?_, fun i hi => ?_⟩
  · obtain rfl := Option.some.inj hl
    exact hb
  · rw [Array.size_push] at hi
    omega

theorem Row.ext {Q : Nat → Prop} {h' : Heap} {s : Sl} {bs : List UInt8} (r : Row Q h s bs) (e : Ext h h') : Row Q h' s bs :=
  ⟨r.own.ext e, r.far, fun i hi => r.new i (Nat.le_trans e.size hi)⟩

theorem target_in {m : Ms} {b : Nat} {s : Sl} {K : Sl → Value → Heap → Prop} (v : Var 63 h b m.tv) (r : Row (fun i => b < i) h s []) (hk : ∀ s' h', Only (fun i => b < i) h h' → K s' (TV.str m.target.l).val h') :
    ∃ (new : List Value), slAt h (cutSl (Sl.mk (some (Vc.Loc.mk b 2)) 32 32) 0 32 1) 1 new ∧ (∀ (v : Value), v ∈ new → isOne v = true) ∧ vcAppend ctx 5 s (cutSl (Sl.mk (some (Vc.Loc.mk b 2)) 32 32) 0 32 1).len new h fun (s_2 : Sl) (h_4 : Array Obj) => CallsH Try.prog 94 (TVs.vals [TV.slice s_2]) h_4 (K s_2) := by
  obtain ⟨a0, a1, a2, a3, a4, a5, a6⟩ := v.at (t := m.tv)
  have hc : cutSl (Sl.mk (some (Vc.Loc.mk b 2)) 32 32) 0 32 1 = ⟨some ⟨b, 2⟩, 32, 32⟩ := rfl
  rw [hc]
  refine ⟨m.target.l.map fun c => Value.int .u8 (c.toNat : Int), by rw [← bys_cells]; exact (elems_bytes a2).cells (bys_size _) (by decide), bcells_one m.target.l, ?_⟩
  refine app_bytesN m.target.h.symm r (by rw [m.target.h]; decide) fun s3 h3 r3 f3 b3 => ?_
  apply tollerref07_text_calls
  exact ⟨_, r3.str, hk s3 h3 (r.cut f3)⟩

set_option maxRecDepth 100000 in
theorem docplain_spec {m : Ms} {row : List Bool} (e : Elems 1 h m.bits (bools row)) (hl : row.length < 500) (hk : m.kind = 1 ∨ m.kind = 2 ∨ m.kind = 3) (hb : BodyOk m) (hr : ∀ h', Ext h h' → R (TV.str (plainF m row)).val h') : CallsH Try.prog 93 (TVs.vals [m.tv]) h R := by
  apply tollerref07_Plain_calls m.kind m.slot m.target m.member m.body m.bits m.tag
  unfold tollerref07_Plain_vc
  refine newTV_in fun h1 v1 x1 s1 => ?_
  have v1 : Var 63 h1 h.size m.tv := v1
  obtain ⟨a0, a1, a2, a3, a4, a5, a6⟩ := v1.at (t := m.tv)
  intro J HJ
  obtain ⟨P, hP⟩ : ∃ P, P = ([UInt8.ofNat (IntKind.wrap .u8 m.kind).toNat] ++ leF (IntKind.wrap .u64 m.slot) 4) ++ m.target.l := ⟨_, rfl⟩
  have lP : P.length = 37 := by
    rw [hP, List.length_append, List.length_append, leF_len, List.length_singleton, m.target.h]
  have hw := wrap_u64_range m.member
  have hs := wrap_u64_range m.slot
  have fin : ∀ (s : Int × Int × List UInt8 × Int × Int × List UInt8 × List UInt8 × Sl × Sl × Sl × List UInt8 × List UInt8 × List UInt8) (h5 : Heap), Ext h1 h5 → s.2.2.2.2.2.2.2.2.2.2.2.2 = P → J s h5 := by
    intro s h5 x5 hsP
    refine HJ s h5 ?_
    dsimp only
    rw [hsP]
    have v5 := v1.ext x5
    obtain ⟨b0, b1, b2, b3, b4, b5, b6⟩ := v5.at (t := m.tv)
    have x05 := x1.trans x5
    refine ⟨_, b0, If.dec.2 ⟨fun k3 => ⟨_, b5, bytesof_spec (e.ext x05) hl fun h6 x6 => ⟨_, rfl, ?_, ?_⟩⟩, fun k3 => ⟨_, b3, docput_spec 2 _ _ _ (by decide) fun h6 x6 => ⟨_, rfl, ?_, _, at1_ext x6 b0, If.dec.2 ⟨fun k1 => ⟨_, at1_ext x6 b4, docput_spec 8 _ _ _ (by decide) fun h7 x7 => ⟨_, rfl, ?_, ?_⟩⟩, fun k1 => ?_⟩⟩⟩⟩⟩
    · rw [lP, bitF_len]; omega
    · have := hr h6 (x05.trans x6)
      unfold plainF at this
      rw [if_neg (by omega), if_neg (by omega), if_pos k3, ← hP] at this
      exact this
    · rw [lP, leR_length]; decide
    · rw [List.length_append, lP, leR_length, leR_length]; decide
    · have := hr h7 ((x05.trans x6).trans x7)
      unfold plainF at this
      rw [if_pos k1, ← hP, ← leR_eq 2 _ hw.1 hw.2, ← leR_eq 8 _ hb.1 hb.2, ← List.append_assoc] at this
      exact this
    · have := hr h6 (x05.trans x6)
      unfold plainF at this
      rw [if_neg k1, if_pos (by omega), ← hP, ← leR_eq 2 _ hw.1 hw.2] at this
      exact this
  clear HJ
  have l1 : ∀ n, (leR n 1).length = 1 := leR_length 1
  have l4 : ∀ n, (leR n 4).length = 4 := leR_length 4
  have lT := m.target.h
  have hPP : (leR (IntKind.wrap .u64 m.kind) 1 ++ leR (IntKind.wrap .u64 m.slot) 4) ++ m.target.l = P := by
    rw [hP, kind_byte hk, leR_eq 4 _ hs.1 hs.2]
  have len2 : ((leR (IntKind.wrap .u64 m.kind) 1).length + (leR (IntKind.wrap .u64 m.slot) 4).length : Nat) ≤ (9223372036854775807 : Int) := by rw [l1, l4]; decide
  have len3 : ((leR (IntKind.wrap .u64 m.kind) 1 ++ leR (IntKind.wrap .u64 m.slot) 4).length + m.target.l.length : Nat) ≤ (9223372036854775807 : Int) := by rw [List.length_append, l1, l4, lT]; decide
  refine ⟨_, a0, _, a1, ⟨docput_spec 1 _ _ _ (by decide) fun h2 x2 => ⟨_, rfl, x2, ⟨docput_spec 4 _ _ _ (by decide) fun h3 x3 => ⟨_, rfl, len2, Ext.push _ _, ?_⟩, Ext.push _ _, docput_spec 4 _ _ _ (by decide) fun h3 x3 => ⟨_, rfl, len2, ?_⟩⟩⟩, Ext.push _ _, docput_spec 1 _ _ _ (by decide) fun h2 x2 => ⟨_, rfl, x2, docput_spec 4 _ _ _ (by decide) fun h3 x3 => ⟨_, rfl, len2, ?_⟩⟩⟩⟩
  · have z2 := x2.size
    have z3 := x3.size
    have xx := (x2.trans x3).trans (Ext.push h3 (Vc.row (TVs.cells []) 5))
    exact target_in (v1.ext xx) (empty_row (by omega)) fun s4 h4 o4 => ⟨_, rfl, len3, fin _ h4 (Only.cut xx o4 fun i hi => by omega) hPP⟩
  · have z2 := x2.size
    have xx := (x2.trans (Ext.push h2 (Vc.row (TVs.cells []) 5))).trans x3
    exact target_in (v1.ext xx) ((empty_row (by omega)).ext x3) fun s4 h4 o4 => ⟨_, rfl, len3, fin _ h4 (Only.cut xx o4 fun i hi => by omega) hPP⟩
  · have xx := ((Ext.push h1 (Vc.row (TVs.cells []) 5)).trans x2).trans x3
    exact target_in (v1.ext xx) ((empty_row (by omega)).ext (x2.trans x3)) fun s4 h4 o4 => ⟨_, rfl, len3, fin _ h4 (Only.cut xx o4 fun i hi => by omega) hPP⟩

theorem b16 {x : Bs 16} : (TV.bytes 16 x).size = 16 := by simp only [TV.size]
/-- A vote's bytes. -/
theorem docvoteplain_spec {slot who : Int} {target : Bs 32} (hr : ∀ h', Ext h h' → R (TV.str (plainF ⟨2, slot, target, who, 0, Sl.nil, Bs.zero 16⟩ [])).val h') :
    CallsH Try.prog 93 (TVs.vals [.agg [.int .i64 2, .int .i64 slot, .bytes 32 target, .int .i64 who, .int .u64 0, .slice Sl.nil, .bytes 16 (Bs.zero 16)]]) h R :=
  docplain_spec (m := ⟨2, slot, target, who, 0, Sl.nil, Bs.zero 16⟩) (row := []) (Elems.nil_ 1 h) (by decide) (.inr (.inl rfl)) ⟨Int.le_refl 0, by show (0 : Int) < _; decide⟩ hr

/-! ### Two messages, the same -/

theorem bsame_spec {s t : Sl} {l : List Bool} (e : Elems 1 h s (bools l)) (k : Elems 1 h t (bools l)) (hl : l.length < 100000) (hr : R (TV.bool true).val h) : CallsH Try.prog 96 (TVs.vals [.slice s, .slice t]) h R := by
  apply tollerref02_Same_calls
  unfold tollerref02_Same_vc
  have es : l.length = s.len := by have := e.len; rwa [List.length_map] at this
  have et : l.length = t.len := by have := k.len; rwa [List.length_map] at this
  refine If.split (fun hb => ?_) fun _ => ?_
  · have : ((s.len : Nat) : Int) = ((t.len : Nat) : Int) := by omega
    simp [this] at hb
  refine ⟨fun σ hh => 0 ≤ σ.2 ∧ σ.2 ≤ s.len ∧ hh = h, fun σ _ => ((s.len : Int) - σ.2).toNat, ⟨Int.le_refl 0, by first | omega | (dsimp only; omega), rfl⟩, ?_⟩
  rintro ⟨f, i⟩ hh ⟨i0, i1, rfl⟩
  dsimp only at i0 i1 ⊢
  refine If.dec.2 ⟨fun hi => ?_, fun hi => hr⟩
  refine read_bool e i0 (by omega) fun x hx => read_bool k i0 (by omega) fun y hy => ?_
  rw [hx] at hy
  obtain rfl := Option.some.inj hy
  have : (!x == x) = false := by cases x <;> rfl
  rw [this]
  refine If.no ?_
  rw [wrap_i64 (n := i + 1) (by omega) (by omega)]
  exact ⟨⟨by first | omega | (dsimp only; omega), by first | omega | (dsimp only; omega), rfl⟩, by first | omega | (dsimp only; omega)⟩

/-- Two messages with the same parts, whatever slices hold their bits. -/
theorem msame_spec {a b : Ms} {row : List Bool} (e : Elems 1 h a.bits (bools row)) (k : Elems 1 h b.bits (bools row)) (hl : row.length < 100000) (h1 : a.kind = b.kind) (h2 : a.slot = b.slot) (h3 : a.target = b.target) (h4 : a.member = b.member) (h5 : a.body = b.body) (h6 : a.tag = b.tag)
    (hr : ∀ h', Ext h h' → R (TV.bool true).val h') : CallsH Try.prog 61 (TVs.vals [a.tv, b.tv]) h R := by
  apply tollerref07_Same_calls a.kind a.slot a.target a.member a.body a.bits a.tag b.kind b.slot b.target b.member b.body b.bits b.tag
  unfold tollerref07_Same_vc
  refine newTV_in fun h1' v1 x1 s1 => newTV_in fun h2' v2 x2 s2 => ?_
  have v1 : Var 63 h2' h.size a.tv := Var.ext (t := a.tv) v1 x2
  have v2 : Var 63 h2' h1'.size b.tv := v2
  obtain ⟨a0, a1, a2, a3, a4, a5, a6⟩ := v1.at (t := a.tv)
  obtain ⟨b0, b1, b2, b3, b4, b5, b6⟩ := v2.at (t := b.tv)
  have x02 := x1.trans x2
  refine ⟨_, a0, _, b0, If.dec.2 ⟨fun _ => ?_, fun hn => absurd h1 hn⟩⟩
  refine ⟨_, a1, _, b1, If.dec.2 ⟨fun _ => ?_, fun hn => absurd h2 hn⟩⟩
  refine ⟨_, a2, _, b2, If.dec.2 ⟨fun _ => ?_, fun hn => absurd (by rw [h3]) hn⟩⟩
  refine ⟨_, a3, _, b3, If.dec.2 ⟨fun _ => ?_, fun hn => absurd h4 hn⟩⟩
  refine ⟨_, a4, _, b4, If.dec.2 ⟨fun _ => ?_, fun hn => absurd h5 hn⟩⟩
  refine ⟨_, a6, _, b6, If.dec.2 ⟨fun _ => ?_, fun hn => absurd (by rw [h6]) hn⟩⟩
  exact ⟨_, a5, _, b5, bsame_spec (e.ext x02) (k.ext x02) hl ⟨_, rfl, hr h2' x02⟩⟩

end
end Go.Proofs.Ytldocdpdjdekiaa.Board
end

section
/- Items: their order, rows in order, heaps; plain lists, no program in sight. -/
namespace Go.Proofs.Ytldocdpdjdekiaa.Pool
open Go Go.Vc

instance decBs {n : Nat} : DecidableEq (Bs n) := fun a b => decidable_of_iff (a.l = b.l) ⟨fun e => Bs.ext' e, fun e => by rw [e]⟩

structure It where
  slot : Int
  root : Bs 32
  peer : Int
  fr : Bs 32
  text : List UInt8

def It.tv (x : It) : TV := .agg [.int .i64 x.slot, .bytes 32 x.root, .int .i64 x.peer, .bytes 32 x.fr, .str x.text]
def It.zero : It := ⟨0, Bs.zero 32, 0, Bs.zero 32, []⟩
instance : Inhabited It := ⟨It.zero⟩

theorem It.size (x : It) : x.tv.size = 67 := rfl
theorem It.plain (x : It) : x.tv.plain = true := rfl
theorem It.tv_inj {x y : It} (h : x.tv = y.tv) : x = y := by
  cases x; cases y
  simp only [It.tv, TV.agg.injEq, List.cons.injEq, TV.int.injEq, TV.bytes.injEq, TV.str.injEq, true_and, heq_eq_eq, and_true] at h
  obtain ⟨h1, h2, h3, h4, h5⟩ := h
  subst h1; subst h2; subst h3; subst h4; subst h5
  rfl

/-! ### Names in order -/

theorem less_irrefl : ∀ a : List UInt8, Op.bytesLess a a = false
  | [] => rfl
  | x :: xs => by simp [Op.bytesLess, less_irrefl xs, UInt8.lt_irrefl]

theorem less_asymm : ∀ a b : List UInt8, Op.bytesLess a b = true → Op.bytesLess b a = false
  | [], [], h => by cases h
  | [], y :: ys, _ => rfl
  | x :: xs, [], h => by cases h
  | x :: xs, y :: ys, h => by
    simp only [Op.bytesLess, Bool.or_eq_true, Bool.and_eq_true, decide_eq_true_eq, beq_iff_eq] at h
    simp only [Op.bytesLess, Bool.or_eq_false_iff, Bool.and_eq_false_iff, decide_eq_false_iff_not, beq_eq_false_iff_ne]
    rw [UInt8.lt_iff_toNat_lt] at h
    rw [UInt8.lt_iff_toNat_lt]
    rcases h with h | ⟨h, h1⟩
    · refine ⟨by omega, .inl ?_⟩
      rintro rfl
      omega
    · subst h
      exact ⟨by omega, .inr (less_asymm xs ys h1)⟩

theorem less_trans : ∀ a b c : List UInt8, Op.bytesLess a b = true → Op.bytesLess b c = true → Op.bytesLess a c = true
  | [], [], _, h, _ => by cases h
  | _ :: _, [], _, h, _ => by cases h
  | _, _ :: _, [], _, k => by cases k
  | [], _ :: _, _ :: _, _, _ => rfl
  | x :: xs, y :: ys, z :: zs, h, k => by
    simp only [Op.bytesLess, Bool.or_eq_true, Bool.and_eq_true, decide_eq_true_eq, beq_iff_eq] at h k ⊢
    rw [UInt8.lt_iff_toNat_lt] at h k ⊢
    rcases h with h | ⟨h, h1⟩
    · rcases k with k | ⟨k, k1⟩
      · left; omega
      · left; rw [← k]; exact h
    · rcases k with k | ⟨k, k1⟩
      · left; rw [h]; exact k
      · right; exact ⟨h.trans k, less_trans xs ys zs h1 k1⟩

theorem less_total : ∀ a b : List UInt8, a ≠ b → Op.bytesLess a b = true ∨ Op.bytesLess b a = true
  | [], [], h => absurd rfl h
  | [], y :: ys, _ => .inl rfl
  | x :: xs, [], _ => .inr rfl
  | x :: xs, y :: ys, h => by
    simp only [Op.bytesLess, Bool.or_eq_true, Bool.and_eq_true, decide_eq_true_eq, beq_iff_eq]
    rw [UInt8.lt_iff_toNat_lt, UInt8.lt_iff_toNat_lt]
    by_cases e : x = y
    · subst e
      rcases less_total xs ys (fun hx => h (by rw [hx])) with h1 | h1
      · exact .inl (.inr ⟨rfl, h1⟩)
      · exact .inr (.inr ⟨rfl, h1⟩)
    · have : x.toNat ≠ y.toNat := fun hx => e (UInt8.toNat_inj.1 hx)
      rcases Nat.lt_or_ge x.toNat y.toNat with h1 | h1
      · exact .inl (.inl h1)
      · exact .inr (.inl (by omega))

/-! ### Items in order -/

/-- An item comes ahead of another one. -/
def bf (x y : It) : Bool := decide (x.slot < y.slot) || (decide (x.slot = y.slot) && Op.bytesLess x.root.l y.root.l)

theorem bf_iff {x y : It} : bf x y = true ↔ x.slot < y.slot ∨ (x.slot = y.slot ∧ Op.bytesLess x.root.l y.root.l = true) := by
  unfold bf
  simp

theorem bf_irrefl (x : It) : bf x x = false := by
  unfold bf
  simp [less_irrefl]

theorem bf_trans {x y z : It} (h : bf x y = true) (k : bf y z = true) : bf x z = true := by
  rw [bf_iff] at *
  rcases h with h | ⟨h, h1⟩ <;> rcases k with k | ⟨k, k1⟩
  · left; omega
  · left; omega
  · left; omega
  · exact .inr ⟨by omega, less_trans _ _ _ h1 k1⟩

theorem bf_asymm {x y : It} (h : bf x y = true) : bf y x = false := by
  cases hb : bf y x with
  | false => rfl
  | true => have := bf_trans h hb; rw [bf_irrefl] at this; cases this

theorem bf_total {x y : It} (h : ¬ (x.slot = y.slot ∧ x.root = y.root)) : bf x y = true ∨ bf y x = true := by
  rw [bf_iff, bf_iff]
  rcases Int.lt_or_gt_of_ne (a := x.slot) (b := y.slot) with h1
  by_cases e : x.slot = y.slot
  · have hr : x.root.l ≠ y.root.l := fun hx => h ⟨e, Bs.ext' hx⟩
    rcases less_total _ _ hr with h2 | h2
    · exact .inl (.inr ⟨e, h2⟩)
    · exact .inr (.inr ⟨e.symm, h2⟩)
  · rcases h1 e with h2 | h2
    · exact .inl (.inl h2)
    · exact .inr (.inl h2)

/-- What isn't ahead of what isn't ahead. -/
theorem nb_trans {x y z : It} (h : bf x y = false) (k : bf y z = false) : bf x z = false := by
  cases hb : bf x z with
  | false => rfl
  | true =>
    exfalso
    by_cases e : x.slot = y.slot ∧ x.root = y.root
    · have : bf y z = bf x z := by unfold bf; rw [e.1, e.2]
      rw [this, hb] at k
      cases k
    · rcases bf_total e with h1 | h1
      · rw [h1] at h; cases h
      · have := bf_trans h1 hb
        rw [this] at k; cases k

/-! ### Rows in order -/

def Srt (S : List It) : Prop := S.Pairwise fun x y => bf x y = true

def insIt (x : It) : List It → List It
  | [] => [x]
  | y :: ys => if bf x y = true then x :: y :: ys else y :: insIt x ys

theorem insIt_perm (x : It) : ∀ S, (insIt x S).Perm (x :: S)
  | [] => List.Perm.refl _
  | y :: ys => by
    unfold insIt
    split
    · exact List.Perm.refl _
    · exact ((insIt_perm x ys).cons y).trans (List.Perm.swap x y ys)

theorem insIt_srt {x : It} : ∀ {S : List It}, Srt S → (∀ y ∈ S, x.root ≠ y.root) → Srt (insIt x S)
  | [], _, _ => by simp [insIt, Srt]
  | y :: ys, h, hx => by
    unfold insIt
    have hy := List.pairwise_cons.1 h
    split
    · rename_i hb
      refine List.pairwise_cons.2 ⟨fun z hz => ?_, h⟩
      rcases List.mem_cons.1 hz with rfl | hz
      · exact hb
      · exact bf_trans hb (hy.1 z hz)
    · rename_i hb
      have hyx : bf y x = true := by
        rcases bf_total (x := x) (y := y) (fun e => hx y (List.mem_cons_self ..) e.2) with h1 | h1
        · exact absurd h1 hb
        · exact h1
      refine List.pairwise_cons.2 ⟨fun z hz => ?_, insIt_srt hy.2 (fun z hz => hx z (List.mem_cons_of_mem _ hz))⟩
      rcases List.mem_cons.1 ((insIt_perm x ys).mem_iff.1 hz) with rfl | hz
      · exact hyx
      · exact hy.1 z hz

/-- There is but one row in order of the same items. -/
theorem srt_unique : ∀ {S T : List It}, Srt S → Srt T → S.Perm T → S = T
  | [], T, _, _, hp => hp.nil_eq
  | x :: S, [], _, _, hp => by have := hp.length_eq; simp at this
  | x :: S, y :: T, hs, ht, hp => by
    have h1 := List.pairwise_cons.1 hs
    have h2 := List.pairwise_cons.1 ht
    have e : x = y := by
      rcases List.mem_cons.1 (hp.mem_iff.1 (List.mem_cons_self (a := x) (l := S))) with e | e
      · exact e
      · rcases List.mem_cons.1 (hp.mem_iff.2 (List.mem_cons_self (a := y) (l := T))) with e' | e'
        · exact e'.symm
        · have a := h2.1 x e
          have b := h1.1 y e'
          rw [bf_asymm a] at b
          cases b
    subst e
    rw [srt_unique h1.2 h2.2 (List.Perm.cons_inv hp)]

theorem srt_nodup {S : List It} (h : Srt S) : S.Nodup := h.imp fun hb e => by subst e; rw [bf_irrefl] at hb; cases hb

/-! ### Heaps: the one that comes last at the top -/

def hget (L : List It) (i : Nat) : It := L.getD i It.zero

/-- No parent from lo on is ahead of its child. -/
def HeapFrom (lo : Nat) (L : List It) : Prop := ∀ k, 0 < k → k < L.length → lo ≤ (k - 1) / 2 → bf (hget L ((k - 1) / 2)) (hget L k) = false

theorem heap_top {L : List It} (h : HeapFrom 0 L) : ∀ (n k : Nat), k ≤ n → k < L.length → bf (hget L 0) (hget L k) = false
  | n, 0, _, _ => bf_irrefl _
  | 0, k + 1, hn, _ => by omega
  | n + 1, k + 1, hn, hk => by
    have h1 := h (k + 1) (by omega) hk (Nat.zero_le _)
    have h2 := heap_top h n ((k + 1 - 1) / 2) (by omega) (by omega)
    exact nb_trans h2 h1

theorem hget_mem {L : List It} {i : Nat} (h : i < L.length) : hget L i ∈ L := by
  unfold hget
  rw [List.getD_eq_getElem?_getD, List.getElem?_eq_getElem h]
  exact List.getElem_mem h

theorem hget_some {L : List It} {i : Nat} (h : i < L.length) : L[i]? = some (hget L i) := by
  unfold hget
  rw [List.getD_eq_getElem?_getD, List.getElem?_eq_getElem h]
  rfl

theorem hget_of {L : List It} {i : Nat} {x : It} (h : L[i]? = some x) : hget L i = x := by
  unfold hget
  rw [List.getD_eq_getElem?_getD, h]
  rfl

/-- What stands at the top is the last of all in order. -/
theorem heap_last {L S : List It} (h : HeapFrom 0 L) (hp : L.Perm S) (hs : Srt S) (h0 : 0 < L.length) : S.getLast? = some (hget L 0) := by
  have hl := hp.length_eq
  have hne : S ≠ [] := fun e => by rw [e, List.length_nil] at hl; omega
  rw [List.getLast?_eq_some_getLast hne]
  congr 1
  have hm : S.getLast hne ∈ L := hp.mem_iff.2 (List.getLast_mem hne)
  obtain ⟨i, hi, he⟩ := List.mem_iff_getElem.1 hm
  have hnb := heap_top h i i (Nat.le_refl _) hi
  rw [hget_of (List.getElem?_eq_some_iff.2 ⟨hi, he⟩)] at hnb
  have hm0 : hget L 0 ∈ S := hp.mem_iff.1 (hget_mem h0)
  obtain ⟨j, hj, hej⟩ := List.mem_iff_getElem.1 hm0
  by_cases e : j = S.length - 1
  · rw [List.getLast_eq_getElem, ← hej]
    congr 1
    exact e.symm
  · have := List.pairwise_iff_getElem.1 hs j (S.length - 1) hj (by omega) (by omega)
    rw [hej, ← List.getLast_eq_getElem hne] at this
    rw [this] at hnb
    cases hnb

/-- Two items change places. -/
def sw (L : List It) (i j : Nat) : List It := (L.set i (hget L j)).set j (hget L i)

theorem sw_length (L : List It) (i j : Nat) : (sw L i j).length = L.length := by simp [sw]

theorem sw_get {L : List It} {i j k : Nat} (hi : i < L.length) (hj : j < L.length) (hk : k < L.length) : hget (sw L i j) k = if k = j then hget L i else if k = i then hget L j else hget L k := by
  have e : (sw L i j)[k]? = some (if k = j then hget L i else if k = i then hget L j else hget L k) := by
    unfold sw
    rw [List.getElem?_set, List.getElem?_set]
    by_cases h1 : j = k
    · subst h1
      simp [hj]
    · rw [if_neg h1, if_neg (show ¬ k = j from fun e => h1 e.symm)]
      by_cases h2 : i = k
      · subst h2
        simp [hi]
      · rw [if_neg h2, if_neg (show ¬ k = i from fun e => h2 e.symm)]
        exact hget_some hk
  exact hget_of e

theorem sw_perm {L : List It} {i j : Nat} (hi : i < L.length) (hj : j < L.length) : (sw L i j).Perm L := by
  unfold sw
  have h1 : hget L i = L[i] := hget_of (List.getElem?_eq_getElem hi)
  have h2 : hget L j = L[j] := hget_of (List.getElem?_eq_getElem hj)
  rw [h1, h2]
  exact List.set_set_perm hi hj

/-- A heap, but that j may come behind its parent. -/
def UpInv (L : List It) (j : Nat) : Prop :=
  (∀ k, 0 < k → k < L.length → k ≠ j → bf (hget L ((k - 1) / 2)) (hget L k) = false) ∧
  (∀ k, 0 < k → k < L.length → (k - 1) / 2 = j → 0 < j → bf (hget L ((j - 1) / 2)) (hget L k) = false)

theorem up_done {L : List It} {j : Nat} (h : UpInv L j) (hj : j < L.length) (hd : j = 0 ∨ bf (hget L ((j - 1) / 2)) (hget L j) = false) : HeapFrom 0 L := by
  intro k hk hl _
  by_cases e : k = j
  · subst e
    rcases hd with hd | hd
    · omega
    · exact hd
  · exact h.1 k hk hl e

theorem up_step {L : List It} {j : Nat} (h : UpInv L j) (h0 : 0 < j) (hj : j < L.length) (hb : bf (hget L ((j - 1) / 2)) (hget L j) = true) : UpInv (sw L ((j - 1) / 2) j) ((j - 1) / 2) := by
  have hp : (j - 1) / 2 < j := by omega
  have hpl : (j - 1) / 2 < L.length := by omega
  generalize hpd : (j - 1) / 2 = p at *
  have g := fun k (hk : k < L.length) => sw_get (k := k) hpl hj hk
  refine ⟨fun k hk hl hne => ?_, fun k hk hl hpar hp0 => ?_⟩
  · rw [sw_length] at hl
    rw [g k hl, g _ (by omega)]
    by_cases e1 : k = j
    · subst e1
      rw [if_pos rfl, hpd, if_neg (by omega), if_pos rfl]
      exact bf_asymm hb
    · rw [if_neg e1, if_neg hne]
      by_cases e2 : (k - 1) / 2 = j
      · rw [if_pos e2]
        have := h.2 k hk hl e2 h0
        rwa [hpd] at this
      · rw [if_neg e2]
        by_cases e3 : (k - 1) / 2 = p
        · rw [if_pos e3]
          have := h.1 k hk hl e1
          rw [e3] at this
          exact nb_trans (bf_asymm hb) this
        · rw [if_neg e3]
          exact h.1 k hk hl e1
  · rw [sw_length] at hl
    have hpp : (p - 1) / 2 < p := by omega
    rw [g k hl, g _ (by omega), if_neg (show ¬ (p - 1) / 2 = j by omega), if_neg (show ¬ (p - 1) / 2 = p by omega)]
    have hpar2 := h.1 p hp0 hpl (by omega)
    by_cases e1 : k = j
    · rw [if_pos e1]
      exact hpar2
    · rw [if_neg e1, if_neg (show ¬ k = p by omega)]
      have := h.1 k hk hl e1
      rw [hpar] at this
      exact nb_trans hpar2 this

/-- A heap from lo on, but that i may be ahead of its children. -/
def DownInv (lo : Nat) (L : List It) (i : Nat) : Prop :=
  (∀ k, 0 < k → k < L.length → lo ≤ (k - 1) / 2 → (k - 1) / 2 ≠ i → bf (hget L ((k - 1) / 2)) (hget L k) = false) ∧
  (∀ k, 0 < k → k < L.length → (k - 1) / 2 = i → 0 < i → lo ≤ (i - 1) / 2 → bf (hget L ((i - 1) / 2)) (hget L k) = false)

theorem down_start {L : List It} {i : Nat} (h : HeapFrom (i + 1) L) : DownInv i L i :=
  ⟨fun k hk hl hlo hne => h k hk hl (by omega), fun k _ _ _ h0 hlo => by omega⟩

theorem down_done {lo : Nat} {L : List It} {i : Nat} (h : DownInv lo L i) (hd : ∀ k, 0 < k → k < L.length → (k - 1) / 2 = i → bf (hget L i) (hget L k) = false) : HeapFrom lo L := by
  intro k hk hl hlo
  by_cases e : (k - 1) / 2 = i
  · rw [e]; exact hd k hk hl e
  · exact h.1 k hk hl hlo e

theorem down_step {lo : Nat} {L : List It} {i j : Nat} (h : DownInv lo L i) (hj : j < L.length) (hi : (j - 1) / 2 = i) (h0 : 0 < j) (hlo : lo ≤ i) (hb : bf (hget L i) (hget L j) = true)
    (hsib : ∀ k, 0 < k → k < L.length → (k - 1) / 2 = i → bf (hget L j) (hget L k) = false) : DownInv lo (sw L i j) j := by
  have hij : i < j := by omega
  have hil : i < L.length := by omega
  have g := fun k (hk : k < L.length) => sw_get (k := k) hil hj hk
  refine ⟨fun k hk hl hlok hne => ?_, fun k hk hl hpar _ hlo2 => ?_⟩
  · rw [sw_length] at hl
    rw [g k hl, g _ (by omega), if_neg hne]
    by_cases e1 : (k - 1) / 2 = i
    · rw [if_pos e1]
      by_cases e2 : k = j
      · rw [if_pos e2]
        exact bf_asymm hb
      · rw [if_neg e2, if_neg (show ¬ k = i by omega)]
        exact hsib k hk hl e1
    · rw [if_neg e1]
      by_cases e2 : k = j
      · exact absurd (e2 ▸ hi) e1
      · rw [if_neg e2]
        by_cases e3 : k = i
        · rw [if_pos e3]
          subst e3
          exact h.2 j h0 hj hi hk hlok
        · rw [if_neg e3]
          exact h.1 k hk hl hlok e1
  · rw [sw_length] at hl
    rw [hi, g k hl, g i hil, if_neg (show ¬ i = j by omega), if_pos rfl, if_neg (show ¬ k = j by omega), if_neg (show ¬ k = i by omega)]
    have := h.1 k hk hl (by omega) (by omega)
    rw [hpar] at this
    exact this

end Go.Proofs.Ytldocdpdjdekiaa.Pool
end

section
/- The conditions of functions, as the generator reckons them out, each with the proof that it is that. -/
namespace Go.Proofs.Ytldocdpdjdekiaa
open Go Go.Vc
set_option maxRecDepth 100000
set_option linter.unusedVariables false

def pool_Before_vc (a_Slot : Int) (a_Root : Bs (32 : Nat)) (a_Peer : Int) (a_For : Bs (32 : Nat)) (a_Text : List UInt8) (b_Slot : Int) (b_Root : Bs (32 : Nat)) (b_Peer : Int) (b_For : Bs (32 : Nat)) (b_Text : List UInt8) (h : Heap) (R : Value → Heap → Prop) : Prop :=
 Vc.Bind
 (newTV h (TV.agg [TV.int IntKind.i64 a_Slot, TV.bytes (32 : Nat) a_Root, TV.int IntKind.i64 a_Peer, TV.bytes (32 : Nat) a_For, TV.str a_Text]) (105 : Nat))
 fun (h_1 : Array Obj) ↦
 Vc.Bind
 (newTV h_1 (TV.agg [TV.int IntKind.i64 b_Slot, TV.bytes (32 : Nat) b_Root, TV.int IntKind.i64 b_Peer, TV.bytes (32 : Nat) b_For, TV.str b_Text])
 (105 : Nat))
 fun (h_2 : Array Obj) ↦
 ∃ (n : Int),
 at1 h_2 (Array.size h) (0 : Nat) (Value.int IntKind.i64 n) ∧
 ∃ (n_1 : Int),
 at1 h_2 (Array.size h_1) (0 : Nat) (Value.int IntKind.i64 n_1) ∧
 If (decide (n < n_1)) (R (TV.val (TV.bool true)) h_2)
 (∃ (n : Int),
 at1 h_2 (Array.size h) (0 : Nat) (Value.int IntKind.i64 n) ∧
 ∃ (n_2 : Int),
 at1 h_2 (Array.size h_1) (0 : Nat) (Value.int IntKind.i64 n_2) ∧
 If (decide (n = n_2))
 (∃ (b : Bs (32 : Nat)),
 atBytes h_2 (Array.size h) (1 : Nat) (32 : Nat) b ∧
 ∃ (b_1 : Bs (32 : Nat)),
 atBytes h_2 (Array.size h_1) (1 : Nat) (32 : Nat) b_1 ∧
 CallsH Try.prog (117 : Nat) (TVs.vals [TV.bytes (32 : Nat) b, TV.bytes (32 : Nat) b_1]) h_2 fun (v : Value) (h : Array Obj) ↦
 ∃ (b : Bool), v = TV.val (TV.bool b) ∧ R (TV.val (TV.bool b)) h)
 (R (TV.val (TV.bool false)) h_2))

theorem pool_Before_calls (a_Slot : Int) (a_Root : Bs (32 : Nat)) (a_Peer : Int) (a_For : Bs (32 : Nat)) (a_Text : List UInt8) (b_Slot : Int) (b_Root : Bs (32 : Nat)) (b_Peer : Int) (b_For : Bs (32 : Nat)) (b_Text : List UInt8) (h : Heap) (R : Value → Heap → Prop) (H : pool_Before_vc a_Slot a_Root a_Peer a_For a_Text b_Slot b_Root b_Peer b_For b_Text h R) : CallsH Try.prog 89 (TVs.vals [TV.agg [TV.int IntKind.i64 a_Slot, TV.bytes (32 : Nat) a_Root, TV.int IntKind.i64 a_Peer, TV.bytes (32 : Nat) a_For, TV.str a_Text], TV.agg [TV.int IntKind.i64 b_Slot, TV.bytes (32 : Nat) b_Root, TV.int IntKind.i64 b_Peer, TV.bytes (32 : Nat) b_For, TV.str b_Text]]) h R :=
 vcFn_sound (C := ctx) ctx_ok (fn := Try.f89) Try.func89 ((by kernel_rfl : pool_Before_vc a_Slot a_Root a_Peer a_For a_Text b_Slot b_Root b_Peer b_For b_Text h R = vcFn ctx Try.f89 [TV.agg [TV.int IntKind.i64 a_Slot, TV.bytes (32 : Nat) a_Root, TV.int IntKind.i64 a_Peer, TV.bytes (32 : Nat) a_For, TV.str a_Text], TV.agg [TV.int IntKind.i64 b_Slot, TV.bytes (32 : Nat) b_Root, TV.int IntKind.i64 b_Peer, TV.bytes (32 : Nat) b_For, TV.str b_Text]] h R) ▸ H)


def pool_last_Len_vc (l_ : Sl) (h : Heap) (R : Value → Heap → Prop) : Prop :=
 R (TV.val (TV.int IntKind.i64 (↑l_.len : Int))) h

theorem pool_last_Len_calls (l_ : Sl) (h : Heap) (R : Value → Heap → Prop) (H : pool_last_Len_vc l_ h R) : CallsH Try.prog 97 (TVs.vals [TV.slice l_]) h R :=
 vcFn_sound (C := ctx) ctx_ok (fn := Try.f97) Try.func97 ((by kernel_rfl : pool_last_Len_vc l_ h R = vcFn ctx Try.f97 [TV.slice l_] h R) ▸ H)


def pool_last_Less_vc (l_ : Sl) (i : Int) (k : Int) (h : Heap) (R : Value → Heap → Prop) : Prop :=
 (0 : Int) ≤ k ∧
 k < (↑l_.len : Int) ∧
 Nn l_.a fun (l : Go.Vc.Loc) ↦
 ∃ (n : Int),
 ∃ (b : Bs (32 : Nat)),
 ∃ (n_1 : Int),
 ∃ (b_1 : Bs (32 : Nat)),
 ∃ (s : List UInt8),
 (at1 h l.b (l.o + Int.toNat k * (67 : Nat)) (Value.int IntKind.i64 n) ∧
 atBytes h l.b (l.o + Int.toNat k * (67 : Nat) + (1 : Nat)) (32 : Nat) b ∧
 at1 h l.b (l.o + Int.toNat k * (67 : Nat) + (1 : Nat) + (32 : Nat)) (Value.int IntKind.i64 n_1) ∧
 atBytes h l.b (l.o + Int.toNat k * (67 : Nat) + (1 : Nat) + (32 : Nat) + (1 : Nat)) (32 : Nat) b_1 ∧
 at1 h l.b (l.o + Int.toNat k * (67 : Nat) + (1 : Nat) + (32 : Nat) + (1 : Nat) + (32 : Nat))
 (Value.string (ByteArray.mk (List.toArray s)))) ∧
 (0 : Int) ≤ i ∧
 i < (↑l_.len : Int) ∧
 Nn l_.a fun (l : Go.Vc.Loc) ↦
 ∃ (n_2 : Int),
 ∃ (b_2 : Bs (32 : Nat)),
 ∃ (n_3 : Int),
 ∃ (b_3 : Bs (32 : Nat)),
 ∃ (s_1 : List UInt8),
 (at1 h l.b (l.o + Int.toNat i * (67 : Nat)) (Value.int IntKind.i64 n_2) ∧
 atBytes h l.b (l.o + Int.toNat i * (67 : Nat) + (1 : Nat)) (32 : Nat) b_2 ∧
 at1 h l.b (l.o + Int.toNat i * (67 : Nat) + (1 : Nat) + (32 : Nat)) (Value.int IntKind.i64 n_3) ∧
 atBytes h l.b (l.o + Int.toNat i * (67 : Nat) + (1 : Nat) + (32 : Nat) + (1 : Nat)) (32 : Nat) b_3 ∧
 at1 h l.b (l.o + Int.toNat i * (67 : Nat) + (1 : Nat) + (32 : Nat) + (1 : Nat) + (32 : Nat))
 (Value.string (ByteArray.mk (List.toArray s_1)))) ∧
 CallsH Try.prog (89 : Nat)
 (TVs.vals
 [TV.agg [TV.int IntKind.i64 n, TV.bytes (32 : Nat) b, TV.int IntKind.i64 n_1, TV.bytes (32 : Nat) b_1, TV.str s],
 TV.agg
 [TV.int IntKind.i64 n_2, TV.bytes (32 : Nat) b_2, TV.int IntKind.i64 n_3, TV.bytes (32 : Nat) b_3, TV.str s_1]])
 h fun (v : Value) (h : Heap) ↦ ∃ (b : Bool), v = TV.val (TV.bool b) ∧ R (TV.val (TV.bool b)) h

theorem pool_last_Less_calls (l_ : Sl) (i : Int) (k : Int) (h : Heap) (R : Value → Heap → Prop) (H : pool_last_Less_vc l_ i k h R) : CallsH Try.prog 192 (TVs.vals [TV.slice l_, TV.int IntKind.i64 i, TV.int IntKind.i64 k]) h R :=
 vcFn_sound (C := ctx) ctx_ok (fn := Try.f192) Try.func192 ((by kernel_rfl : pool_last_Less_vc l_ i k h R = vcFn ctx Try.f192 [TV.slice l_, TV.int IntKind.i64 i, TV.int IntKind.i64 k] h R) ▸ H)


def pool_last_Swap_vc (l_ : Sl) (i : Int) (k : Int) (h : Heap) (R : Value → Heap → Prop) : Prop :=
 (0 : Int) ≤ k ∧
 k < (↑l_.len : Int) ∧
 Nn l_.a fun (l : Go.Vc.Loc) ↦
 ∃ (n : Int),
 ∃ (b : Bs (32 : Nat)),
 ∃ (n_1 : Int),
 ∃ (b_1 : Bs (32 : Nat)),
 ∃ (s : List UInt8),
 (at1 h l.b (l.o + Int.toNat k * (67 : Nat)) (Value.int IntKind.i64 n) ∧
 atBytes h l.b (l.o + Int.toNat k * (67 : Nat) + (1 : Nat)) (32 : Nat) b ∧
 at1 h l.b (l.o + Int.toNat k * (67 : Nat) + (1 : Nat) + (32 : Nat)) (Value.int IntKind.i64 n_1) ∧
 atBytes h l.b (l.o + Int.toNat k * (67 : Nat) + (1 : Nat) + (32 : Nat) + (1 : Nat)) (32 : Nat) b_1 ∧
 at1 h l.b (l.o + Int.toNat k * (67 : Nat) + (1 : Nat) + (32 : Nat) + (1 : Nat) + (32 : Nat))
 (Value.string (ByteArray.mk (List.toArray s)))) ∧
 (0 : Int) ≤ i ∧
 i < (↑l_.len : Int) ∧
 Nn l_.a fun (l : Go.Vc.Loc) ↦
 ∃ (n_2 : Int),
 ∃ (b_2 : Bs (32 : Nat)),
 ∃ (n_3 : Int),
 ∃ (b_3 : Bs (32 : Nat)),
 ∃ (s_1 : List UInt8),
 (at1 h l.b (l.o + Int.toNat i * (67 : Nat)) (Value.int IntKind.i64 n_2) ∧
 atBytes h l.b (l.o + Int.toNat i * (67 : Nat) + (1 : Nat)) (32 : Nat) b_2 ∧
 at1 h l.b (l.o + Int.toNat i * (67 : Nat) + (1 : Nat) + (32 : Nat)) (Value.int IntKind.i64 n_3) ∧
 atBytes h l.b (l.o + Int.toNat i * (67 : Nat) + (1 : Nat) + (32 : Nat) + (1 : Nat)) (32 : Nat) b_3 ∧
 at1 h l.b (l.o + Int.toNat i * (67 : Nat) + (1 : Nat) + (32 : Nat) + (1 : Nat) + (32 : Nat))
 (Value.string (ByteArray.mk (List.toArray s_1)))) ∧
 (0 : Int) ≤ i ∧
 i < (↑l_.len : Int) ∧
 Nn l_.a fun (l : Go.Vc.Loc) ↦
 wok h l.b (l.o + Int.toNat i * (67 : Nat)) (67 : Nat) ∧
 Vc.Bind
 (TV.put h l.b (l.o + Int.toNat i * (67 : Nat))
 (TV.agg
 [TV.int IntKind.i64 n, TV.bytes (32 : Nat) b, TV.int IntKind.i64 n_1, TV.bytes (32 : Nat) b_1, TV.str s]))
 fun (h : Array Obj) ↦
 (0 : Int) ≤ k ∧
 k < (↑l_.len : Int) ∧
 Nn l_.a fun (l : Go.Vc.Loc) ↦
 wok h l.b (l.o + Int.toNat k * (67 : Nat)) (67 : Nat) ∧
 Vc.Bind
 (TV.put h l.b (l.o + Int.toNat k * (67 : Nat))
 (TV.agg
 [TV.int IntKind.i64 n_2, TV.bytes (32 : Nat) b_2, TV.int IntKind.i64 n_3, TV.bytes (32 : Nat) b_3,
 TV.str s_1]))
 fun (h : Array Obj) ↦ R (TV.val (TV.tup [])) h

theorem pool_last_Swap_calls (l_ : Sl) (i : Int) (k : Int) (h : Heap) (R : Value → Heap → Prop) (H : pool_last_Swap_vc l_ i k h R) : CallsH Try.prog 193 (TVs.vals [TV.slice l_, TV.int IntKind.i64 i, TV.int IntKind.i64 k]) h R :=
 vcFn_sound (C := ctx) ctx_ok (fn := Try.f193) Try.func193 ((by kernel_rfl : pool_last_Swap_vc l_ i k h R = vcFn ctx Try.f193 [TV.slice l_, TV.int IntKind.i64 i, TV.int IntKind.i64 k] h R) ▸ H)


def pool_last_Push_vc (l_ : Option Go.Vc.Loc) (x : Vc.One) (h : Heap) (R : Value → Heap → Prop) : Prop :=
 Nn l_ fun (l : Go.Vc.Loc) ↦
 ∃ (s : Sl),
 at1 h l.b l.o (slVal s) ∧
 ∃ (n : Int),
 ∃ (b : Bs (32 : Nat)),
 ∃ (n_1 : Int),
 ∃ (b_1 : Bs (32 : Nat)),
 ∃ (s_1 : List UInt8),
 x.v =
 Value.iface (105 : Nat)
 (TV.val (TV.agg [TV.int IntKind.i64 n, TV.bytes (32 : Nat) b, TV.int IntKind.i64 n_1, TV.bytes (32 : Nat) b_1, TV.str s_1])) ∧
 Ext h
 (Array.push h
 (row (TVs.cells [TV.agg [TV.int IntKind.i64 n, TV.bytes (32 : Nat) b, TV.int IntKind.i64 n_1, TV.bytes (32 : Nat) b_1, TV.str s_1]])
 (105 : Nat))) ∧
 ∃ (new : List Value),
 slAt
 (Array.push h
 (row (TVs.cells [TV.agg [TV.int IntKind.i64 n, TV.bytes (32 : Nat) b, TV.int IntKind.i64 n_1, TV.bytes (32 : Nat) b_1, TV.str s_1]])
 (105 : Nat)))
 (Sl.mk (some (Loc.mk (Array.size h) (0 : Nat))) (1 : Nat) (1 : Nat)) (67 : Nat) new ∧
 (∀ (v : Value), v ∈ new → isOne v = true) ∧
 vcAppend Ytldocdpdjdekiaa.ctx (105 : Nat) s (1 : Nat) new
 (Array.push h
 (row
 (TVs.cells [TV.agg [TV.int IntKind.i64 n, TV.bytes (32 : Nat) b, TV.int IntKind.i64 n_1, TV.bytes (32 : Nat) b_1, TV.str s_1]])
 (105 : Nat)))
 fun (s : Sl) (h : Array Obj) ↦
 Nn l_ fun (l : Go.Vc.Loc) ↦
 wok h l.b l.o (1 : Nat) ∧ Vc.Bind (TV.put h l.b l.o (TV.slice s)) fun (h : Array Obj) ↦ R (TV.val (TV.tup [])) h

theorem pool_last_Push_calls (l_ : Option Go.Vc.Loc) (x : Vc.One) (h : Heap) (R : Value → Heap → Prop) (H : pool_last_Push_vc l_ x h R) : CallsH Try.prog 194 (TVs.vals [TV.ptr l_, TV.one x]) h R :=
 vcFn_sound (C := ctx) ctx_ok (fn := Try.f194) Try.func194 ((by kernel_rfl : pool_last_Push_vc l_ x h R = vcFn ctx Try.f194 [TV.ptr l_, TV.one x] h R) ▸ H)


def container_heap_up_vc (h_ : Vc.One) (j : Int) (h : Heap) (R : Value → Heap → Prop) : Prop :=
 Go.Vc.Loop j h fun (s : Int) (h : Array Obj) (K : Int → Array Obj → Prop) ↦
 (2 : Int) ≠ (0 : Int) ∧
 If (decide (IntKind.wrap IntKind.i64 (Int.tdiv (IntKind.wrap IntKind.i64 (s - (1 : Int))) (2 : Int)) = s)) (R (TV.val (TV.tup [])) h)
 (∃ (t : Nat),
 ∃ (x : Value),
 ∃ (f : Nat),
 ∃ (rv : Value),
 h_.v = Value.iface t x ∧
 MethodAt Try.prog h t x "Less" f rv ∧
 CallsH Try.prog f
 (rv ::
 TVs.vals
 [TV.int IntKind.i64 s, TV.int IntKind.i64 (IntKind.wrap IntKind.i64 (Int.tdiv (IntKind.wrap IntKind.i64 (s - (1 : Int))) (2 : Int)))])
 h fun (v : Value) (h : Array Obj) ↦
 ∃ (b : Bool),
 v = TV.val (TV.bool b) ∧
 If (!b) (R (TV.val (TV.tup [])) h)
 (∃ (t : Nat),
 ∃ (x : Value),
 ∃ (f : Nat),
 ∃ (rv : Value),
 h_.v = Value.iface t x ∧
 MethodAt Try.prog h t x "Swap" f rv ∧
 CallsH Try.prog f
 (rv ::
 TVs.vals
 [TV.int IntKind.i64 (IntKind.wrap IntKind.i64 (Int.tdiv (IntKind.wrap IntKind.i64 (s - (1 : Int))) (2 : Int))),
 TV.int IntKind.i64 s])
 h fun (v : Value) (h : Array Obj) ↦
 v = TV.val (TV.tup []) ∧
 K (IntKind.wrap IntKind.i64 (Int.tdiv (IntKind.wrap IntKind.i64 (s - (1 : Int))) (2 : Int))) h))

theorem container_heap_up_calls (h_ : Vc.One) (j : Int) (h : Heap) (R : Value → Heap → Prop) (H : container_heap_up_vc h_ j h R) : CallsH Try.prog 116 (TVs.vals [TV.one h_, TV.int IntKind.i64 j]) h R :=
 vcFn_sound (C := ctx) ctx_ok (fn := Try.f116) Try.func116 ((by kernel_rfl : container_heap_up_vc h_ j h R = vcFn ctx Try.f116 [TV.one h_, TV.int IntKind.i64 j] h R) ▸ H)


def container_heap_down_vc (h_ : Vc.One) (i0 : Int) (n : Int) (h : Heap) (R : Value → Heap → Prop) : Prop :=
 Go.Vc.Loop i0 h fun (s : Int) (h : Array Obj) (K : Int → Array Obj → Prop) ↦
 Join
 (fun (s_1 : PUnit) (h : Array Obj) ↦
 Join
 (fun (s_2 : Int) (h : Array Obj) ↦
 ∃ (t : Nat),
 ∃ (x : Value),
 ∃ (f : Nat),
 ∃ (rv : Value),
 h_.v = Value.iface t x ∧
 MethodAt Try.prog h t x "Less" f rv ∧
 CallsH Try.prog f (rv :: TVs.vals [TV.int IntKind.i64 s_2, TV.int IntKind.i64 s]) h fun (v : Value) (h : Array Obj) ↦
 ∃ (b : Bool),
 v = TV.val (TV.bool b) ∧
 If (!b) (R (TV.val (TV.bool (decide (i0 < s)))) h)
 (∃ (t : Nat),
 ∃ (x : Value),
 ∃ (f : Nat),
 ∃ (rv : Value),
 h_.v = Value.iface t x ∧
 MethodAt Try.prog h t x "Swap" f rv ∧
 CallsH Try.prog f (rv :: TVs.vals [TV.int IntKind.i64 s, TV.int IntKind.i64 s_2]) h fun (v : Value) (h : Array Obj) ↦
 v = TV.val (TV.tup []) ∧ K s_2 h))
 fun (J : Int → Array Obj → Prop) ↦
 If (decide (IntKind.wrap IntKind.i64 (IntKind.wrap IntKind.i64 (IntKind.wrap IntKind.i64 ((2 : Int) * s) + (1 : Int)) + (1 : Int)) < n))
 (∃ (t : Nat),
 ∃ (x : Value),
 ∃ (f : Nat),
 ∃ (rv : Value),
 h_.v = Value.iface t x ∧
 MethodAt Try.prog h t x "Less" f rv ∧
 CallsH Try.prog f
 (rv ::
 TVs.vals
 [TV.int IntKind.i64
 (IntKind.wrap IntKind.i64 (IntKind.wrap IntKind.i64 (IntKind.wrap IntKind.i64 ((2 : Int) * s) + (1 : Int)) + (1 : Int))),
 TV.int IntKind.i64 (IntKind.wrap IntKind.i64 (IntKind.wrap IntKind.i64 ((2 : Int) * s) + (1 : Int)))])
 h fun (v : Value) (h : Array Obj) ↦
 ∃ (b : Bool),
 v = TV.val (TV.bool b) ∧
 If b (J (IntKind.wrap IntKind.i64 (IntKind.wrap IntKind.i64 (IntKind.wrap IntKind.i64 ((2 : Int) * s) + (1 : Int)) + (1 : Int))) h)
 (J (IntKind.wrap IntKind.i64 (IntKind.wrap IntKind.i64 ((2 : Int) * s) + (1 : Int))) h))
 (J (IntKind.wrap IntKind.i64 (IntKind.wrap IntKind.i64 ((2 : Int) * s) + (1 : Int))) h))
 fun (J : PUnit → Array Obj → Prop) ↦
 If (decide (n ≤ IntKind.wrap IntKind.i64 (IntKind.wrap IntKind.i64 ((2 : Int) * s) + (1 : Int)))) (R (TV.val (TV.bool (decide (i0 < s)))) h)
 (If (decide (IntKind.wrap IntKind.i64 (IntKind.wrap IntKind.i64 ((2 : Int) * s) + (1 : Int)) < (0 : Int))) (R (TV.val (TV.bool (decide (i0 < s)))) h)
 (J PUnit.unit h))

theorem container_heap_down_calls (h_ : Vc.One) (i0 : Int) (n : Int) (h : Heap) (R : Value → Heap → Prop) (H : container_heap_down_vc h_ i0 n h R) : CallsH Try.prog 118 (TVs.vals [TV.one h_, TV.int IntKind.i64 i0, TV.int IntKind.i64 n]) h R :=
 vcFn_sound (C := ctx) ctx_ok (fn := Try.f118) Try.func118 ((by kernel_rfl : container_heap_down_vc h_ i0 n h R = vcFn ctx Try.f118 [TV.one h_, TV.int IntKind.i64 i0, TV.int IntKind.i64 n] h R) ▸ H)


def container_heap_Push_vc (h_ : Vc.One) (x : Vc.One) (h : Heap) (R : Value → Heap → Prop) : Prop :=
 ∃ (t : Nat),
 ∃ (x_1 : Value),
 ∃ (f : Nat),
 ∃ (rv : Value),
 h_.v = Value.iface t x_1 ∧
 MethodAt Try.prog h t x_1 "Push" f rv ∧
 CallsH Try.prog f (rv :: TVs.vals [TV.one x]) h fun (v : Value) (h : Heap) ↦
 v = TV.val (TV.tup []) ∧
 ∃ (t : Nat),
 ∃ (x : Value),
 ∃ (f : Nat),
 ∃ (rv : Value),
 h_.v = Value.iface t x ∧
 MethodAt Try.prog h t x "Len" f rv ∧
 CallsH Try.prog f (rv :: TVs.vals []) h fun (v : Value) (h : Heap) ↦
 ∃ (n : Int),
 v = TV.val (TV.int IntKind.i64 n) ∧
 CallsH Try.prog (116 : Nat) (TVs.vals [TV.one h_, TV.int IntKind.i64 (IntKind.wrap IntKind.i64 (n - (1 : Int)))]) h
 fun (v : Value) (h : Heap) ↦ v = TV.val (TV.tup []) ∧ R (TV.val (TV.tup [])) h

theorem container_heap_Push_calls (h_ : Vc.One) (x : Vc.One) (h : Heap) (R : Value → Heap → Prop) (H : container_heap_Push_vc h_ x h R) : CallsH Try.prog 88 (TVs.vals [TV.one h_, TV.one x]) h R :=
 vcFn_sound (C := ctx) ctx_ok (fn := Try.f88) Try.func88 ((by kernel_rfl : container_heap_Push_vc h_ x h R = vcFn ctx Try.f88 [TV.one h_, TV.one x] h R) ▸ H)


def container_heap_Fix_vc (h_ : Vc.One) (i : Int) (h : Heap) (R : Value → Heap → Prop) : Prop :=
 ∃ (t : Nat),
 ∃ (x : Value),
 ∃ (f : Nat),
 ∃ (rv : Value),
 h_.v = Value.iface t x ∧
 MethodAt Try.prog h t x "Len" f rv ∧
 CallsH Try.prog f (rv :: TVs.vals []) h fun (v : Value) (h : Heap) ↦
 ∃ (n : Int),
 v = TV.val (TV.int IntKind.i64 n) ∧
 CallsH Try.prog (118 : Nat) (TVs.vals [TV.one h_, TV.int IntKind.i64 i, TV.int IntKind.i64 n]) h fun (v : Value) (h : Heap) ↦
 ∃ (b : Bool),
 v = TV.val (TV.bool b) ∧
 If (!b)
 (CallsH Try.prog (116 : Nat) (TVs.vals [TV.one h_, TV.int IntKind.i64 i]) h fun (v : Value) (h : Heap) ↦
 v = TV.val (TV.tup []) ∧ R (TV.val (TV.tup [])) h)
 (R (TV.val (TV.tup [])) h)

theorem container_heap_Fix_calls (h_ : Vc.One) (i : Int) (h : Heap) (R : Value → Heap → Prop) (H : container_heap_Fix_vc h_ i h R) : CallsH Try.prog 90 (TVs.vals [TV.one h_, TV.int IntKind.i64 i]) h R :=
 vcFn_sound (C := ctx) ctx_ok (fn := Try.f90) Try.func90 ((by kernel_rfl : container_heap_Fix_vc h_ i h R = vcFn ctx Try.f90 [TV.one h_, TV.int IntKind.i64 i] h R) ▸ H)


def container_heap_Init_vc (h_ : Vc.One) (h : Heap) (R : Value → Heap → Prop) : Prop :=
 ∃ (t : Nat),
 ∃ (x : Value),
 ∃ (f : Nat),
 ∃ (rv : Value),
 h_.v = Value.iface t x ∧
 MethodAt Try.prog h t x "Len" f rv ∧
 CallsH Try.prog f (rv :: TVs.vals []) h fun (v : Value) (h : Heap) ↦
 ∃ (n : Int),
 v = TV.val (TV.int IntKind.i64 n) ∧
 (2 : Int) ≠ (0 : Int) ∧
 Go.Vc.Loop (IntKind.wrap IntKind.i64 (IntKind.wrap IntKind.i64 (Int.tdiv n (2 : Int)) - (1 : Int))) h
 fun (s : Int) (h : Array Obj) (K : Int → Array Obj → Prop) ↦
 If (decide ((0 : Int) ≤ s))
 (CallsH Try.prog (118 : Nat) (TVs.vals [TV.one h_, TV.int IntKind.i64 s, TV.int IntKind.i64 n]) h fun (v : Value) (h : Array Obj) ↦
 ∃ (b : Bool), v = TV.val (TV.bool b) ∧ K (IntKind.wrap IntKind.i64 (s - (1 : Int))) h)
 (R (TV.val (TV.tup [])) h)

theorem container_heap_Init_calls (h_ : Vc.One) (h : Heap) (R : Value → Heap → Prop) (H : container_heap_Init_vc h_ h R) : CallsH Try.prog 95 (TVs.vals [TV.one h_]) h R :=
 vcFn_sound (C := ctx) ctx_ok (fn := Try.f95) Try.func95 ((by kernel_rfl : container_heap_Init_vc h_ h R = vcFn ctx Try.f95 [TV.one h_] h R) ▸ H)


def pool_Pool_All_1_vc (a_Slot : Int) (a_Root : Bs (32 : Nat)) (a_Peer : Int) (a_For : Bs (32 : Nat)) (a_Text : List UInt8) (b_Slot : Int) (b_Root : Bs (32 : Nat)) (b_Peer : Int) (b_For : Bs (32 : Nat)) (b_Text : List UInt8) (h : Heap) (R : Value → Heap → Prop) : Prop :=
 Vc.Bind
 (newTV h (TV.agg [TV.int IntKind.i64 a_Slot, TV.bytes (32 : Nat) a_Root, TV.int IntKind.i64 a_Peer, TV.bytes (32 : Nat) a_For, TV.str a_Text]) (105 : Nat))
 fun (h_1 : Array Obj) ↦
 Vc.Bind
 (newTV h_1 (TV.agg [TV.int IntKind.i64 b_Slot, TV.bytes (32 : Nat) b_Root, TV.int IntKind.i64 b_Peer, TV.bytes (32 : Nat) b_For, TV.str b_Text])
 (105 : Nat))
 fun (h_2 : Array Obj) ↦
 ∃ (n : Int),
 ∃ (b : Bs (32 : Nat)),
 ∃ (n_1 : Int),
 ∃ (b_1 : Bs (32 : Nat)),
 ∃ (s : List UInt8),
 (at1 h_2 (Array.size h) (0 : Nat) (Value.int IntKind.i64 n) ∧
 atBytes h_2 (Array.size h) (1 : Nat) (32 : Nat) b ∧
 at1 h_2 (Array.size h) (33 : Nat) (Value.int IntKind.i64 n_1) ∧
 atBytes h_2 (Array.size h) (34 : Nat) (32 : Nat) b_1 ∧ at1 h_2 (Array.size h) (66 : Nat) (Value.string (ByteArray.mk (List.toArray s)))) ∧
 ∃ (n_2 : Int),
 ∃ (b_2 : Bs (32 : Nat)),
 ∃ (n_3 : Int),
 ∃ (b_3 : Bs (32 : Nat)),
 ∃ (s_1 : List UInt8),
 (at1 h_2 (Array.size h_1) (0 : Nat) (Value.int IntKind.i64 n_2) ∧
 atBytes h_2 (Array.size h_1) (1 : Nat) (32 : Nat) b_2 ∧
 at1 h_2 (Array.size h_1) (33 : Nat) (Value.int IntKind.i64 n_3) ∧
 atBytes h_2 (Array.size h_1) (34 : Nat) (32 : Nat) b_3 ∧
 at1 h_2 (Array.size h_1) (66 : Nat) (Value.string (ByteArray.mk (List.toArray s_1)))) ∧
 CallsH Try.prog (89 : Nat)
 (TVs.vals
 [TV.agg [TV.int IntKind.i64 n, TV.bytes (32 : Nat) b, TV.int IntKind.i64 n_1, TV.bytes (32 : Nat) b_1, TV.str s],
 TV.agg [TV.int IntKind.i64 n_2, TV.bytes (32 : Nat) b_2, TV.int IntKind.i64 n_3, TV.bytes (32 : Nat) b_3, TV.str s_1]])
 h_2 fun (v : Value) (h_3 : Array Obj) ↦
 ∃ (b : Bool),
 v = TV.val (TV.bool b) ∧
 If b (R (TV.val (TV.int IntKind.i64 (-1 : Int))) h_3)
 (∃ (n : Int),
 ∃ (b : Bs (32 : Nat)),
 ∃ (n_4 : Int),
 ∃ (b_4 : Bs (32 : Nat)),
 ∃ (s : List UInt8),
 (at1 h_3 (Array.size h_1) (0 : Nat) (Value.int IntKind.i64 n) ∧
 atBytes h_3 (Array.size h_1) (1 : Nat) (32 : Nat) b ∧
 at1 h_3 (Array.size h_1) (33 : Nat) (Value.int IntKind.i64 n_4) ∧
 atBytes h_3 (Array.size h_1) (34 : Nat) (32 : Nat) b_4 ∧
 at1 h_3 (Array.size h_1) (66 : Nat) (Value.string (ByteArray.mk (List.toArray s)))) ∧
 ∃ (n_5 : Int),
 ∃ (b_5 : Bs (32 : Nat)),
 ∃ (n_6 : Int),
 ∃ (b_6 : Bs (32 : Nat)),
 ∃ (s_2 : List UInt8),
 (at1 h_3 (Array.size h) (0 : Nat) (Value.int IntKind.i64 n_5) ∧
 atBytes h_3 (Array.size h) (1 : Nat) (32 : Nat) b_5 ∧
 at1 h_3 (Array.size h) (33 : Nat) (Value.int IntKind.i64 n_6) ∧
 atBytes h_3 (Array.size h) (34 : Nat) (32 : Nat) b_6 ∧
 at1 h_3 (Array.size h) (66 : Nat) (Value.string (ByteArray.mk (List.toArray s_2)))) ∧
 CallsH Try.prog (89 : Nat)
 (TVs.vals
 [TV.agg
 [TV.int IntKind.i64 n, TV.bytes (32 : Nat) b, TV.int IntKind.i64 n_4,
 TV.bytes (32 : Nat) b_4, TV.str s],
 TV.agg
 [TV.int IntKind.i64 n_5, TV.bytes (32 : Nat) b_5, TV.int IntKind.i64 n_6,
 TV.bytes (32 : Nat) b_6, TV.str s_2]])
 h_3 fun (v : Value) (h : Array Obj) ↦
 ∃ (b : Bool),
 v = TV.val (TV.bool b) ∧
 If b (R (TV.val (TV.int IntKind.i64 (1 : Int))) h)
 (R (TV.val (TV.int IntKind.i64 (0 : Int))) h))

theorem pool_Pool_All_1_calls (a_Slot : Int) (a_Root : Bs (32 : Nat)) (a_Peer : Int) (a_For : Bs (32 : Nat)) (a_Text : List UInt8) (b_Slot : Int) (b_Root : Bs (32 : Nat)) (b_Peer : Int) (b_For : Bs (32 : Nat)) (b_Text : List UInt8) (h : Heap) (R : Value → Heap → Prop) (H : pool_Pool_All_1_vc a_Slot a_Root a_Peer a_For a_Text b_Slot b_Root b_Peer b_For b_Text h R) : CallsH Try.prog 102 (TVs.vals [TV.agg [TV.int IntKind.i64 a_Slot, TV.bytes (32 : Nat) a_Root, TV.int IntKind.i64 a_Peer, TV.bytes (32 : Nat) a_For, TV.str a_Text], TV.agg [TV.int IntKind.i64 b_Slot, TV.bytes (32 : Nat) b_Root, TV.int IntKind.i64 b_Peer, TV.bytes (32 : Nat) b_For, TV.str b_Text]]) h R :=
 vcFn_sound (C := ctx) ctx_ok (fn := Try.f102) Try.func102 ((by kernel_rfl : pool_Pool_All_1_vc a_Slot a_Root a_Peer a_For a_Text b_Slot b_Root b_Peer b_For b_Text h R = vcFn ctx Try.f102 [TV.agg [TV.int IntKind.i64 a_Slot, TV.bytes (32 : Nat) a_Root, TV.int IntKind.i64 a_Peer, TV.bytes (32 : Nat) a_For, TV.str a_Text], TV.agg [TV.int IntKind.i64 b_Slot, TV.bytes (32 : Nat) b_Root, TV.int IntKind.i64 b_Peer, TV.bytes (32 : Nat) b_For, TV.str b_Text]] h R) ▸ H)


def slices_Clone___pool_Item_pool_Item__vc (s_ : Sl) (h : Heap) (R : Value → Heap → Prop) : Prop :=
 If (Option.isNone s_.a) (R (TV.val (TV.slice Sl.nil)) h)
 (∃ (new : List Value),
 slAt (Array.push h (row (TVs.cells []) (105 : Nat))) s_ (67 : Nat) new ∧
 (∀ (v : Value), v ∈ new → isOne v = true) ∧
 vcAppend Ytldocdpdjdekiaa.ctx (105 : Nat) (Sl.mk (some (Loc.mk (Array.size h) (0 : Nat))) (0 : Nat) (0 : Nat)) s_.len new
 (Array.push h (row (TVs.cells []) (105 : Nat))) fun (s : Sl) (h : Array Obj) ↦ R (TV.val (TV.slice s)) h)

theorem slices_Clone___pool_Item_pool_Item__calls (s_ : Sl) (h : Heap) (R : Value → Heap → Prop) (H : slices_Clone___pool_Item_pool_Item__vc s_ h R) : CallsH Try.prog 100 (TVs.vals [TV.slice s_]) h R :=
 vcFn_sound (C := ctx) ctx_ok (fn := Try.f100) Try.func100 ((by kernel_rfl : slices_Clone___pool_Item_pool_Item__vc s_ h R = vcFn ctx Try.f100 [TV.slice s_] h R) ▸ H)


def pool_Pool_All_vc (p : Option Go.Vc.Loc) (h : Heap) (R : Value → Heap → Prop) : Prop :=
 If (Option.isNone p) (R (TV.val (TV.slice Sl.nil)) h)
 (Nn p fun (l : Go.Vc.Loc) ↦
 ∃ (s : Sl),
 at1 h l.b l.o (slVal s) ∧
 CallsH Try.prog (100 : Nat) (TVs.vals [TV.slice s]) h fun (v : Value) (h : Heap) ↦
 ∃ (s : Sl),
 v = TV.val (TV.slice s) ∧
 CallsH Try.prog (101 : Nat) (TVs.vals [TV.slice s, TV.fn (Fn.func (102 : Nat)) [] []]) h fun (v : Value) (h : Heap) ↦
 v = TV.val (TV.tup []) ∧ R (TV.val (TV.slice s)) h)

theorem pool_Pool_All_calls (p : Option Go.Vc.Loc) (h : Heap) (R : Value → Heap → Prop) (H : pool_Pool_All_vc p h R) : CallsH Try.prog 68 (TVs.vals [TV.ptr p]) h R :=
 vcFn_sound (C := ctx) ctx_ok (fn := Try.f68) Try.func68 ((by kernel_rfl : pool_Pool_All_vc p h R = vcFn ctx Try.f68 [TV.ptr p] h R) ▸ H)


def slices_IndexFunc_pool_last_pool_Item__vc (s_ : Sl) (f : Vc.One) (h : Heap) (R : Value → Heap → Prop) : Prop :=
 Go.Vc.Loop ((0 : Int), (0 : Int)) h fun (s : Int × Int) (h : Array Obj) (K : Int × Int → Array Obj → Prop) ↦
 If (decide (s.snd < (↑s_.len : Int)))
 ((0 : Int) ≤ s.snd ∧
 s.snd < (↑s_.len : Int) ∧
 Nn s_.a fun (l : Go.Vc.Loc) ↦
 ∃ (n : Int),
 ∃ (b : Bs (32 : Nat)),
 ∃ (n_1 : Int),
 ∃ (b_1 : Bs (32 : Nat)),
 ∃ (s_1 : List UInt8),
 (at1 h l.b (l.o + Int.toNat s.snd * (67 : Nat)) (Value.int IntKind.i64 n) ∧
 atBytes h l.b (l.o + Int.toNat s.snd * (67 : Nat) + (1 : Nat)) (32 : Nat) b ∧
 at1 h l.b (l.o + Int.toNat s.snd * (67 : Nat) + (1 : Nat) + (32 : Nat)) (Value.int IntKind.i64 n_1) ∧
 atBytes h l.b (l.o + Int.toNat s.snd * (67 : Nat) + (1 : Nat) + (32 : Nat) + (1 : Nat)) (32 : Nat) b_1 ∧
 at1 h l.b (l.o + Int.toNat s.snd * (67 : Nat) + (1 : Nat) + (32 : Nat) + (1 : Nat) + (32 : Nat))
 (Value.string (ByteArray.mk (List.toArray s_1)))) ∧
 ∃ (g : Nat),
 ∃ (first : Array Value),
 ∃ (cap : Array Value),
 f.v = Value.func (Fn.func g) first cap ∧
 EntP Try.prog g ∧
 CallsH Try.prog g
 (first.toList ++
 TVs.vals
 [TV.agg [TV.int IntKind.i64 n, TV.bytes (32 : Nat) b, TV.int IntKind.i64 n_1, TV.bytes (32 : Nat) b_1, TV.str s_1]] ++
 cap.toList)
 h fun (v : Value) (h : Array Obj) ↦
 ∃ (b : Bool),
 v = TV.val (TV.bool b) ∧
 If b (R (TV.val (TV.int IntKind.i64 s.snd)) h) (K (s.fst, IntKind.wrap IntKind.i64 (s.snd + (1 : Int))) h))
 (R (TV.val (TV.int IntKind.i64 (-1 : Int))) h)

theorem slices_IndexFunc_pool_last_pool_Item__calls (s_ : Sl) (f : Vc.One) (h : Heap) (R : Value → Heap → Prop) (H : slices_IndexFunc_pool_last_pool_Item__vc s_ f h R) : CallsH Try.prog 133 (TVs.vals [TV.slice s_, TV.one f]) h R :=
 vcFn_sound (C := ctx) ctx_ok (fn := Try.f133) Try.func133 ((by kernel_rfl : slices_IndexFunc_pool_last_pool_Item__vc s_ f h R = vcFn ctx Try.f133 [TV.slice s_, TV.one f] h R) ▸ H)


def slices_ContainsFunc_pool_last_pool_Item__vc (s_ : Sl) (f : Vc.One) (h : Heap) (R : Value → Heap → Prop) : Prop :=
 CallsH Try.prog (133 : Nat) (TVs.vals [TV.slice s_, TV.one f]) h fun (v : Value) (h : Heap) ↦
 ∃ (n : Int), v = TV.val (TV.int IntKind.i64 n) ∧ R (TV.val (TV.bool (decide ((0 : Int) ≤ n)))) h

theorem slices_ContainsFunc_pool_last_pool_Item__calls (s_ : Sl) (f : Vc.One) (h : Heap) (R : Value → Heap → Prop) (H : slices_ContainsFunc_pool_last_pool_Item__vc s_ f h R) : CallsH Try.prog 114 (TVs.vals [TV.slice s_, TV.one f]) h R :=
 vcFn_sound (C := ctx) ctx_ok (fn := Try.f114) Try.func114 ((by kernel_rfl : slices_ContainsFunc_pool_last_pool_Item__vc s_ f h R = vcFn ctx Try.f114 [TV.slice s_, TV.one f] h R) ▸ H)


def pool_Pool_Has_1_vc (x_Slot : Int) (x_Root : Bs (32 : Nat)) (x_Peer : Int) (x_For : Bs (32 : Nat)) (x_Text : List UInt8) (p : Option Go.Vc.Loc) (h : Heap) (R : Value → Heap → Prop) : Prop :=
 Vc.Bind
 (newTV h (TV.agg [TV.int IntKind.i64 x_Slot, TV.bytes (32 : Nat) x_Root, TV.int IntKind.i64 x_Peer, TV.bytes (32 : Nat) x_For, TV.str x_Text]) (105 : Nat))
 fun (h_1 : Array Obj) ↦
 ∃ (b : Bs (32 : Nat)),
 atBytes h_1 (Array.size h) (1 : Nat) (32 : Nat) b ∧
 Nn p fun (l : Go.Vc.Loc) ↦ ∃ (b_1 : Bs (32 : Nat)), atBytes h_1 l.b l.o (32 : Nat) b_1 ∧ R (TV.val (TV.bool (decide (b.l = b_1.l)))) h_1

theorem pool_Pool_Has_1_calls (x_Slot : Int) (x_Root : Bs (32 : Nat)) (x_Peer : Int) (x_For : Bs (32 : Nat)) (x_Text : List UInt8) (p : Option Go.Vc.Loc) (h : Heap) (R : Value → Heap → Prop) (H : pool_Pool_Has_1_vc x_Slot x_Root x_Peer x_For x_Text p h R) : CallsH Try.prog 115 (TVs.vals [TV.agg [TV.int IntKind.i64 x_Slot, TV.bytes (32 : Nat) x_Root, TV.int IntKind.i64 x_Peer, TV.bytes (32 : Nat) x_For, TV.str x_Text], TV.ptr p]) h R :=
 vcFn_sound (C := ctx) ctx_ok (fn := Try.f115) Try.func115 ((by kernel_rfl : pool_Pool_Has_1_vc x_Slot x_Root x_Peer x_For x_Text p h R = vcFn ctx Try.f115 [TV.agg [TV.int IntKind.i64 x_Slot, TV.bytes (32 : Nat) x_Root, TV.int IntKind.i64 x_Peer, TV.bytes (32 : Nat) x_For, TV.str x_Text], TV.ptr p] h R) ▸ H)


def pool_Pool_Has_vc (p : Option Go.Vc.Loc) (root : Bs (32 : Nat)) (h : Heap) (R : Value → Heap → Prop) : Prop :=
 Vc.Bind (newTV h (TV.bytes (32 : Nat) root) (50 : Nat)) fun (h_1 : Array Obj) ↦
 If (!Option.isNone p)
 (Nn p fun (l : Go.Vc.Loc) ↦
 ∃ (s : Sl),
 at1 h_1 l.b l.o (slVal s) ∧
 CallsH Try.prog (114 : Nat) (TVs.vals [TV.slice s, TV.fn (Fn.func (115 : Nat)) [] [TV.ptr (some (Loc.mk (Array.size h) (0 : Nat)))]]) h_1
 fun (v : Value) (h : Array Obj) ↦ ∃ (b : Bool), v = TV.val (TV.bool b) ∧ R (TV.val (TV.bool b)) h)
 (R (TV.val (TV.bool false)) h_1)

theorem pool_Pool_Has_calls (p : Option Go.Vc.Loc) (root : Bs (32 : Nat)) (h : Heap) (R : Value → Heap → Prop) (H : pool_Pool_Has_vc p root h R) : CallsH Try.prog 86 (TVs.vals [TV.ptr p, TV.bytes (32 : Nat) root]) h R :=
 vcFn_sound (C := ctx) ctx_ok (fn := Try.f86) Try.func86 ((by kernel_rfl : pool_Pool_Has_vc p root h R = vcFn ctx Try.f86 [TV.ptr p, TV.bytes (32 : Nat) root] h R) ▸ H)


def pool_Pool_Len_vc (p : Option Go.Vc.Loc) (h : Heap) (R : Value → Heap → Prop) : Prop :=
 If (Option.isNone p) (R (TV.val (TV.int IntKind.i64 (0 : Int))) h)
 (Nn p fun (l : Go.Vc.Loc) ↦
 ∃ (s : Sl),
 at1 h l.b l.o (slVal s) ∧
 CallsH Try.prog (97 : Nat) (TVs.vals [TV.slice s]) h fun (v : Value) (h : Heap) ↦
 ∃ (n : Int), v = TV.val (TV.int IntKind.i64 n) ∧ R (TV.val (TV.int IntKind.i64 n)) h)

theorem pool_Pool_Len_calls (p : Option Go.Vc.Loc) (h : Heap) (R : Value → Heap → Prop) (H : pool_Pool_Len_vc p h R) : CallsH Try.prog 62 (TVs.vals [TV.ptr p]) h R :=
 vcFn_sound (C := ctx) ctx_ok (fn := Try.f62) Try.func62 ((by kernel_rfl : pool_Pool_Len_vc p h R = vcFn ctx Try.f62 [TV.ptr p] h R) ▸ H)


def pool_Pool_Of_vc (p : Option Go.Vc.Loc) (peer : Int) (h : Heap) (R : Value → Heap → Prop) : Prop :=
 CallsH Try.prog (68 : Nat) (TVs.vals [TV.ptr p]) h fun (v : Value) (h : Heap) ↦
 ∃ (s : Sl),
 v = TV.val (TV.slice s) ∧
 Go.Vc.Loop ((0 : Int), (0 : Int)) h fun (s_1 : Int × Int) (h : Array Obj) (K : Int × Int → Array Obj → Prop) ↦
 If (decide (s_1.snd < (↑s.len : Int)))
 ((0 : Int) ≤ s_1.snd ∧
 s_1.snd < (↑s.len : Int) ∧
 Nn s.a fun (l : Go.Vc.Loc) ↦
 ∃ (n : Int),
 ∃ (b : Bs (32 : Nat)),
 ∃ (n_1 : Int),
 ∃ (b_1 : Bs (32 : Nat)),
 ∃ (s : List UInt8),
 (at1 h l.b (l.o + Int.toNat s_1.snd * (67 : Nat)) (Value.int IntKind.i64 n) ∧
 atBytes h l.b (l.o + Int.toNat s_1.snd * (67 : Nat) + (1 : Nat)) (32 : Nat) b ∧
 at1 h l.b (l.o + Int.toNat s_1.snd * (67 : Nat) + (1 : Nat) + (32 : Nat)) (Value.int IntKind.i64 n_1) ∧
 atBytes h l.b (l.o + Int.toNat s_1.snd * (67 : Nat) + (1 : Nat) + (32 : Nat) + (1 : Nat)) (32 : Nat) b_1 ∧
 at1 h l.b (l.o + Int.toNat s_1.snd * (67 : Nat) + (1 : Nat) + (32 : Nat) + (1 : Nat) + (32 : Nat))
 (Value.string (ByteArray.mk (List.toArray s)))) ∧
 Vc.Bind
 (newTV h
 (TV.agg
 [TV.int IntKind.i64 (0 : Int), TV.bytes (32 : Nat) (Bs.zero (32 : Nat)), TV.int IntKind.i64 (0 : Int),
 TV.bytes (32 : Nat) (Bs.zero (32 : Nat)), TV.str []])
 (105 : Nat))
 fun (h_1 : Array Obj) ↦
 wok h_1 (Array.size h) (0 : Nat) (67 : Nat) ∧
 Vc.Bind
 (TV.put h_1 (Array.size h) (0 : Nat)
 (TV.agg [TV.int IntKind.i64 n, TV.bytes (32 : Nat) b, TV.int IntKind.i64 n_1, TV.bytes (32 : Nat) b_1, TV.str s]))
 fun (h_2 : Array Obj) ↦
 ∃ (n : Int),
 at1 h_2 (Array.size h) (33 : Nat) (Value.int IntKind.i64 n) ∧
 If (decide (n = peer))
 (K (IntKind.wrap IntKind.i64 (s_1.fst + (1 : Int)), IntKind.wrap IntKind.i64 (s_1.snd + (1 : Int))) h_2)
 (K (s_1.fst, IntKind.wrap IntKind.i64 (s_1.snd + (1 : Int))) h_2))
 (R (TV.val (TV.int IntKind.i64 s_1.fst)) h)

theorem pool_Pool_Of_calls (p : Option Go.Vc.Loc) (peer : Int) (h : Heap) (R : Value → Heap → Prop) (H : pool_Pool_Of_vc p peer h R) : CallsH Try.prog 87 (TVs.vals [TV.ptr p, TV.int IntKind.i64 peer]) h R :=
 vcFn_sound (C := ctx) ctx_ok (fn := Try.f87) Try.func87 ((by kernel_rfl : pool_Pool_Of_vc p peer h R = vcFn ctx Try.f87 [TV.ptr p, TV.int IntKind.i64 peer] h R) ▸ H)


def pool_New_vc (most : Int) (quota : Int) (h : Heap) (R : Value → Heap → Prop) : Prop :=
 If (decide (most < (1 : Int))) (R (TV.val (TV.ptr none)) h)
 (If (decide ((64 : Int) < most)) (R (TV.val (TV.ptr none)) h)
 (If (decide (quota < (1 : Int))) (R (TV.val (TV.ptr none)) h)
 (If (decide ((64 : Int) < quota)) (R (TV.val (TV.ptr none)) h)
 (Vc.Bind (newTV h (TV.agg [TV.slice Sl.nil, TV.int IntKind.i64 most, TV.int IntKind.i64 quota]) (165 : Nat)) fun (h_1 : Array Obj) ↦
 R (TV.val (TV.ptr (some (Loc.mk (Array.size h) (0 : Nat))))) h_1))))

theorem pool_New_calls (most : Int) (quota : Int) (h : Heap) (R : Value → Heap → Prop) (H : pool_New_vc most quota h R) : CallsH Try.prog 52 (TVs.vals [TV.int IntKind.i64 most, TV.int IntKind.i64 quota]) h R :=
 vcFn_sound (C := ctx) ctx_ok (fn := Try.f52) Try.func52 ((by kernel_rfl : pool_New_vc most quota h R = vcFn ctx Try.f52 [TV.int IntKind.i64 most, TV.int IntKind.i64 quota] h R) ▸ H)


def pool_Pool_Put_vc (p : Option Go.Vc.Loc) (x_Slot : Int) (x_Root : Bs (32 : Nat)) (x_Peer : Int) (x_For : Bs (32 : Nat)) (x_Text : List UInt8) (h : Heap) (R : Value → Heap → Prop) : Prop :=
 Vc.Bind
 (newTV h (TV.agg [TV.int IntKind.i64 x_Slot, TV.bytes (32 : Nat) x_Root, TV.int IntKind.i64 x_Peer, TV.bytes (32 : Nat) x_For, TV.str x_Text]) (105 : Nat))
 fun (h_1 : Array Obj) ↦
 Vc.Bind
 (newTV h_1
 (TV.agg
 [TV.int IntKind.i64 (0 : Int), TV.bytes (32 : Nat) (Bs.zero (32 : Nat)), TV.int IntKind.i64 (0 : Int), TV.bytes (32 : Nat) (Bs.zero (32 : Nat)),
 TV.str []])
 (105 : Nat))
 fun (h_2 : Array Obj) ↦
 If (Option.isNone p)
 (wok h_2 (Array.size h_1) (0 : Nat) (67 : Nat) ∧
 Vc.Bind
 (TV.put h_2 (Array.size h_1) (0 : Nat)
 (TV.agg
 [TV.int IntKind.i64 (0 : Int), TV.bytes (32 : Nat) (Bs.zero (32 : Nat)), TV.int IntKind.i64 (0 : Int), TV.bytes (32 : Nat) (Bs.zero (32 : Nat)),
 TV.str []]))
 fun (h : Array Obj) ↦
 ∃ (n : Int),
 ∃ (b : Bs (32 : Nat)),
 ∃ (n_1 : Int),
 ∃ (b_1 : Bs (32 : Nat)),
 ∃ (s : List UInt8),
 (at1 h (Array.size h_1) (0 : Nat) (Value.int IntKind.i64 n) ∧
 atBytes h (Array.size h_1) (1 : Nat) (32 : Nat) b ∧
 at1 h (Array.size h_1) (33 : Nat) (Value.int IntKind.i64 n_1) ∧
 atBytes h (Array.size h_1) (34 : Nat) (32 : Nat) b_1 ∧
 at1 h (Array.size h_1) (66 : Nat) (Value.string (ByteArray.mk (List.toArray s)))) ∧
 R
 (TV.val
 (TV.tup
 [TV.int IntKind.i64 (12 : Int),
 TV.agg [TV.int IntKind.i64 n, TV.bytes (32 : Nat) b, TV.int IntKind.i64 n_1, TV.bytes (32 : Nat) b_1, TV.str s]]))
 h)
 (∃ (b : Bs (32 : Nat)),
 atBytes h_2 (Array.size h) (1 : Nat) (32 : Nat) b ∧
 CallsH Try.prog (86 : Nat) (TVs.vals [TV.ptr p, TV.bytes (32 : Nat) b]) h_2 fun (v : Value) (h_3 : Array Obj) ↦
 ∃ (b : Bool),
 v = TV.val (TV.bool b) ∧
 If b
 (wok h_3 (Array.size h_1) (0 : Nat) (67 : Nat) ∧
 Vc.Bind
 (TV.put h_3 (Array.size h_1) (0 : Nat)
 (TV.agg
 [TV.int IntKind.i64 (0 : Int), TV.bytes (32 : Nat) (Bs.zero (32 : Nat)), TV.int IntKind.i64 (0 : Int),
 TV.bytes (32 : Nat) (Bs.zero (32 : Nat)), TV.str []]))
 fun (h : Array Obj) ↦
 ∃ (n : Int),
 ∃ (b : Bs (32 : Nat)),
 ∃ (n_1 : Int),
 ∃ (b_1 : Bs (32 : Nat)),
 ∃ (s : List UInt8),
 (at1 h (Array.size h_1) (0 : Nat) (Value.int IntKind.i64 n) ∧
 atBytes h (Array.size h_1) (1 : Nat) (32 : Nat) b ∧
 at1 h (Array.size h_1) (33 : Nat) (Value.int IntKind.i64 n_1) ∧
 atBytes h (Array.size h_1) (34 : Nat) (32 : Nat) b_1 ∧
 at1 h (Array.size h_1) (66 : Nat) (Value.string (ByteArray.mk (List.toArray s)))) ∧
 R
 (TV.val
 (TV.tup
 [TV.int IntKind.i64 (9 : Int),
 TV.agg [TV.int IntKind.i64 n, TV.bytes (32 : Nat) b, TV.int IntKind.i64 n_1, TV.bytes (32 : Nat) b_1, TV.str s]]))
 h)
 (∃ (n : Int),
 at1 h_3 (Array.size h) (33 : Nat) (Value.int IntKind.i64 n) ∧
 Nn p fun (l : Go.Vc.Loc) ↦
 ∃ (n_1 : Int),
 at1 h_3 l.b (l.o + (2 : Nat)) (Value.int IntKind.i64 n_1) ∧
 CallsH Try.prog (87 : Nat) (TVs.vals [TV.ptr p, TV.int IntKind.i64 n]) h_3 fun (v : Value) (h_4 : Array Obj) ↦
 ∃ (n : Int),
 v = TV.val (TV.int IntKind.i64 n) ∧
 Ext h_3 h_4 ∧
 If (decide (n_1 ≤ n))
 (wok h_4 (Array.size h_1) (0 : Nat) (67 : Nat) ∧
 Vc.Bind
 (TV.put h_4 (Array.size h_1) (0 : Nat)
 (TV.agg
 [TV.int IntKind.i64 (0 : Int), TV.bytes (32 : Nat) (Bs.zero (32 : Nat)), TV.int IntKind.i64 (0 : Int),
 TV.bytes (32 : Nat) (Bs.zero (32 : Nat)), TV.str []]))
 fun (h : Array Obj) ↦
 ∃ (n : Int),
 ∃ (b : Bs (32 : Nat)),
 ∃ (n_2 : Int),
 ∃ (b_1 : Bs (32 : Nat)),
 ∃ (s : List UInt8),
 (at1 h (Array.size h_1) (0 : Nat) (Value.int IntKind.i64 n) ∧
 atBytes h (Array.size h_1) (1 : Nat) (32 : Nat) b ∧
 at1 h (Array.size h_1) (33 : Nat) (Value.int IntKind.i64 n_2) ∧
 atBytes h (Array.size h_1) (34 : Nat) (32 : Nat) b_1 ∧
 at1 h (Array.size h_1) (66 : Nat) (Value.string (ByteArray.mk (List.toArray s)))) ∧
 R
 (TV.val
 (TV.tup
 [TV.int IntKind.i64 (11 : Int),
 TV.agg
 [TV.int IntKind.i64 n, TV.bytes (32 : Nat) b, TV.int IntKind.i64 n_2, TV.bytes (32 : Nat) b_1,
 TV.str s]]))
 h)
 (Nn p fun (l : Go.Vc.Loc) ↦
 ∃ (n : Int),
 at1 h_4 l.b (l.o + (1 : Nat)) (Value.int IntKind.i64 n) ∧
 CallsH Try.prog (62 : Nat) (TVs.vals [TV.ptr p]) h_4 fun (v : Value) (h_5 : Array Obj) ↦
 ∃ (n_2 : Int),
 v = TV.val (TV.int IntKind.i64 n_2) ∧
 Ext h_4 h_5 ∧
 If (decide (n_2 < n))
 (Nn p fun (l : Go.Vc.Loc) ↦
 ∃ (n : Int),
 ∃ (b : Bs (32 : Nat)),
 ∃ (n_3 : Int),
 ∃ (b_1 : Bs (32 : Nat)),
 ∃ (s : List UInt8),
 (at1 h_5 (Array.size h) (0 : Nat) (Value.int IntKind.i64 n) ∧
 atBytes h_5 (Array.size h) (1 : Nat) (32 : Nat) b ∧
 at1 h_5 (Array.size h) (33 : Nat) (Value.int IntKind.i64 n_3) ∧
 atBytes h_5 (Array.size h) (34 : Nat) (32 : Nat) b_1 ∧
 at1 h_5 (Array.size h) (66 : Nat) (Value.string (ByteArray.mk (List.toArray s)))) ∧
 CallsH Try.prog (88 : Nat)
 (TVs.vals
 [TV.one
 (Vc.One.mk (Value.iface (172 : Nat) (TV.val (TV.ptr (some (Loc.mk l.b l.o)))))
 (vcPack._proof_1 (172 : Nat) (TV.ptr (some (Loc.mk l.b l.o))))),
 TV.one
 (Vc.One.mk
 (Value.iface (105 : Nat)
 (TV.val
 (TV.agg
 [TV.int IntKind.i64 n, TV.bytes (32 : Nat) b, TV.int IntKind.i64 n_3,
 TV.bytes (32 : Nat) b_1, TV.str s])))
 (vcPack._proof_1 (105 : Nat)
 (TV.agg
 [TV.int IntKind.i64 n, TV.bytes (32 : Nat) b, TV.int IntKind.i64 n_3,
 TV.bytes (32 : Nat) b_1, TV.str s])))])
 h_5 fun (v : Value) (h : Array Obj) ↦
 v = TV.val (TV.tup []) ∧
 wok h (Array.size h_1) (0 : Nat) (67 : Nat) ∧
 Vc.Bind
 (TV.put h (Array.size h_1) (0 : Nat)
 (TV.agg
 [TV.int IntKind.i64 (0 : Int), TV.bytes (32 : Nat) (Bs.zero (32 : Nat)),
 TV.int IntKind.i64 (0 : Int), TV.bytes (32 : Nat) (Bs.zero (32 : Nat)),
 TV.str []]))
 fun (h : Array Obj) ↦
 ∃ (n : Int),
 ∃ (b : Bs (32 : Nat)),
 ∃ (n_4 : Int),
 ∃ (b_2 : Bs (32 : Nat)),
 ∃ (s : List UInt8),
 (at1 h (Array.size h_1) (0 : Nat) (Value.int IntKind.i64 n) ∧
 atBytes h (Array.size h_1) (1 : Nat) (32 : Nat) b ∧
 at1 h (Array.size h_1) (33 : Nat) (Value.int IntKind.i64 n_4) ∧
 atBytes h (Array.size h_1) (34 : Nat) (32 : Nat) b_2 ∧
 at1 h (Array.size h_1) (66 : Nat)
 (Value.string (ByteArray.mk (List.toArray s)))) ∧
 R
 (TV.val
 (TV.tup
 [TV.int IntKind.i64 (1 : Int),
 TV.agg
 [TV.int IntKind.i64 n, TV.bytes (32 : Nat) b,
 TV.int IntKind.i64 n_4, TV.bytes (32 : Nat) b_2,
 TV.str s]]))
 h)
 (∃ (n : Int),
 ∃ (b : Bs (32 : Nat)),
 ∃ (n_3 : Int),
 ∃ (b_1 : Bs (32 : Nat)),
 ∃ (s : List UInt8),
 (at1 h_5 (Array.size h) (0 : Nat) (Value.int IntKind.i64 n) ∧
 atBytes h_5 (Array.size h) (1 : Nat) (32 : Nat) b ∧
 at1 h_5 (Array.size h) (33 : Nat) (Value.int IntKind.i64 n_3) ∧
 atBytes h_5 (Array.size h) (34 : Nat) (32 : Nat) b_1 ∧
 at1 h_5 (Array.size h) (66 : Nat) (Value.string (ByteArray.mk (List.toArray s)))) ∧
 Nn p fun (l : Go.Vc.Loc) ↦
 ∃ (s_1 : Sl),
 at1 h_5 l.b l.o (slVal s_1) ∧
 (0 : Int) ≤ (0 : Int) ∧
 (0 : Int) < (↑s_1.len : Int) ∧
 Nn s_1.a fun (l : Go.Vc.Loc) ↦
 ∃ (n_4 : Int),
 ∃ (b_2 : Bs (32 : Nat)),
 ∃ (n_5 : Int),
 ∃ (b_3 : Bs (32 : Nat)),
 ∃ (s_2 : List UInt8),
 (at1 h_5 l.b (l.o + Int.toNat (0 : Int) * (67 : Nat))
 (Value.int IntKind.i64 n_4) ∧
 atBytes h_5 l.b (l.o + Int.toNat (0 : Int) * (67 : Nat) + (1 : Nat))
 (32 : Nat) b_2 ∧
 at1 h_5 l.b
 (l.o + Int.toNat (0 : Int) * (67 : Nat) + (1 : Nat) +
 (32 : Nat))
 (Value.int IntKind.i64 n_5) ∧
 atBytes h_5 l.b
 (l.o + Int.toNat (0 : Int) * (67 : Nat) + (1 : Nat) +
 (32 : Nat) +
 (1 : Nat))
 (32 : Nat) b_3 ∧
 at1 h_5 l.b
 (l.o + Int.toNat (0 : Int) * (67 : Nat) + (1 : Nat) +
 (32 : Nat) +
 (1 : Nat) +
 (32 : Nat))
 (Value.string (ByteArray.mk (List.toArray s_2)))) ∧
 CallsH Try.prog (89 : Nat)
 (TVs.vals
 [TV.agg
 [TV.int IntKind.i64 n, TV.bytes (32 : Nat) b,
 TV.int IntKind.i64 n_3, TV.bytes (32 : Nat) b_1, TV.str s],
 TV.agg
 [TV.int IntKind.i64 n_4, TV.bytes (32 : Nat) b_2,
 TV.int IntKind.i64 n_5, TV.bytes (32 : Nat) b_3,
 TV.str s_2]])
 h_5 fun (v : Value) (h_6 : Array Obj) ↦
 ∃ (b : Bool),
 v = TV.val (TV.bool b) ∧
 If (!b)
 (wok h_6 (Array.size h_1) (0 : Nat) (67 : Nat) ∧
 Vc.Bind
 (TV.put h_6 (Array.size h_1) (0 : Nat)
 (TV.agg
 [TV.int IntKind.i64 (0 : Int),
 TV.bytes (32 : Nat) (Bs.zero (32 : Nat)),
 TV.int IntKind.i64 (0 : Int),
 TV.bytes (32 : Nat) (Bs.zero (32 : Nat)),
 TV.str []]))
 fun (h : Array Obj) ↦
 ∃ (n : Int),
 ∃ (b : Bs (32 : Nat)),
 ∃ (n_6 : Int),
 ∃ (b_4 : Bs (32 : Nat)),
 ∃ (s : List UInt8),
 (at1 h (Array.size h_1) (0 : Nat)
 (Value.int IntKind.i64 n) ∧
 atBytes h (Array.size h_1) (1 : Nat)
 (32 : Nat) b ∧
 at1 h (Array.size h_1) (33 : Nat)
 (Value.int IntKind.i64 n_6) ∧
 atBytes h (Array.size h_1) (34 : Nat)
 (32 : Nat) b_4 ∧
 at1 h (Array.size h_1) (66 : Nat)
 (Value.string
 (ByteArray.mk
 (List.toArray s)))) ∧
 R
 (TV.val
 (TV.tup
 [TV.int IntKind.i64 (12 : Int),
 TV.agg
 [TV.int IntKind.i64 n,
 TV.bytes (32 : Nat) b,
 TV.int IntKind.i64 n_6,
 TV.bytes (32 : Nat) b_4,
 TV.str s]]))
 h)
 (Nn p fun (l : Go.Vc.Loc) ↦
 ∃ (s : Sl),
 at1 h_6 l.b l.o (slVal s) ∧
 (0 : Int) ≤ (0 : Int) ∧
 (0 : Int) < (↑s.len : Int) ∧
 Nn s.a fun (l : Go.Vc.Loc) ↦
 ∃ (n : Int),
 ∃ (b : Bs (32 : Nat)),
 ∃ (n_6 : Int),
 ∃ (b_4 : Bs (32 : Nat)),
 ∃ (s : List UInt8),
 (at1 h_6 l.b
 (l.o +
 Int.toNat (0 : Int) *
 (67 : Nat))
 (Value.int IntKind.i64 n) ∧
 atBytes h_6 l.b
 (l.o +
 Int.toNat (0 : Int) *
 (67 : Nat) +
 (1 : Nat))
 (32 : Nat) b ∧
 at1 h_6 l.b
 (l.o +
 Int.toNat (0 : Int) *
 (67 : Nat) +
 (1 : Nat) +
 (32 : Nat))
 (Value.int IntKind.i64 n_6) ∧
 atBytes h_6 l.b
 (l.o +
 Int.toNat
 (0 : Int) *
 (67 : Nat) +
 (1 : Nat) +
 (32 : Nat) +
 (1 : Nat))
 (32 : Nat) b_4 ∧
 at1 h_6 l.b
 (l.o +
 Int.toNat
 (0 : Int) *
 (67 : Nat) +
 (1 : Nat) +
 (32 : Nat) +
 (1 : Nat) +
 (32 : Nat))
 (Value.string
 (ByteArray.mk
 (List.toArray s)))) ∧
 Vc.Bind
 (newTV h_6
 (TV.agg
 [TV.int IntKind.i64 (0 : Int),
 TV.bytes (32 : Nat)
 (Bs.zero (32 : Nat)),
 TV.int IntKind.i64 (0 : Int),
 TV.bytes (32 : Nat)
 (Bs.zero (32 : Nat)),
 TV.str []])
 (105 : Nat))
 fun (h_7 : Array Obj) ↦
 wok h_7 (Array.size h_6) (0 : Nat)
 (67 : Nat) ∧
 Vc.Bind
 (TV.put h_7 (Array.size h_6)
 (0 : Nat)
 (TV.agg
 [TV.int IntKind.i64 n,
 TV.bytes (32 : Nat) b,
 TV.int IntKind.i64 n_6,
 TV.bytes (32 : Nat) b_4,
 TV.str s]))
 fun (h_8 : Array Obj) ↦
 Nn p fun (l : Go.Vc.Loc) ↦
 ∃ (s : Sl),
 at1 h_8 l.b l.o (slVal s) ∧
 ∃ (n : Int),
 ∃ (b : Bs (32 : Nat)),
 ∃ (n_7 : Int),
 ∃ (b_5 :
 Bs (32 : Nat)),
 ∃ (s_3 :
 List UInt8),
 (at1 h_8
 (Array.size
 h)
 (0 : Nat)
 (Value.int
 IntKind.i64
 n) ∧
 atBytes h_8
 (Array.size
 h)
 (1 :
 Nat)
 (32 :
 Nat)
 b ∧
 at1 h_8
 (Array.size
 h)
 (33 :
 Nat)
 (Value.int
 IntKind.i64
 n_7) ∧
 atBytes
 h_8
 (Array.size
 h)
 (34 :
 Nat)
 (32 :
 Nat)
 b_5 ∧
 at1
 h_8
 (Array.size
 h)
 (66 :
 Nat)
 (Value.string
 (ByteArray.mk
 (List.toArray
 s_3)))) ∧
 (0 : Int) ≤
 (0 :
 Int) ∧
 (0 : Int) <
 (↑s.len :
 Int) ∧
 Nn s.a
 fun
 (l :
 Go.Vc.Loc) ↦
 wok h_8
 l.b
 (l.o +
 Int.toNat
 (0 :
 Int) *
 (67 :
 Nat))
 (67 :
 Nat) ∧
 Vc.Bind
 (TV.put
 h_8
 l.b
 (l.o +
 Int.toNat
 (0 :
 Int) *
 (67 :
 Nat))
 (TV.agg
 [TV.int
 IntKind.i64
 n,
 TV.bytes
 (32 :
 Nat)
 b,
 TV.int
 IntKind.i64
 n_7,
 TV.bytes
 (32 :
 Nat)
 b_5,
 TV.str
 s_3]))
 fun
 (h :
 Array
 Obj) ↦
 Nn p
 fun
 (l :
 Go.Vc.Loc) ↦
 CallsH
 Try.prog
 (90 :
 Nat)
 (TVs.vals
 [TV.one
 (Vc.One.mk
 (Value.iface
 (172 :
 Nat)
 (TV.val
 (TV.ptr
 (some
 (Loc.mk
 l.b
 l.o)))))
 (vcPack._proof_1
 (172 :
 Nat)
 (TV.ptr
 (some
 (Loc.mk
 l.b
 l.o))))),
 TV.int
 IntKind.i64
 (0 :
 Int)])
 h
 fun
 (v :
 Value)
 (h :
 Array
 Obj) ↦
 v =
 TV.val
 (TV.tup
 []) ∧
 ∃
 (n
 :
 Int),
 ∃
 (b
 :
 Bs
 (32 :
 Nat)),
 ∃
 (n_8
 :
 Int),
 ∃
 (b_6
 :
 Bs
 (32 :
 Nat)),
 ∃
 (s
 :
 List
 UInt8),
 (at1
 h
 (Array.size
 h_6)
 (0 :
 Nat)
 (Value.int
 IntKind.i64
 n) ∧
 atBytes
 h
 (Array.size
 h_6)
 (1 :
 Nat)
 (32 :
 Nat)
 b ∧
 at1
 h
 (Array.size
 h_6)
 (33 :
 Nat)
 (Value.int
 IntKind.i64
 n_8) ∧
 atBytes
 h
 (Array.size
 h_6)
 (34 :
 Nat)
 (32 :
 Nat)
 b_6 ∧
 at1
 h
 (Array.size
 h_6)
 (66 :
 Nat)
 (Value.string
 (ByteArray.mk
 (List.toArray
 s)))) ∧
 wok
 h
 (Array.size
 h_1)
 (0 :
 Nat)
 (67 :
 Nat) ∧
 Vc.Bind
 (TV.put
 h
 (Array.size
 h_1)
 (0 :
 Nat)
 (TV.agg
 [TV.int
 IntKind.i64
 n,
 TV.bytes
 (32 :
 Nat)
 b,
 TV.int
 IntKind.i64
 n_8,
 TV.bytes
 (32 :
 Nat)
 b_6,
 TV.str
 s]))
 fun
 (h :
 Array
 Obj) ↦
 ∃
 (n
 :
 Int),
 ∃
 (b
 :
 Bs
 (32 :
 Nat)),
 ∃
 (n_9
 :
 Int),
 ∃
 (b_7
 :
 Bs
 (32 :
 Nat)),
 ∃
 (s
 :
 List
 UInt8),
 (at1
 h
 (Array.size
 h_1)
 (0 :
 Nat)
 (Value.int
 IntKind.i64
 n) ∧
 atBytes
 h
 (Array.size
 h_1)
 (1 :
 Nat)
 (32 :
 Nat)
 b ∧
 at1
 h
 (Array.size
 h_1)
 (33 :
 Nat)
 (Value.int
 IntKind.i64
 n_9) ∧
 atBytes
 h
 (Array.size
 h_1)
 (34 :
 Nat)
 (32 :
 Nat)
 b_7 ∧
 at1
 h
 (Array.size
 h_1)
 (66 :
 Nat)
 (Value.string
 (ByteArray.mk
 (List.toArray
 s)))) ∧
 R
 (TV.val
 (TV.tup
 [TV.int
 IntKind.i64
 (2 :
 Int),
 TV.agg
 [TV.int
 IntKind.i64
 n,
 TV.bytes
 (32 :
 Nat)
 b,
 TV.int
 IntKind.i64
 n_9,
 TV.bytes
 (32 :
 Nat)
 b_7,
 TV.str
 s]]))
 h)))))

theorem pool_Pool_Put_calls (p : Option Go.Vc.Loc) (x_Slot : Int) (x_Root : Bs (32 : Nat)) (x_Peer : Int) (x_For : Bs (32 : Nat)) (x_Text : List UInt8) (h : Heap) (R : Value → Heap → Prop) (H : pool_Pool_Put_vc p x_Slot x_Root x_Peer x_For x_Text h R) : CallsH Try.prog 54 (TVs.vals [TV.ptr p, TV.agg [TV.int IntKind.i64 x_Slot, TV.bytes (32 : Nat) x_Root, TV.int IntKind.i64 x_Peer, TV.bytes (32 : Nat) x_For, TV.str x_Text]]) h R :=
 vcFn_sound (C := ctx) ctx_ok (fn := Try.f54) Try.func54 ((by kernel_rfl : pool_Pool_Put_vc p x_Slot x_Root x_Peer x_For x_Text h R = vcFn ctx Try.f54 [TV.ptr p, TV.agg [TV.int IntKind.i64 x_Slot, TV.bytes (32 : Nat) x_Root, TV.int IntKind.i64 x_Peer, TV.bytes (32 : Nat) x_For, TV.str x_Text]] h R) ▸ H)


end Go.Proofs.Ytldocdpdjdekiaa
end

section
/- What the small functions of pool do: names, Before, and the heap's own Len, Less, Swap, Push. -/
namespace Go.Proofs.Ytldocdpdjdekiaa.Pool
open Go Go.Vc

/-! ### Items in memory -/

theorem it_ex {h : Heap} {b o : Nat} {x : It} (ha : x.tv.at h b o) {K : Int → Bs 32 → Int → Bs 32 → List UInt8 → Prop} (hk : K x.slot x.root x.peer x.fr x.text) :
    ∃ (n : Int), ∃ (c : Bs 32), ∃ (n1 : Int), ∃ (c1 : Bs 32), ∃ (s : List UInt8), (at1 h b o (.int .i64 n) ∧ atBytes h b (o + 1) 32 c ∧ at1 h b (o + 1 + 32) (.int .i64 n1) ∧ atBytes h b (o + 1 + 32 + 1) 32 c1 ∧ at1 h b (o + 1 + 32 + 1 + 32) (.string (ByteArray.mk (List.toArray s)))) ∧ K n c n1 c1 s := by
  have ha' : at1 h b o (.int .i64 x.slot) ∧ atBytes h b (o + 1) 32 x.root ∧ at1 h b (o + 1 + 32) (.int .i64 x.peer) ∧ atBytes h b (o + 1 + 32 + 1) 32 x.fr ∧ at1 h b (o + 1 + 32 + 1 + 32) (.string (ByteArray.mk (List.toArray x.text))) := ha
  obtain ⟨h1, h2, h3, h4, h5⟩ := ha'
  exact ⟨_, _, _, _, _, ⟨h1, h2, h3, h4, h5⟩, hk⟩

section
variable {T : TypeId} {h : Heap} {b : Nat} {x : It} (v : Var T h b x.tv)
include v
theorem v_slot : at1 h b 0 (.int .i64 x.slot) := v.at.1
theorem v_root : atBytes h b 1 32 x.root := v.at.2.1
theorem v_peer : at1 h b 33 (.int .i64 x.peer) := v.at.2.2.1
theorem v_fr : atBytes h b 34 32 x.fr := v.at.2.2.2.1
theorem v_text : at1 h b 66 (.string (ByteArray.mk (List.toArray x.text))) := v.at.2.2.2.2

theorem v_it {K : Int → Bs 32 → Int → Bs 32 → List UInt8 → Prop} (hk : K x.slot x.root x.peer x.fr x.text) :
    ∃ (n : Int), ∃ (c : Bs 32), ∃ (n1 : Int), ∃ (c1 : Bs 32), ∃ (s : List UInt8), (at1 h b 0 (.int .i64 n) ∧ atBytes h b 1 32 c ∧ at1 h b 33 (.int .i64 n1) ∧ atBytes h b 34 32 c1 ∧ at1 h b 66 (.string (ByteArray.mk (List.toArray s)))) ∧ K n c n1 c1 s :=
  ⟨_, _, _, _, _, ⟨v_slot v, v_root v, v_peer v, v_fr v, v_text v⟩, hk⟩
end

abbrev its (L : List It) : List TV := L.map It.tv

theorem its_size (L : List It) : ∀ t ∈ its L, t.size = 67 := fun t ht => by
  obtain ⟨x, _, rfl⟩ := List.mem_map.1 ht
  rfl

theorem its_plain (L : List It) : ∀ t ∈ its L, t.plain = true := fun t ht => by
  obtain ⟨x, _, rfl⟩ := List.mem_map.1 ht
  rfl

theorem its_at {h : Heap} {s : Sl} {L : List It} {i : Int} (e : Elems 67 h s (its L)) (i0 : 0 ≤ i) (i1 : i < L.length) {K : Vc.Loc → Int → Bs 32 → Int → Bs 32 → List UInt8 → Prop}
    (hk : ∀ l x, s.a = some l → L[i.toNat]? = some x → K l x.slot x.root x.peer x.fr x.text) :
    0 ≤ i ∧ i < (s.len : Int) ∧ Nn s.a fun (l : Vc.Loc) => ∃ (n : Int), ∃ (c : Bs 32), ∃ (n1 : Int), ∃ (c1 : Bs 32), ∃ (t : List UInt8), (at1 h l.b (l.o + i.toNat * 67) (.int .i64 n) ∧ atBytes h l.b (l.o + i.toNat * 67 + 1) 32 c ∧ at1 h l.b (l.o + i.toNat * 67 + 1 + 32) (.int .i64 n1) ∧ atBytes h l.b (l.o + i.toNat * 67 + 1 + 32 + 1) 32 c1 ∧ at1 h l.b (l.o + i.toNat * 67 + 1 + 32 + 1 + 32) (.string (ByteArray.mk (List.toArray t)))) ∧ K l n c n1 c1 t := by
  have hl := e.len
  rw [List.length_map] at hl
  refine e.read i0 (by omega) fun l t hla ht ha => ?_
  rw [List.getElem?_map] at ht
  obtain ⟨x, hx, rfl⟩ := Option.map_eq_some_iff.1 ht
  exact it_ex ha (hk l x hla hx)

theorem hget_eq {L : List It} {i : Nat} {x : It} (h : L[i]? = some x) : x = hget L i := (hget_of h).symm

/-! ### Names -/

theorem str_var {T : TypeId} {h : Heap} {b n c : Nat} {x : Bs n} (v : Var T h b (.bytes n x)) : strAt h ⟨some ⟨b, 0⟩, n, c⟩ x.l :=
  ⟨x.h, .inr ⟨_, rfl, fun j hj => by
    have := v.bytes j (by rw [← x.h]; exact hj)
    rw [this]
    simp [List.getD, hj]⟩⟩

section
variable {R : Value → Heap → Prop} {h : Heap}

theorem less_spec {a b : Bs 32} (hr : ∀ h', Ext h h' → R (TV.bool (Op.bytesLess a.l b.l)).val h') : CallsH Try.prog 117 (TVs.vals [.bytes 32 a, .bytes 32 b]) h R := by
  apply sha_Less_calls
  unfold sha_Less_vc
  refine newTV_in fun h1 v1 x1 s1 => newTV_in fun h2 v2 x2 s2 => ?_
  exact ⟨a.l, str_var (v1.ext x2), b.l, str_var v2, hr _ (x1.trans x2)⟩

theorem before_spec {x y : It} (hr : ∀ h', Ext h h' → R (TV.bool (bf x y)).val h') : CallsH Try.prog 89 (TVs.vals [x.tv, y.tv]) h R := by
  apply pool_Before_calls x.slot x.root x.peer x.fr x.text y.slot y.root y.peer y.fr y.text
  unfold pool_Before_vc
  refine newTV_in fun h1 v1 x1 s1 => newTV_in fun h2 v2 x2 s2 => ?_
  have v1' := v1.ext x2
  have x12 := x1.trans x2
  refine ⟨x.slot, v_slot (x := x) v1', y.slot, v_slot (x := y) v2, If.dec.2 ⟨fun hlt => ?_, fun hge => ?_⟩⟩
  · have := hr h2 x12
    rwa [show bf x y = true from bf_iff.2 (.inl hlt)] at this
  · refine ⟨x.slot, v_slot (x := x) v1', y.slot, v_slot (x := y) v2, If.dec.2 ⟨fun he => ?_, fun hne => ?_⟩⟩
    · refine ⟨x.root, v_root (x := x) v1', y.root, v_root (x := y) v2, less_spec fun h' x' => ⟨_, rfl, ?_⟩⟩
      have := hr h' (x12.trans x')
      rwa [show bf x y = Op.bytesLess x.root.l y.root.l by unfold bf; simp [he]] at this
    · have := hr h2 x12
      rwa [show bf x y = false by unfold bf; simp [hge, hne]] at this

/-! ### The heap's own functions -/

/-- A pool's row of items in memory. -/
structure HL (h : Heap) (b : Nat) (A : Sl) (L : List It) (most quota : Int) : Prop where
  var : Var 165 h b (.agg [.slice A, .int .i64 most, .int .i64 quota])
  own : Own 105 67 h A (its L)
  apart : ¬ In A b
  few : L.length < 1000

section
variable {b : Nat} {A : Sl} {L : List It} {most quota : Int}

theorem HL.len (H : HL h b A L most quota) : L.length = A.len := by have := H.own.len; rwa [List.length_map] at this
theorem HL.ext {h' : Heap} (H : HL h b A L most quota) (x : Ext h h') : HL h' b A L most quota := ⟨H.var.ext x, H.own.ext x, H.apart, H.few⟩
theorem HL.only {h' : Heap} {S : Nat → Prop} (H : HL h b A L most quota) (o : Only S h h') (h1 : ¬ S b) (h2 : ∀ i, In A i → ¬ S i) : HL h' b A L most quota :=
  ⟨H.var.only o h1, H.own.only o (fun l hl => h2 _ ⟨l, hl, rfl⟩), H.apart, H.few⟩

theorem len_spec (hr : R (TV.int .i64 (A.len : Int)).val h) : CallsH Try.prog 97 (TVs.vals [.slice A]) h R := by
  apply pool_last_Len_calls
  exact hr

theorem lessAt_spec (H : HL h b A L most quota) {i k : Int} (i0 : 0 ≤ i) (i1 : i < L.length) (k0 : 0 ≤ k) (k1 : k < L.length)
    (hr : ∀ h', Ext h h' → R (TV.bool (bf (hget L k.toNat) (hget L i.toNat))).val h') : CallsH Try.prog 192 (TVs.vals [.slice A, .int .i64 i, .int .i64 k]) h R := by
  apply pool_last_Less_calls
  unfold pool_last_Less_vc
  refine its_at H.own.elems k0 k1 fun l x _ hx => its_at H.own.elems i0 i1 fun l y _ hy => ?_
  have e1 := hget_of hx
  have e2 := hget_of hy
  refine before_spec (x := x) (y := y) fun h' x' => ⟨_, rfl, ?_⟩
  rw [← e1, ← e2]
  exact hr h' x'

theorem its_set (L : List It) (i : Nat) (x : It) : its (L.set i x) = (its L).set i x.tv := by simp [its, List.map_set]

theorem swap_spec (H : HL h b A L most quota) {i k : Int} (i0 : 0 ≤ i) (i1 : i < L.length) (k0 : 0 ≤ k) (k1 : k < L.length)
    (hr : ∀ h', HL h' b A (sw L i.toNat k.toNat) most quota → Only (In A) h h' → h'.size = h.size → R (TV.tup []).val h') : CallsH Try.prog 193 (TVs.vals [.slice A, .int .i64 i, .int .i64 k]) h R := by
  apply pool_last_Swap_calls
  unfold pool_last_Swap_vc
  refine its_at H.own.elems k0 k1 fun l x _ hx => its_at H.own.elems i0 i1 fun l y _ hy => ?_
  refine H.own.put_in (t := x.tv) i0 (by simpa using i1) rfl rfl fun h1 o1 f1 s1 => ?_
  refine o1.put_in (t := y.tv) k0 (by simpa using k1) rfl rfl fun h2 o2 f2 s2 => ?_
  refine hr h2 ⟨(H.var.only f1 H.apart).only f2 H.apart, ?_, H.apart, by rw [sw_length]; exact H.few⟩ (f1.trans f2) (by omega)
  have e1 := hget_eq hx
  have e2 := hget_eq hy
  unfold sw
  rw [its_set, its_set, ← e1, ← e2]
  exact o2

theorem bytes32 : (ctx.ti 105).bytes = 96 := by kernel_rfl
theorem size32 : (ctx.ti 105).size = 67 := by kernel_rfl
theorem zsize32 : (ctx.ti 105).z.size = 67 := by kernel_rfl

theorem push_spec (H : HL h b A L most quota) (x : It) (hl : L.length < 900)
    {v : One} (hv : v.v = .iface 105 x.tv.val)
    (hr : ∀ h' A', HL h' b A' (L ++ [x]) most quota → Only (fun i => i = b ∨ In A i) h h' → (∀ i, In A' i → In A i ∨ h.size ≤ i) → R (TV.tup []).val h') : CallsH Try.prog 194 (TVs.vals [.ptr (some ⟨b, 0⟩), .one v]) h R := by
  apply pool_last_Push_calls
  unfold pool_last_Push_vc
  have hlen := H.len
  refine ⟨A, H.var.at1 rfl, x.slot, x.root, x.peer, x.fr, x.text, hv, Ext.push _ _, ?_⟩
  refine append1 (C := ctx) (T := 105) (sz := 67) (x := x.tv) size32 zsize32 (by rw [bytes32]; decide) (by rw [bytes32]; omega) H.own rfl rfl fun A' h1 o1 f1 b1 => ?_
  have hb : ∀ l, A'.a = some l → l.b ≠ b := by
    intro l hl e
    rcases b1 l hl with ⟨l', h9, h10⟩ | h9
    · exact H.apart ⟨l', h9, h10.trans e⟩
    · have := H.var.lt
      omega
  have v1 := H.var.only f1 H.apart
  show wok h1 b 0 1 ∧ Bind ((TV.slice A').put h1 b 0) _
  refine field_in (i := 0) (t0 := .slice A) v1 rfl rfl rfl rfl fun h2 v2 f2 s2 => ?_
  refine hr h2 A' ⟨v2, ?_, fun ⟨l, hl, e⟩ => hb l hl e, by simp; omega⟩ ((f1.mono fun i hi => .inr hi).trans (f2.mono fun i hi => .inl hi)) (fun i ⟨l, hl, e⟩ => ?_)
  · have : its (L ++ [x]) = its L ++ [x.tv] := by simp [its]
    rw [this]
    exact o1.only f2 hb
  · rcases b1 l hl with ⟨l', h9, h10⟩ | h9
    · exact .inl ⟨l', h9, h10.trans e⟩
    · exact .inr (by omega)

/-! ### As methods of a heap -/

theorem types_pos : 0 < ctx.P.types.size := of_decide_eq_true (by kernel_rfl)

end
end
end Go.Proofs.Ytldocdpdjdekiaa.Pool
end

section
/- What container/heap does over a pool's row. -/
namespace Go.Proofs.Ytldocdpdjdekiaa.Pool
open Go Go.Vc
section
variable {R : Value → Heap → Prop} {h : Heap} {b : Nat} {A : Sl} {L : List It} {most quota : Int}

theorem m_len (H : HL h b A L most quota) : MethodAt Try.prog h 172 (TV.ptr (some ⟨b, 0⟩)).val "Len" 97 (TV.slice A).val :=
  meth_val ctx_ok (e := 163) (by kernel_rfl) (by kernel_rfl) types_pos (by kernel_rfl) (by kernel_rfl) (by kernel_rfl) (H.var.at1 rfl)
theorem m_less (H : HL h b A L most quota) : MethodAt Try.prog h 172 (TV.ptr (some ⟨b, 0⟩)).val "Less" 192 (TV.slice A).val :=
  meth_val ctx_ok (e := 163) (by kernel_rfl) (by kernel_rfl) types_pos (by kernel_rfl) (by kernel_rfl) (by kernel_rfl) (H.var.at1 rfl)
theorem m_swap (H : HL h b A L most quota) : MethodAt Try.prog h 172 (TV.ptr (some ⟨b, 0⟩)).val "Swap" 193 (TV.slice A).val :=
  meth_val ctx_ok (e := 163) (by kernel_rfl) (by kernel_rfl) types_pos (by kernel_rfl) (by kernel_rfl) (by kernel_rfl) (H.var.at1 rfl)
theorem m_push : MethodAt Try.prog h 172 (TV.ptr (some ⟨b, 0⟩)).val "Push" 194 (TV.ptr (some ⟨b, 0⟩)).val :=
  meth_ptr ctx_ok (e := 163) (by kernel_rfl) (by kernel_rfl) types_pos (by kernel_rfl)

theorem tdiv2 (n : Int) (h : 0 ≤ n) : Int.tdiv n 2 = ((n.toNat / 2 : Nat) : Int) := by
  rw [Int.tdiv_eq_ediv_of_nonneg h]; omega

theorem In.not_of {A : Sl} {b : Nat} (h : ¬ In A b) : ∀ i, In A i → ¬ i = b := fun _ hi e => h (e ▸ hi)

theorem up_spec (H : HL h b A L most quota) {v : One} (hv : v.v = .iface 172 (TV.ptr (some ⟨b, 0⟩)).val) {j : Int} (j0 : 0 ≤ j) (j1 : j < L.length) (hU : UpInv L j.toNat)
    (hr : ∀ h' L', HL h' b A L' most quota → L'.Perm L → HeapFrom 0 L' → Only (In A) h h' → R (TV.tup []).val h') : CallsH Try.prog 116 (TVs.vals [.one v, .int .i64 j]) h R := by
  apply container_heap_up_calls
  unfold container_heap_up_vc
  have few := H.few
  refine ⟨fun s hh => 0 ≤ s ∧ s < L.length ∧ ∃ L', HL hh b A L' most quota ∧ L'.Perm L ∧ UpInv L' s.toNat ∧ Only (In A) h hh, fun s _ => s.toNat, ⟨j0, j1, L, H, List.Perm.refl _, hU, Only.refl _ _⟩, ?_⟩
  rintro s hh ⟨s0, s1, L', H', hp, hU', o⟩
  have hlen := hp.length_eq
  refine ⟨by decide, ?_⟩
  rw [wrap_i64 (n := s - 1) (by omega) (by omega)]
  have hdiv : Int.tdiv (s - 1) 2 = if s = 0 then 0 else (((s.toNat - 1) / 2 : Nat) : Int) := by
    split
    · rename_i h0; subst h0; decide
    · rw [tdiv2 _ (by omega)]
      congr 2
      omega
  rw [hdiv]
  refine If.dec.2 ⟨fun he => ?_, fun hne => ?_⟩
  · have h0 : s = 0 := by
      split at he
      · assumption
      · rw [wrap_i64 (by omega) (by omega)] at he
        omega
    exact hr hh L' H' hp (up_done hU' (by omega) (.inl (by omega))) o
  · have h0 : ¬ s = 0 := fun e => by rw [if_pos e, e] at hne; exact hne (by decide)
    rw [if_neg h0, wrap_i64 (by omega) (by omega)]
    have hpar : (((s.toNat - 1) / 2 : Nat) : Int).toNat = (s.toNat - 1) / 2 := Int.toNat_natCast _
    refine ⟨_, _, _, _, hv, m_less H', ?_⟩
    refine lessAt_spec H' s0 (by omega) (by omega) (by omega) fun h2 x2 => ⟨_, rfl, ?_⟩
    have H2 := H'.ext x2
    have o2 : Only (In A) h h2 := o.trans (Only.of_ext x2)
    rw [hpar]
    cases hb : bf (hget L' ((s.toNat - 1) / 2)) (hget L' s.toNat) with
    | false => exact If.yes (hr h2 L' H2 hp (up_done hU' (by omega) (.inr hb)) o2)
    | true =>
      refine If.no ⟨_, _, _, _, hv, m_swap H2, ?_⟩
      refine swap_spec H2 (by omega) (by omega) s0 (by omega) fun h3 H3 o3 _ => ⟨rfl, ?_⟩
      rw [hpar] at H3
      refine ⟨⟨by omega, by omega, _, H3, (sw_perm (by omega) (by omega)).trans hp, ?_, o2.trans o3⟩, by dsimp only; omega⟩
      rw [hpar]
      exact up_step hU' (by omega) (by omega) hb

theorem down_spec (H : HL h b A L most quota) {v : One} (hv : v.v = .iface 172 (TV.ptr (some ⟨b, 0⟩)).val) {i n : Int} (i0 : 0 ≤ i) (i1 : i < L.length) (hn : n = L.length) {lo : Nat} (hlo : lo ≤ i.toNat) (hD : DownInv lo L i.toNat)
    (hr : ∀ h' L' r, HL h' b A L' most quota → L'.Perm L → HeapFrom lo L' → Only (In A) h h' → R (TV.bool r).val h') : CallsH Try.prog 118 (TVs.vals [.one v, .int .i64 i, .int .i64 n]) h R := by
  apply container_heap_down_calls
  unfold container_heap_down_vc
  have few := H.few
  subst hn
  refine ⟨fun s hh => i ≤ s ∧ s < L.length ∧ ∃ L', HL hh b A L' most quota ∧ L'.Perm L ∧ DownInv lo L' s.toNat ∧ Only (In A) h hh, fun s _ => ((L.length : Int) - s).toNat, ⟨Int.le_refl _, i1, L, H, List.Perm.refl _, hD, Only.refl _ _⟩, ?_⟩
  rintro s hh ⟨s0, s1, L', H', hp, hD', o⟩
  have hlen := hp.length_eq
  have w2 : ∀ x : Int, 0 ≤ x → x < 10000 → IntKind.wrap .i64 x = x := fun x h0 h1 => wrap_i64 (by omega) (by omega)
  rw [w2 (2 * s) (by omega) (by omega), w2 (2 * s + 1) (by omega) (by omega), w2 (2 * s + 1 + 1) (by omega) (by omega)]
  have none_of : (L.length : Int) ≤ 2 * s + 1 → HeapFrom lo L' := fun hge => down_done hD' fun k hk hl hpar => by omega
  intro J hJ
  refine If.dec.2 ⟨fun hge => hr hh L' _ H' hp (none_of hge) o, fun hlt => ?_⟩
  refine If.dec.2 ⟨fun hneg => by omega, fun _ => ?_⟩
  refine hJ _ _ ?_
  intro J2 hJ2
  -- the child that is taken
  have key : ∀ (c : Int) (h2 : Heap), 0 < c → c < L.length → (c.toNat - 1) / 2 = s.toNat → HL h2 b A L' most quota → Only (In A) h h2 →
      (∀ k, 0 < k → k < L'.length → (k - 1) / 2 = s.toNat → bf (hget L' c.toNat) (hget L' k) = false) → J2 c h2 := by
    intro c h2 c0 c1 hpar H2 o2 hsib
    refine hJ2 _ _ ?_
    refine ⟨_, _, _, _, hv, m_less H2, ?_⟩
    refine lessAt_spec H2 (by omega) (by omega) (by omega) (by omega) fun h3 x3 => ⟨_, rfl, ?_⟩
    have H3 := H2.ext x3
    have o3 : Only (In A) h h3 := o2.trans (Only.of_ext x3)
    cases hb : bf (hget L' s.toNat) (hget L' c.toNat) with
    | false =>
      refine If.yes (hr h3 L' _ H3 hp (down_done hD' fun k hk hl hpk => ?_) o3)
      exact nb_trans hb (hsib k hk hl hpk)
    | true =>
      refine If.no ⟨_, _, _, _, hv, m_swap H3, ?_⟩
      refine swap_spec H3 (by omega) (by omega) (by omega) (by omega) fun h4 H4 o4 _ => ⟨rfl, ?_⟩
      refine ⟨⟨by omega, by omega, _, H4, (sw_perm (by omega) (by omega)).trans hp, ?_, o3.trans o4⟩, by dsimp only; omega⟩
      exact down_step hD' (by omega) hpar (by omega) (by omega) hb hsib
  refine If.dec.2 ⟨fun h2c => ?_, fun h1c => ?_⟩
  · refine ⟨_, _, _, _, hv, m_less H', ?_⟩
    refine lessAt_spec H' (by omega) (by omega) (by omega) (by omega) fun h2 x2 => ⟨_, rfl, ?_⟩
    have H2 := H'.ext x2
    have o2 : Only (In A) h h2 := o.trans (Only.of_ext x2)
    have e1 : (2 * s + 1).toNat = 2 * s.toNat + 1 := by omega
    have e2 : (2 * s + 1 + 1).toNat = 2 * s.toNat + 2 := by omega
    rw [e1, e2]
    cases hb : bf (hget L' (2 * s.toNat + 1)) (hget L' (2 * s.toNat + 2)) with
    | true =>
      refine If.yes (key _ h2 (by omega) (by omega) (by omega) H2 o2 fun k hk hl hpk => ?_)
      rw [e2]
      have : k = 2 * s.toNat + 1 ∨ k = 2 * s.toNat + 2 := by omega
      rcases this with rfl | rfl
      · exact bf_asymm hb
      · exact bf_irrefl _
    | false =>
      refine If.no (key _ h2 (by omega) (by omega) (by omega) H2 o2 fun k hk hl hpk => ?_)
      rw [e1]
      have : k = 2 * s.toNat + 1 ∨ k = 2 * s.toNat + 2 := by omega
      rcases this with rfl | rfl
      · exact bf_irrefl _
      · exact hb
  · refine key _ hh (by omega) (by omega) (by omega) H' o fun k hk hl hpk => ?_
    have e1 : (2 * s + 1).toNat = 2 * s.toNat + 1 := by omega
    rw [e1]
    have : k = 2 * s.toNat + 1 := by omega
    subst this
    exact bf_irrefl _

theorem Only.in_of {A : Sl} {h h' : Heap} (o : Only (In A) h h') : Only (fun i => i = b ∨ In A i) h h' := o.mono fun _ hi => .inr hi

/-- heap.Push. -/
theorem hpush_spec (H : HL h b A L most quota) (hh : HeapFrom 0 L) (hl : L.length < 900) {v : One} (hv : v.v = .iface 172 (TV.ptr (some ⟨b, 0⟩)).val) (x : It) {u : One} (hu : u.v = .iface 105 x.tv.val)
    (hr : ∀ h' A' L', HL h' b A' L' most quota → L'.Perm (L ++ [x]) → HeapFrom 0 L' → Only (fun i => i = b ∨ In A i) h h' → (∀ i, In A' i → In A i ∨ h.size ≤ i) → R (TV.tup []).val h') : CallsH Try.prog 88 (TVs.vals [.one v, .one u]) h R := by
  apply container_heap_Push_calls
  unfold container_heap_Push_vc
  refine ⟨_, _, _, _, hv, m_push, ?_⟩
  refine push_spec H x hl hu fun h1 A' H1 o1 n1 => ⟨rfl, ?_⟩
  refine ⟨_, _, _, _, hv, m_len H1, ?_⟩
  refine len_spec ⟨_, rfl, ?_⟩
  have e := H1.len
  rw [List.length_append, List.length_singleton] at e
  rw [← e, wrap_i64 (by omega) (by omega)]
  have ej : ((((L.length + 1 : Nat) : Int) - 1)).toNat = L.length := by omega
  refine up_spec H1 hv (by omega) (by simp; omega) ?_ fun h2 L' H2 hp hh2 o2 => ⟨rfl, ?_⟩
  · rw [ej]
    have g : ∀ k, k < L.length → hget (L ++ [x]) k = hget L k := fun k hk => by
      unfold hget
      rw [List.getD_eq_getElem?_getD, List.getD_eq_getElem?_getD, List.getElem?_append_left hk]
    refine ⟨fun k hk hkl hne => ?_, fun k hk hkl hpar h0 => ?_⟩
    · rw [List.length_append, List.length_singleton] at hkl
      rw [g k (by omega), g _ (by omega)]
      exact hh k hk (by omega) (Nat.zero_le _)
    · rw [List.length_append, List.length_singleton] at hkl
      omega
  · refine hr h2 A' L' H2 hp hh2 ?_ n1
    have hs := o1.size
    refine ⟨Nat.le_trans hs o2.size, fun i hi hn => ?_⟩
    rw [o2.same i (by omega) (fun hx => ?_), o1.same i hi hn]
    rcases n1 i hx with h9 | h9
    · exact hn (.inr h9)
    · omega

/-- heap.Fix at the top. -/
theorem hfix_spec (H : HL h b A L most quota) (h0 : 0 < L.length) (hD : DownInv 0 L 0) {v : One} (hv : v.v = .iface 172 (TV.ptr (some ⟨b, 0⟩)).val)
    (hr : ∀ h' L', HL h' b A L' most quota → L'.Perm L → HeapFrom 0 L' → Only (In A) h h' → R (TV.tup []).val h') : CallsH Try.prog 90 (TVs.vals [.one v, .int .i64 0]) h R := by
  apply container_heap_Fix_calls
  unfold container_heap_Fix_vc
  refine ⟨_, _, _, _, hv, m_len H, ?_⟩
  refine len_spec ⟨_, rfl, ?_⟩
  have e := H.len
  refine down_spec H hv (lo := 0) (by decide) (by omega) (by omega) (by decide) hD fun h1 L' r H1 hp hh o => ⟨_, rfl, ?_⟩
  cases r with
  | true => exact If.no (hr h1 L' H1 hp hh o)
  | false =>
    have hl := hp.length_eq
    refine If.yes (up_spec H1 hv (by decide) (by omega) ⟨fun k hk hkl _ => hh k hk hkl (Nat.zero_le _), fun k _ _ _ h9 => absurd h9 (by decide)⟩ fun h2 L2 H2 hp2 hh2 o2 => ⟨rfl, ?_⟩)
    exact hr h2 L2 H2 (hp2.trans hp) hh2 (o.trans o2)

/-- heap.Init. -/
theorem hinit_spec (H : HL h b A L most quota) {v : One} (hv : v.v = .iface 172 (TV.ptr (some ⟨b, 0⟩)).val)
    (hr : ∀ h' L', HL h' b A L' most quota → L'.Perm L → HeapFrom 0 L' → Only (In A) h h' → R (TV.tup []).val h') : CallsH Try.prog 95 (TVs.vals [.one v]) h R := by
  apply container_heap_Init_calls
  unfold container_heap_Init_vc
  refine ⟨_, _, _, _, hv, m_len H, ?_⟩
  refine len_spec ⟨_, rfl, by decide, ?_⟩
  have e := H.len
  have few := H.few
  rw [← e, tdiv2 _ (by omega), wrap_i64 (n := ((L.length : Int).toNat / 2 : Nat)) (by omega) (by omega), wrap_i64 (by omega) (by omega)]
  refine ⟨fun s hh => -1 ≤ s ∧ s < L.length ∧ ∃ L', HL hh b A L' most quota ∧ L'.Perm L ∧ HeapFrom (s + 1).toNat L' ∧ Only (In A) h hh, fun s _ => (s + 1).toNat, ⟨by omega, by omega, L, H, List.Perm.refl _, ?_, Only.refl _ _⟩, ?_⟩
  · intro k hk hl hlo
    omega
  rintro s hh ⟨s0, s1, L', H', hp, hH, o⟩
  have hl := hp.length_eq
  refine If.dec.2 ⟨fun hs => ?_, fun hs => ?_⟩
  · have es : (s + 1).toNat = s.toNat + 1 := by omega
    rw [es] at hH
    refine down_spec H' hv (lo := s.toNat) hs (by omega) (by omega) (Nat.le_refl _) (down_start hH) fun h1 L2 r H1 hp1 hh1 o1 => ⟨_, rfl, ?_⟩
    rw [wrap_i64 (by omega) (by omega)]
    have es2 : (s - 1 + 1).toNat = s.toNat := by omega
    exact ⟨⟨by omega, by omega, L2, H1, hp1.trans hp, by rw [es2]; exact hh1, o.trans o1⟩, by dsimp only; omega⟩
  · have es : (s + 1).toNat = 0 := by omega
    rw [es] at hH
    exact hr hh L' H' hp hH o

end
end Go.Proofs.Ytldocdpdjdekiaa.Pool
end

section
/- slices.SortFunc over a row of structs in memory: the kit's contract, in terms of heaps. -/
namespace Go.Vc
open Go Go.Proofs Go.Shelf Go.RowKit Go.Lib Go.Sort

theorem one_cell' {v : Value} (h : isOne v = true) : v.oneCell' = true := by
  cases v <;> first | rfl | (simp [isOne] at h)

theorem grow_of {w w' : World} (hs : SameEnv w w') (e : Ext w.heap w'.heap) : ∃ q os, w' = Go.Sort.grow (w.drewN q) os := by
  refine ⟨w'.drawn - w.drawn, w'.heap.extract w.heap.size, ?_⟩
  obtain ⟨hp, tp, dr, os, op⟩ := w'
  obtain ⟨hp0, tp0, dr0, os0, op0⟩ := w
  have h1 : os = os0 := hs.os
  have h2 : tp = tp0 := hs.tape
  have h3 : op = op0 := hs.output
  have h4 : dr0 ≤ dr := hs.drawn
  subst h1; subst h2; subst h3
  simp only [Go.Sort.grow, World.drewN]
  congr 1
  · apply Array.ext_getElem?
    intro i
    rw [Array.getElem?_append]
    have hz : hp0.size ≤ hp.size := e.size
    split
    · rename_i hi
      exact e.same i hi
    · rename_i hi
      rw [Array.getElem?_extract]
      split
      · rename_i hl
        congr 1
        omega
      · rename_i hl
        have : hp.size ≤ i := by
          rcases Nat.lt_or_ge i hp.size with h9 | h9
          · exfalso
            apply hl
            show i - hp0.size < min hp.size hp.size - hp0.size
            rw [Nat.min_self]
            omega
          · exact h9
        exact Array.getElem?_eq_none this
  · omega

section
variable {α : Type} [Inhabited α] {tv : α → TV} {k : Nat}

omit [Inhabited α] in
theorem map_size (hk : ∀ x, (tv x).size = k) (L : List α) : ∀ t ∈ L.map tv, t.size = k := fun t ht => by
  obtain ⟨x, _, rfl⟩ := List.mem_map.1 ht
  exact hk x

theorem flat_list (hk : ∀ x, (tv x).size = k) (L : List α) (j : Nat) (hj : j < L.length * k) : (TVs.cells (L.map tv))[j]? = some ((flatK (fun x => (tv x).cells) k L.toArray)[j]!) := by
  have k0 : 0 < k := Nat.pos_of_ne_zero (fun e => by rw [e, Nat.mul_zero] at hj; omega)
  rw [get_flatK _ _ _ _ (by simpa using hj)]
  have hd : j / k < L.length := (Nat.div_lt_iff_lt_mul k0).2 hj
  have hm : j % k < k := Nat.mod_lt _ k0
  have := TVs.cells_get (L.map tv) (j / k) (j % k) (tv L[j / k]) (map_size hk L) (by simp [hd]) hm
  rw [Nat.div_add_mod' j k] at this
  rw [this]
  have hl : j % k < (tv L[j / k]).cells.length := by rw [TV.cells_length, hk]; exact hm
  have e1 : (L.toArray)[j / k]! = L[j / k] := by simp [hd]
  rw [e1, List.getElem?_eq_getElem hl]
  simp [hl]

theorem holds_of {T : TypeId} {w : World} {L : List α} {b : Nat} {rest : List Value} (hk : ∀ x, (tv x).size = k) (hb : w.heap[b]? = some (row (TVs.cells (L.map tv) ++ rest) T)) :
    HoldsK (fun x => (tv x).cells) k w b 0 L.toArray := by
  intro j hj
  rw [size_flatK] at hj
  have hj' : j < L.length * k := by simpa using hj
  have hf := flat_list hk L j hj'
  have hl : j < (TVs.cells (L.map tv)).length := (List.getElem?_eq_some_iff.1 hf).1
  refine ⟨?_, ?_⟩
  · rw [cell?_eq]
    unfold cel
    rw [hb]
    simp only [row, Nat.zero_add]
    rw [List.getElem?_toArray, List.getElem?_append_left hl, hf]
    rfl
  · unfold World.frozen?
    rw [hb]
    simp [row]

theorem put_cells (hk : ∀ x, (tv x).size = k) (L L' : List α) (rest : List Value) (hl : L'.length = L.length) :
    putCells id 0 (flatK (fun x => (tv x).cells) k L'.toArray) (TVs.cells (L.map tv) ++ rest).toArray = (TVs.cells (L'.map tv) ++ rest).toArray := by
  have n1 := TVs.cells_uniform (L.map tv) (map_size hk L)
  have n2 := TVs.cells_uniform (L'.map tv) (map_size hk L')
  rw [List.length_map] at n1 n2
  apply Array.ext_getElem?
  intro i
  unfold putCells
  rw [Array.getElem?_mapIdx, List.getElem?_toArray, List.getElem?_toArray]
  simp only [Nat.zero_le, true_and, Nat.zero_add, Nat.sub_zero, size_flatK, id]
  have hsz : L'.toArray.size = L'.length := by simp
  rw [hsz]
  by_cases hi : i < L'.length * k
  · rw [List.getElem?_append_left (by rw [n1, ← hl]; exact hi), List.getElem?_append_left (by rw [n2]; exact hi), flat_list hk L' i hi, List.getElem?_eq_getElem (by rw [n1, ← hl]; exact hi)]
    simp [hi]
  · rw [List.getElem?_append_right (by rw [n1, ← hl]; omega), List.getElem?_append_right (by rw [n2]; omega), n1, n2, hl]
    have hi' : ¬ i < L.length * k := by rw [← hl]; exact hi
    simp [hi']

/-- slices.SortFunc over a row that stands for itself. -/
theorem sort_own {P : Program} {ρ : Ren} (Ls : SlLaysF0.n6 P ρ) {T : TypeId} (aE : ∀ w, (isAgg (ρ.t 24)).run P w = .ok true w) (zE : ∀ w, (Go.sizeOf (ρ.t 24)).run P w = .ok k w)
    (hk : ∀ x, (tv x).size = k) (hp : ∀ x, (tv x).plain = true) {cf : α → α → Int} (hO : SWO (ltOf cf)) {g : Nat} {cb : Array Value} (hent : EntP P g) {h : Heap}
    (hcmp : ∀ h' x y, CallsH P g ([.agg (tv x).cells.toArray, .agg (tv y).cells.toArray] ++ cb.toList) h' fun v h'' => v = .int .i64 (cf x y) ∧ Ext h' h'')
    {s : Sl} {L : List α} (o : Own T k h s (L.map tv)) (hlen : L.length < 1000000) {R : Value → Heap → Prop}
    (hr : ∀ (h' : Heap) (L' : List α), L'.Perm L → L'.Pairwise (fun x y => ltOf cf y x = false) → Own T k h' s (L'.map tv) → Only (In s) h h' → R (TV.tup []).val h') :
    CallsH P (ρ.f 6) [(TV.slice s).val, .func (.func g) #[] cb] h R := by
  have hl := o.len
  rw [List.length_map] at hl
  rcases o.row with hnil | ⟨b, rest, ha, hb, hrest⟩
  · intro w hw
    have h0 : L = [] := List.eq_nil_of_length_eq_zero (by rw [hl, hnil]; rfl)
    subst h0
    have := AnyF.slices_SortFunc_none Ls none 0 (.func (.func g) #[] cb) w
    rw [hnil]
    refine this.mono fun e w' => ?_
    rintro ⟨rfl, rfl⟩
    refine ⟨SameEnv.refl _, _, rfl, ?_⟩
    rw [hw]
    exact hr h [] (List.Perm.refl _) List.Pairwise.nil o (Only.refl _ _)
  · intro w hw
    subst hw
    have hH := holds_of hk hb
    have hblk : b < w.heap.size := row_lt hb
    have hC : CmpLays P g cb (fun x => (tv x).cells) k cf b 0 L.toArray.size w := by
      intro m os dk _ x y
      have hx := hcmp (sortWorldK (fun x => (tv x).cells) k w b 0 m dk os).heap x y (sortWorldK (fun x => (tv x).cells) k w b 0 m dk os) rfl
      have ea : ([Value.agg (tv x).cells.toArray, Value.agg (tv y).cells.toArray] ++ cb.toList).toArray = #[Value.agg (tv x).cells.toArray, Value.agg (tv y).cells.toArray] ++ cb := by apply Array.toList_inj.1; simp
      rw [ea] at hx
      refine hx.mono fun e w' => ?_
      rintro ⟨hs, v, rfl, rfl, hx⟩
      exact ⟨rfl, grow_of hs hx⟩
    have hs := AnyQ.slices_SortFunc Ls k aE zE (fun x => (tv x).cells) (fun x => by rw [TV.cells_length, hk]) (fun x v hv => one_cell' (TV.plain_cells _ (hp x) v hv)) cf hO g cb b 0 s.cap L.toArray w (fun args w => hent args w) hC hH hblk (by simp; omega)
    have e1 : (TV.slice s).val = .slice (some ⟨b, 0, none⟩) L.toArray.size s.cap := by
      simp only [TV.val, slVal, ha, Option.map_some, Vc.Loc.addr, List.size_toArray, hl]
    rw [e1]
    refine hs.mono fun e w' => ?_
    rintro ⟨rfl, d', n, os, hp', hsrt, rfl⟩
    have hsz : d'.size = L.length := by have := hp'.1; simpa using this
    have hperm : d'.toList.Perm L := by
      have := hp'.2.2
      have e2 : d'.extract 0 L.toArray.size = d' := by rw [Array.extract_eq_self_of_le (by simp [hsz])]
      have e3 : L.toArray.extract 0 L.toArray.size = L.toArray := by rw [Array.extract_eq_self_of_le (Nat.le_refl _)]
      rw [e2, e3] at this
      exact this
    have hheap : (sortWorldK (fun x => (tv x).cells) k w b 0 n d' os).heap = (w.heap.modify b (onCells (putCells id 0 (flatK (fun x => (tv x).cells) k d')))) ++ os := rfl
    have hd : d' = d'.toList.toArray := by simp
    have hb' : (sortWorldK (fun x => (tv x).cells) k w b 0 n d' os).heap[b]? = some (row (TVs.cells (d'.toList.map tv) ++ rest) T) := by
      rw [hheap, Array.getElem?_append_left (by simpa using hblk), Array.getElem?_modify, if_pos rfl, hb]
      simp only [Option.map_some, onCells, row]
      have hpc := put_cells (k := k) (tv := tv) hk L d'.toList rest (by simp [hsz])
      rw [← hd] at hpc
      rw [hpc]
    refine ⟨⟨rfl, rfl, rfl, Nat.le_add_right _ _⟩, _, rfl, ?_⟩
    refine hr _ d'.toList hperm ?_ ⟨map_size hk _, by simp [hsz, hl], o.cap, .inr ⟨b, rest, ha, hb', hrest⟩⟩ ⟨?_, fun i hi hn => ?_⟩
    · rw [List.pairwise_iff_getElem]
      intro i j hi hj hij
      have h1 : i < d'.size := by simpa using hi
      have h2 : j < d'.size := by simpa using hj
      have := hsrt i j (Nat.zero_le _) hij (by simpa [hsz] using h2)
      simpa [h1, h2] using this
    · rw [hheap]
      simp
    · rw [hheap, Array.getElem?_append_left (by simpa using hi), Array.getElem?_modify, if_neg (fun e => hn ⟨_, ha, e⟩)]
end

end Go.Vc
end

section
/-
  DERIVED: THE SHELF's CONTRACTS AT THIS DUMP, IN PLAIN WORDS (tools/lay-plain.mjs out of 'TryShelf.lean', which tools/lay-shelf.mjs wrote): THE SAME DECLARATIONS UNDER THE SAME NAMES: 'import', 'namespace', 'open', 'def', 'theorem' AND NOTHING ELSE: no command of the shelf's: FOR A HAND-IN. Each laying: the table of numbers ('.._ren') and one theorem, a field a fact of the dump's own or the kernel's comparison; each contract: ONE APPLICATION.
-/
namespace Go.Proofs
open Go.Shelf
def Try.sortIts_ren : Go.Shelf.Ren := ⟨fun | 6 => 101 | 15 => 127 | 14 => 126 | 28 => 143 | 29 => 144 | 20 => 135 | 21 => 136 | 22 => 137 | 23 => 138 | 24 => 139 | 25 => 140 | 26 => 141 | 27 => 142 | 46 => 159 | 47 => 160 | 48 => 161 | 49 => 162 | 50 => 163 | 57 => 169 | n => n, fun | 22 => 113 | 24 => 105 | 25 => 182 | 3 => 3 | 39 => 195 | 0 => 0 | 53 => 205 | 55 => 58 | 4 => 4 | 46 => 230 | 45 => 229 | 50 => 98 | 5 => 5 | 9 => 9 | 66 => 249 | 70 => 253 | 76 => 257 | 77 => 258 | n => n, fun | n => n⟩
theorem Try.sortIts : Go.Proofs.SlLaysF0.n6 Try.prog Try.sortIts_ren := {
  mixed := by kernel_rfl
  f6 := ⟨Try.f101.name, by decide, Try.func101.trans (congrArg some (by kernel_rfl))⟩
  f14 := ⟨Try.f126.name, by decide, Try.func126.trans (congrArg some (by kernel_rfl))⟩
  f15 := Try.func127.trans (congrArg some (by kernel_rfl))
  f20 := ⟨Try.f135.name, by decide, Try.func135.trans (congrArg some (by kernel_rfl))⟩
  f21 := ⟨Try.f136.name, by decide, Try.func136.trans (congrArg some (by kernel_rfl))⟩
  f22 := ⟨Try.f137.name, by decide, Try.func137.trans (congrArg some (by kernel_rfl))⟩
  f23 := ⟨Try.f138.name, by decide, Try.func138.trans (congrArg some (by kernel_rfl))⟩
  f24 := ⟨Try.f139.name, by decide, Try.func139.trans (congrArg some (by kernel_rfl))⟩
  f25 := ⟨Try.f140.name, by decide, Try.func140.trans (congrArg some (by kernel_rfl))⟩
  f26 := ⟨Try.f141.name, by decide, Try.func141.trans (congrArg some (by kernel_rfl))⟩
  f27 := ⟨Try.f142.name, by decide, Try.func142.trans (congrArg some (by kernel_rfl))⟩
  f28 := Try.func143.trans (congrArg some (by kernel_rfl))
  f29 := Try.func144.trans (congrArg some (by kernel_rfl))
  f46 := ⟨Try.f159.name, by decide, Try.func159.trans (congrArg some (by kernel_rfl))⟩
  f47 := Try.func160.trans (congrArg some (by kernel_rfl))
  f48 := Try.func161.trans (congrArg some (by kernel_rfl))
  f49 := ⟨Try.f162.name, by decide, Try.func162.trans (congrArg some (by kernel_rfl))⟩
  f50 := ⟨Try.f163.name, by decide, Try.func163.trans (congrArg some (by kernel_rfl))⟩
  f57 := ⟨Try.f169.name, by decide, Try.func169.trans (congrArg some (by kernel_rfl))⟩
  t0 := Try.underlying0
  a0 := Try.isAgg0
  z0 := Try.sizeOf0
  v0 := Try.zeroValue0
  t3 := Try.underlying3
  a3 := Try.isAgg3
  z3 := Try.sizeOf3
  v3 := Try.zeroValue3
  t4 := Try.underlying4
  a4 := Try.isAgg4
  z4 := Try.sizeOf4
  v4 := Try.zeroValue4
  t5 := Try.underlying5
  a5 := Try.isAgg5
  z5 := Try.sizeOf5
  v5 := Try.zeroValue5
  t9 := Try.underlying9
  a9 := Try.isAgg9
  z9 := Try.sizeOf9
  v9 := Try.zeroValue9
  t22 := Try.underlying113
  a22 := Try.isAgg113
  z22 := Try.sizeOf113
  v22 := Try.zeroValue113
  t25 := Try.underlying182
  a25 := Try.isAgg182
  z25 := Try.sizeOf182
  v25 := Try.zeroValue182
  t39 := Try.underlying195
  a39 := Try.isAgg195
  z39 := Try.sizeOf195
  v39 := Try.zeroValue195
  t45 := Try.underlying229
  a45 := Try.isAgg229
  z45 := Try.sizeOf229
  v45 := Try.zeroValue229
  t46 := Try.underlying230
  a46 := Try.isAgg230
  z46 := Try.sizeOf230
  v46 := Try.zeroValue230
  t50 := Try.underlying98
  a50 := Try.isAgg98
  z50 := Try.sizeOf98
  v50 := Try.zeroValue98
  t53 := Try.underlying205
  a53 := Try.isAgg205
  z53 := Try.sizeOf205
  v53 := Try.zeroValue205
  t55 := Try.underlying58
  a55 := Try.isAgg58
  z55 := Try.sizeOf58
  v55 := Try.zeroValue58
  t66 := Try.underlying249
  a66 := Try.isAgg249
  z66 := Try.sizeOf249
  v66 := Try.zeroValue249
  t70 := Try.underlying253
  a70 := Try.isAgg253
  z70 := Try.sizeOf253
  v70 := Try.zeroValue253
  t76 := Try.underlying257
  a76 := Try.isAgg257
  z76 := Try.sizeOf257
  v76 := Try.zeroValue257
  t77 := Try.underlying258
  a77 := Try.isAgg258
  z77 := Try.sizeOf258
  v77 := Try.zeroValue258 }
end Go.Proofs
end

section
/- A pool's items, in order: Clone, SortFunc, All; the pool as a row in order. -/
namespace Go.Proofs.Ytldocdpdjdekiaa.Pool
open Go Go.Vc
section
variable {R : Value → Heap → Prop} {h : Heap} {b : Nat} {A : Sl} {L : List It} {most quota : Int}

def cmpIt (x y : It) : Int := if bf x y = true then -1 else if bf y x = true then 1 else 0

theorem lt_cmp (x y : It) : Go.Proofs.ltOf cmpIt x y = bf x y := by
  unfold Go.Proofs.ltOf cmpIt
  cases h1 : bf x y with
  | true => simp
  | false =>
    cases h2 : bf y x <;> simp

theorem swo : Go.Sort.SWO (Go.Proofs.ltOf cmpIt) where
  irrefl x := by rw [lt_cmp]; exact bf_irrefl x
  trans x y z h k := by rw [lt_cmp] at *; exact bf_trans h k
  ntrans x y z h k := by rw [lt_cmp] at *; exact nb_trans h k

theorem cmp_spec {x y : It} (hr : ∀ h', Ext h h' → R (TV.int .i64 (cmpIt x y)).val h') : CallsH Try.prog 102 (TVs.vals [x.tv, y.tv]) h R := by
  apply pool_Pool_All_1_calls x.slot x.root x.peer x.fr x.text y.slot y.root y.peer y.fr y.text
  unfold pool_Pool_All_1_vc
  refine newTV_in fun h1 v1 x1 s1 => newTV_in fun h2 v2 x2 s2 => ?_
  have v1' := v1.ext x2
  have x12 := x1.trans x2
  refine v_it (x := x) v1' (v_it (x := y) v2 ?_)
  refine before_spec (x := x) (y := y) fun h3 x3 => ⟨_, rfl, ?_⟩
  unfold cmpIt at hr
  cases h1 : bf x y with
  | true => rw [h1] at hr; exact If.yes (hr h3 (x12.trans x3))
  | false =>
    rw [h1] at hr
    refine If.no (v_it (x := y) (v2.ext x3) (v_it (x := x) (v1'.ext x3) ?_))
    refine before_spec (x := y) (y := x) fun h4 x4 => ⟨_, rfl, ?_⟩
    cases h2 : bf y x with
    | true => rw [h2] at hr; exact If.yes (hr h4 ((x12.trans x3).trans x4))
    | false => rw [h2] at hr; exact If.no (hr h4 ((x12.trans x3).trans x4))

/-- What two rows of the same blocks have to do with each other. -/
def Fresh (h : Heap) (s : Sl) : Prop := ∀ l, s.a = some l → h.size ≤ l.b

theorem clone_spec {s : Sl} (e : Elems 67 h s (its L)) (hl : L.length < 1000)
    (hr : ∀ h' s', Own 105 67 h' s' (its L) → Ext h h' → Fresh h s' → R (TV.slice s').val h') : CallsH Try.prog 100 (TVs.vals [.slice s]) h R := by
  apply slices_Clone___pool_Item_pool_Item__calls
  unfold slices_Clone___pool_Item_pool_Item__vc
  have hel := e.len
  rw [List.length_map] at hel
  refine If.split (fun hn => ?_) (fun hn => ?_)
  · have : s.a = none := by simpa using hn
    have hL : its L = [] := e.nil this
    have := hr h Sl.nil (by rw [hL]; exact Own.nil _ 67 h) (Ext.refl _) (fun l hl => by cases hl)
    exact this
  · have o := Own.new (T := 105) (sz := 67) h [] (fun t ht => by cases ht)
    have e1 := Ext.push h (row (TVs.cells []) 105)
    refine appendN (C := ctx) (T := 105) (t := Sl.mk (some (Vc.Loc.mk h.size 0)) 0 0) size32 zsize32 (by rw [bytes32]; decide) (by decide) (by rw [bytes32]; simp only; omega) o (e.ext e1) (its_size L) (its_plain L) fun s' h1 o1 x1 _ b1 => ?_
    refine hr h1 s' (by simpa using o1) (e1.trans (x1 rfl)) fun l hl => ?_
    rcases b1 l hl with ⟨l', h9, h10⟩ | h9
    · cases h9
      have : h.size = l.b := h10
      omega
    · have := e1.size
      omega

theorem aE32 : ∀ w, (isAgg (Try.sortIts_ren.t 24)).run Try.prog w = .ok true w := fun w => by
  have hu : ∃ fs, Try.prog.underlying 105 = some (.struct fs) := by
    cases hd : (ctx.ti 105).d with
    | none => have : (ctx.ti 105).d.isSome = true := by kernel_rfl
              rw [hd] at this; cases this
    | some d =>
      have hd' := ctx_ok.d hd
      have hs : (match (ctx.ti 105).d with | some (.struct _) => true | _ => false) = true := by kernel_rfl
      rw [hd] at hs
      cases d <;> first | (exact ⟨_, hd'⟩) | cases hs
  obtain ⟨fs, hu⟩ := hu
  have := isAgg_run (P := Try.prog) (w := w) hu
  exact this

theorem zE32 : ∀ w, (sizeOf (Try.sortIts_ren.t 24)).run Try.prog w = .ok 67 w := fun w => by
  have := sizeRun (C := ctx) ctx_ok (t := 105) (by kernel_rfl) w
  rw [size32] at this
  exact this

theorem sortIts_spec {s : Sl} (o : Own 105 67 h s (its L)) (hl : L.length < 1000)
    (hr : ∀ h' L', L'.Perm L → L'.Pairwise (fun x y => bf y x = false) → Own 105 67 h' s (its L') → Only (In s) h h' → R (TV.tup []).val h') : CallsH Try.prog 101 (TVs.vals [.slice s, .fn (.func 102) [] []]) h R := by
  refine sort_own (tv := It.tv) (k := 67) (P := Try.prog) Try.sortIts (T := 105) aE32 zE32 It.size It.plain swo (g := 102) (cb := #[]) (ctx_ok.entP (by kernel_rfl)) (fun h' x y => ?_) o (by omega) (fun h' L' hp hs o' f => ?_)
  · exact cmp_spec (x := x) (y := y) fun h'' x'' => ⟨rfl, x''⟩
  · refine hr h' L' hp (hs.imp fun {x y} hx => ?_) o' f
    rw [lt_cmp] at hx
    exact hx

/-! ### The pool as a row in order -/

/-- A pool in memory: S are its items, in order. -/
structure PL (h : Heap) (b : Nat) (A : Sl) (S : List It) (most quota : Int) : Prop where
  srt : Srt S
  names : (S.map It.root).Nodup
  few : S.length < 800
  ex : ∃ L, HL h b A L most quota ∧ HeapFrom 0 L ∧ L.Perm S

def Mine (b : Nat) (A : Sl) (i : Nat) : Prop := i = b ∨ In A i

/-- What a pool's function leaves alone: all but the pool's own blocks. -/
structure Grown (b : Nat) (A : Sl) (h : Heap) (A' : Sl) (h' : Heap) : Prop where
  only : Only (Mine b A) h h'
  new : ∀ i, Mine b A' i → Mine b A i ∨ h.size ≤ i

theorem Grown.refl : Grown b A h A h := ⟨Only.refl _ _, fun _ hi => .inl hi⟩
theorem Grown.of_ext {h' : Heap} (x : Ext h h') : Grown b A h A h' := ⟨Only.of_ext x, fun _ hi => .inl hi⟩
theorem Grown.trans {A' A2 : Sl} {h' h2 : Heap} (g : Grown b A h A' h') (k : Grown b A' h' A2 h2) : Grown b A h A2 h2 := by
  have s1 := g.only.size
  refine ⟨⟨Nat.le_trans s1 k.only.size, fun i hi hn => ?_⟩, fun i hi => ?_⟩
  · rw [k.only.same i (Nat.lt_of_lt_of_le hi s1) (fun hx => ?_), g.only.same i hi hn]
    rcases g.new i hx with h9 | h9
    · exact hn h9
    · omega
  · rcases k.new i hi with h9 | h9
    · exact g.new i h9
    · exact .inr (Nat.le_trans s1 h9)

variable {S : List It}

theorem PL.ext {h' : Heap} (p : PL h b A S most quota) (x : Ext h h') : PL h' b A S most quota := by
  obtain ⟨h1, h2, h3, L, h4, h5⟩ := p
  exact ⟨h1, h2, h3, L, h4.ext x, h5⟩
theorem PL.only {h' : Heap} {Q : Nat → Prop} (p : PL h b A S most quota) (o : Only Q h h') (hq : ∀ i, Mine b A i → ¬ Q i) : PL h' b A S most quota := by
  obtain ⟨h1, h2, h3, L, h4, h5⟩ := p
  exact ⟨h1, h2, h3, L, h4.only o (hq b (.inl rfl)) (fun i hi => hq i (.inr hi)), h5⟩
theorem PL.lt (p : PL h b A S most quota) {i : Nat} (hi : Mine b A i) : i < h.size := by
  obtain ⟨_, _, _, L, h4, _⟩ := p
  rcases hi with rfl | ⟨l, hl, rfl⟩
  · exact h4.var.lt
  · exact h4.own.lt l hl

theorem nodup_perm {L S : List It} (hp : L.Perm S) (hn : (S.map It.root).Nodup) : (L.map It.root).Nodup := (hp.map _).nodup_iff.2 hn

/-- In order, of items each of another name. -/
theorem srt_of {L : List It} (hp : L.Pairwise fun x y => bf y x = false) (hn : (L.map It.root).Nodup) : Srt L := by
  unfold Srt
  have hn' : L.Pairwise fun x y => x.root ≠ y.root := List.pairwise_map.1 hn
  refine (hp.and hn').imp fun {x y} hx => ?_
  rcases bf_total (x := x) (y := y) (fun e => hx.2 e.2) with h1 | h1
  · exact h1
  · rw [hx.1] at h1; cases h1

theorem all_spec (p : PL h b A S most quota) (hr : ∀ h' s', Own 105 67 h' s' (its S) → Ext h h' → Fresh h s' → R (TV.slice s').val h') : CallsH Try.prog 68 (TVs.vals [.ptr (some ⟨b, 0⟩)]) h R := by
  apply pool_Pool_All_calls
  unfold pool_Pool_All_vc
  obtain ⟨hs, hn, hf, L, H, hh, hp⟩ := p
  refine If.no ⟨A, H.var.at1 rfl, ?_⟩
  have hl := hp.length_eq
  refine clone_spec H.own.elems H.few fun h1 s1 o1 x1 f1 => ⟨s1, rfl, ?_⟩
  refine sortIts_spec o1 H.few fun h2 L' hp' hs' o2 f2 => ⟨rfl, ?_⟩
  have hpp := hp'.trans hp
  have : L' = S := srt_unique (srt_of hs' (nodup_perm hpp hn)) hs hpp
  subst this
  refine hr h2 s1 o2 (Only.cut x1 f2 fun i ⟨l, hl, e⟩ => ?_) f1
  have := f1 l hl
  omega

theorem all_nil (hr : R (TV.slice Sl.nil).val h) : CallsH Try.prog 68 (TVs.vals [.ptr none]) h R := by
  apply pool_Pool_All_calls
  unfold pool_Pool_All_vc
  exact If.yes hr

end
end Go.Proofs.Ytldocdpdjdekiaa.Pool
end

section
/- What a pool's functions do: Has, Of, Len, New, Put. -/
namespace Go.Proofs.Ytldocdpdjdekiaa.Pool
open Go Go.Vc
section
variable {R : Value → Heap → Prop} {h : Heap} {b : Nat} {A : Sl} {L S : List It} {most quota : Int}

theorem nn_some {α : Type} {K : α → Prop} {x : α} (h : K x) : Nn (some x) K := h

/-! ### What is told of a row in order -/

def has (r : Bs 32) (S : List It) : Bool := S.any fun x => decide (x.root = r)
def cnt (k : Int) (S : List It) : Nat := S.countP fun x => decide (x.peer = k)

/-- What Put answers, who gives way, and the items behind it. -/
def putS (most quota : Int) (x : It) (S : List It) : Int × It × List It :=
  if has x.root S = true then (9, It.zero, S)
  else if quota ≤ (cnt x.peer S : Int) then (11, It.zero, S)
  else if (S.length : Int) < most then (1, It.zero, insIt x S)
  else match S.getLast? with
    | none => (12, It.zero, S)
    | some y => if bf x y = true then (2, y, insIt x S.dropLast) else (12, It.zero, S)

/-! ### A function value that tells of an item -/

structure Tells (h : Heap) (f : One) (pred : It → Bool) : Prop where
  ex : ∃ g first cap, f.v = .func (.func g) first cap ∧ EntP Try.prog g ∧
    ∀ h' x (R' : Value → Heap → Prop), Ext h h' → (∀ h'', Ext h' h'' → R' (TV.bool (pred x)).val h'') → CallsH Try.prog g (List.append (List.append first.toList (TVs.vals [x.tv])) cap.toList) h' R'

theorem Tells.ext {h' : Heap} {f : One} {pred : It → Bool} (t : Tells h f pred) (x : Ext h h') : Tells h' f pred := by
  obtain ⟨g, first, cap, h1, h2, h3⟩ := t.ex
  exact ⟨g, first, cap, h1, h2, fun h'' y R' x' => h3 h'' y R' (x.trans x')⟩

theorem index_spec {s : Sl} {f : One} {pred : It → Bool} (e : Elems 67 h s (its L)) (hl : L.length < 1000) (t : Tells h f pred)
    (hr : ∀ h' n, Ext h h' → decide (0 ≤ n) = L.any pred → R (TV.int .i64 n).val h') : CallsH Try.prog 133 (TVs.vals [.slice s, .one f]) h R := by
  apply slices_IndexFunc_pool_last_pool_Item__calls
  unfold slices_IndexFunc_pool_last_pool_Item__vc
  have hel := e.len
  rw [List.length_map] at hel
  refine ⟨fun s hh => 0 ≤ s.2 ∧ s.2 ≤ L.length ∧ Ext h hh ∧ (L.take s.2.toNat).any pred = false, fun s _ => ((L.length : Int) - s.2).toNat, ⟨Int.le_refl _, Int.natCast_nonneg _, Ext.refl _, rfl⟩, ?_⟩
  rintro ⟨x0, i⟩ hh ⟨i0, i1, x, ha⟩
  simp only at i0 i1 ha ⊢
  refine If.dec.2 ⟨fun hi => ?_, fun hi => ?_⟩
  · refine its_at (e.ext x) i0 (by omega) fun l y _ hy => ?_
    obtain ⟨g, first, cap, h1, h2, h3⟩ := t.ex
    refine ⟨g, first, cap, h1, h2, h3 hh y _ x fun h'' x'' => ⟨_, rfl, ?_⟩⟩
    have hi' : (i + 1).toNat = i.toNat + 1 := by omega
    cases hp : pred y with
    | true =>
      refine If.yes (hr _ _ (x.trans x'') ?_)
      rw [decide_eq_true i0]
      exact (List.any_eq_true.2 ⟨y, List.mem_of_getElem? hy, hp⟩).symm
    | false =>
      refine If.no ?_
      rw [wrap_i64 (n := i + 1) (by omega) (by omega)]
      refine ⟨⟨by omega, by omega, x.trans x'', ?_⟩, by first | omega | (dsimp only; omega)⟩
      rw [hi', List.take_add_one, hy, List.any_append, ha]
      simp [hp]
  · have : i.toNat = L.length := by omega
    rw [this, List.take_length] at ha
    refine hr _ _ x ?_
    rw [ha]
    rfl

theorem contains_spec {s : Sl} {f : One} {pred : It → Bool} (e : Elems 67 h s (its L)) (hl : L.length < 1000) (t : Tells h f pred)
    (hr : ∀ h', Ext h h' → R (TV.bool (L.any pred)).val h') : CallsH Try.prog 114 (TVs.vals [.slice s, .one f]) h R := by
  apply slices_ContainsFunc_pool_last_pool_Item__calls
  unfold slices_ContainsFunc_pool_last_pool_Item__vc
  refine index_spec e hl t fun h' n x hn => ⟨n, rfl, ?_⟩
  rw [hn]
  exact hr h' x

theorem has1_spec {x : It} {T : TypeId} {c : Nat} {r : Bs 32} (v : Var T h c (.bytes 32 r)) (hr : ∀ h', Ext h h' → R (TV.bool (decide (x.root = r))).val h') : CallsH Try.prog 115 (TVs.vals [x.tv, .ptr (some ⟨c, 0⟩)]) h R := by
  apply pool_Pool_Has_1_calls x.slot x.root x.peer x.fr x.text
  unfold pool_Pool_Has_1_vc
  refine newTV_in fun h1 v1 x1 s1 => ?_
  refine ⟨x.root, v_root (x := x) v1, r, (v.ext x1).bytes, ?_⟩
  have : decide (x.root.1 = r.1) = decide (x.root = r) := decide_eq_decide.2 ⟨fun e => Bs.ext' e, fun e => by rw [e]⟩
  rw [this]
  exact hr h1 x1

theorem has_spec (p : PL h b A S most quota) {r : Bs 32} (hr : ∀ h', Ext h h' → R (TV.bool (has r S)).val h') : CallsH Try.prog 86 (TVs.vals [.ptr (some ⟨b, 0⟩), .bytes 32 r]) h R := by
  apply pool_Pool_Has_calls
  unfold pool_Pool_Has_vc
  refine newTV_in fun h1 v1 x1 s1 => ?_
  obtain ⟨hs, hn, hf, L, H, hh, hp⟩ := p.ext x1
  refine If.yes ⟨A, H.var.at1 rfl, ?_⟩
  refine contains_spec (f := ⟨(TV.fn (.func 115) [] [.ptr (some ⟨h.size, 0⟩)]).val, rfl⟩) (pred := fun x => decide (x.root = r)) H.own.elems H.few ⟨115, #[], #[(TV.ptr (some ⟨h.size, 0⟩)).val], rfl, ctx_ok.entP (by kernel_rfl), fun h' x R' x' hr' => ?_⟩ fun h' x' => ⟨_, rfl, ?_⟩
  · exact has1_spec (x := x) (v1.ext x') hr'
  · have : L.any (fun x => decide (x.root = r)) = has r S := by
      unfold has
      cases h9 : S.any fun x => decide (x.root = r) with
      | true =>
        obtain ⟨x, hx, hx'⟩ := List.any_eq_true.1 h9
        exact List.any_eq_true.2 ⟨x, hp.mem_iff.2 hx, hx'⟩
      | false =>
        rw [List.any_eq_false] at h9 ⊢
        exact fun x hx => h9 x (hp.mem_iff.1 hx)
    rw [this]
    exact hr h' (x1.trans x')

theorem has_nil {r : Bs 32} (hr : ∀ h', Ext h h' → R (TV.bool false).val h') : CallsH Try.prog 86 (TVs.vals [.ptr none, .bytes 32 r]) h R := by
  apply pool_Pool_Has_calls
  unfold pool_Pool_Has_vc
  refine newTV_in fun h1 v1 x1 s1 => ?_
  exact If.no (hr h1 x1)

theorem lenP_spec (p : PL h b A S most quota) (hr : R (TV.int .i64 (S.length : Int)).val h) : CallsH Try.prog 62 (TVs.vals [.ptr (some ⟨b, 0⟩)]) h R := by
  apply pool_Pool_Len_calls
  unfold pool_Pool_Len_vc
  obtain ⟨hs, hn, hf, L, H, hh, hp⟩ := p
  refine If.no ⟨A, H.var.at1 rfl, len_spec ⟨_, rfl, ?_⟩⟩
  rw [← H.len, hp.length_eq]
  exact hr

theorem lenP_nil (hr : R (TV.int .i64 0).val h) : CallsH Try.prog 62 (TVs.vals [.ptr none]) h R := by
  apply pool_Pool_Len_calls
  exact If.yes hr

theorem cnt_take {i : Nat} {x : It} (k : Int) (hx : S[i]? = some x) : cnt k (S.take (i + 1)) = cnt k (S.take i) + if x.peer = k then 1 else 0 := by
  unfold cnt
  rw [List.take_add_one, hx, List.countP_append]
  simp [List.countP_cons]

theorem of_spec (p : PL h b A S most quota) {k : Int} (hr : ∀ h', Ext h h' → R (TV.int .i64 (cnt k S : Int)).val h') : CallsH Try.prog 87 (TVs.vals [.ptr (some ⟨b, 0⟩), .int .i64 k]) h R := by
  apply pool_Pool_Of_calls
  unfold pool_Pool_Of_vc
  have few := p.few
  refine all_spec p fun h1 s1 o1 x1 _ => ⟨s1, rfl, ?_⟩
  have hel := o1.len
  rw [List.length_map] at hel
  refine ⟨fun s hh => 0 ≤ s.2 ∧ s.2 ≤ S.length ∧ Ext h1 hh ∧ s.1 = (cnt k (S.take s.2.toNat) : Int), fun s _ => ((S.length : Int) - s.2).toNat, ⟨Int.le_refl _, Int.natCast_nonneg _, Ext.refl _, rfl⟩, ?_⟩
  rintro ⟨n, i⟩ hh ⟨i0, i1, x, hn⟩
  simp only at i0 i1 hn ⊢
  refine If.dec.2 ⟨fun hi => ?_, fun hi => ?_⟩
  · refine its_at (o1.elems.ext x) i0 (by omega) fun l y _ hy => ?_
    refine newTV_in fun h2 v2 x2 s2 => ?_
    refine put_in v2 (t := y.tv) rfl fun h3 v3 o3 s3 => ?_
    have x23 : Ext hh h3 := Only.cut x2 o3 fun j hj => by omega
    refine ⟨y.peer, v_peer v3, ?_⟩
    have hi' : (i + 1).toNat = i.toNat + 1 := by omega
    have hc := cnt_take k hy
    have hcl : cnt k (S.take i.toNat) ≤ S.length := by
      unfold cnt
      exact Nat.le_trans List.countP_le_length (by rw [List.length_take]; omega)
    rw [wrap_i64 (n := i + 1) (by omega) (by omega)]
    refine If.dec.2 ⟨fun he => ?_, fun he => ?_⟩
    · rw [if_pos he] at hc
      rw [wrap_i64 (n := n + 1) (by omega) (by omega)]
      exact ⟨⟨by omega, by omega, x.trans x23, by rw [hi', hc]; first | omega | (dsimp only; omega)⟩, by first | omega | (dsimp only; omega)⟩
    · rw [if_neg he] at hc
      exact ⟨⟨by omega, by omega, x.trans x23, by rw [hi', hc]; first | omega | (dsimp only; omega)⟩, by first | omega | (dsimp only; omega)⟩
  · have : i.toNat = S.length := by omega
    rw [this, List.take_length] at hn
    rw [hn]
    exact hr _ (x1.trans x)

theorem of_nil {k : Int} (hr : ∀ h', Ext h h' → R (TV.int .i64 0).val h') : CallsH Try.prog 87 (TVs.vals [.ptr none, .int .i64 k]) h R := by
  apply pool_Pool_Of_calls
  unfold pool_Pool_Of_vc
  refine all_nil ⟨_, rfl, ?_⟩
  refine ⟨fun s hh => s = (0, 0) ∧ hh = h, fun _ _ => 0, ⟨rfl, rfl⟩, ?_⟩
  rintro s hh ⟨rfl, rfl⟩
  exact If.no (hr _ (Ext.refl _))

/-- New: a pool without items. -/
theorem new_spec {q : Int} (hr0 : ¬ (1 ≤ most ∧ most ≤ 64 ∧ 1 ≤ q ∧ q ≤ 64) → R (TV.ptr none).val h)
    (hr1 : (1 ≤ most ∧ most ≤ 64 ∧ 1 ≤ q ∧ q ≤ 64) → ∀ h', PL h' h.size Sl.nil [] most q → Ext h h' → h'.size = h.size + 1 → R (TV.ptr (some ⟨h.size, 0⟩)).val h') : CallsH Try.prog 52 (TVs.vals [.int .i64 most, .int .i64 q]) h R := by
  apply pool_New_calls
  unfold pool_New_vc
  refine If.dec.2 ⟨fun h1 => hr0 (by omega), fun h1 => If.dec.2 ⟨fun h2 => hr0 (by omega), fun h2 => If.dec.2 ⟨fun h3 => hr0 (by omega), fun h3 => If.dec.2 ⟨fun h4 => hr0 (by omega), fun h4 => ?_⟩⟩⟩⟩
  refine newTV_in fun h1 v1 x1 s1 => hr1 (by omega) h1 ⟨List.Pairwise.nil, List.nodup_nil, by decide, [], ⟨v1, Own.nil _ 67 h1, fun ⟨l, hl, _⟩ => (by cases hl), by decide⟩, fun k _ hk => (by simp at hk), List.Perm.refl _⟩ x1 s1

/-! ### Put -/

theorem has_false {r : Bs 32} (h : has r S = false) : ∀ y ∈ S, r ≠ y.root := fun y hy e => by
  have := List.any_eq_false.1 h y hy
  simp [e] at this

theorem names_ins {x : It} (hn : (S.map It.root).Nodup) (h : has x.root S = false) : ((insIt x S).map It.root).Nodup := by
  have hp := (insIt_perm x S).map It.root
  rw [hp.nodup_iff, List.map_cons, List.nodup_cons]
  refine ⟨fun hm => ?_, hn⟩
  obtain ⟨y, hy, e⟩ := List.mem_map.1 hm
  exact has_false h y hy e.symm

theorem dropLast_facts {y : It} (hs : Srt S) (hn : (S.map It.root).Nodup) (hl : S.getLast? = some y) {x : It} (hx : has x.root S = false) :
    Srt S.dropLast ∧ (S.dropLast.map It.root).Nodup ∧ has x.root S.dropLast = false ∧ S.Perm (y :: S.dropLast) ∧ S.dropLast.length + 1 = S.length := by
  have hne : S ≠ [] := fun e => by rw [e] at hl; cases hl
  have hd := List.dropLast_concat_getLast hne
  have hy : S.getLast hne = y := by rw [List.getLast?_eq_some_getLast hne] at hl; exact Option.some.inj hl
  rw [hy] at hd
  have hsub : S.dropLast.Sublist S := List.dropLast_sublist S
  refine ⟨hs.sublist hsub, hn.sublist (hsub.map _), ?_, ?_, ?_⟩
  · refine List.any_eq_false.2 fun z hz => ?_
    have := has_false hx z (hsub.mem hz)
    simpa using fun e => this e.symm
  · have hp := List.perm_append_comm (l₁ := S.dropLast) (l₂ := [y])
    rw [hd] at hp
    exact hp
  · have := congrArg List.length hd
    simpa using this

theorem down_set {x : It} (hh : HeapFrom 0 L) : DownInv 0 (L.set 0 x) 0 := by
  have g : ∀ k, 0 < k → hget (L.set 0 x) k = hget L k := fun k hk => by
    unfold hget
    rw [List.getD_eq_getElem?_getD, List.getD_eq_getElem?_getD, List.getElem?_set_ne (by omega)]
  refine ⟨fun k hk hl hlo hne => ?_, fun k _ _ _ h0 => absurd h0 (by decide)⟩
  rw [List.length_set] at hl
  rw [g k hk, g _ (by omega)]
  exact hh k hk hl (Nat.zero_le _)

theorem set_perm {x y : It} {S' : List It} (h0 : 0 < L.length) (hy : hget L 0 = y) (hp : L.Perm (y :: S')) : (L.set 0 x).Perm (x :: S') := by
  cases L with
  | nil => simp at h0
  | cons z zs =>
    have : z = y := hy
    subst this
    exact (List.Perm.cons_inv hp).cons x

theorem put_spec (p : PL h b A S most quota) (x : It) (hm : 1 ≤ most) (hmm : most ≤ 64) (hlen : (S.length : Int) ≤ most)
    (hr : ∀ h' A', PL h' b A' (putS most quota x S).2.2 most quota → Grown b A h A' h' → R (TV.tup [.int .i64 (putS most quota x S).1, (putS most quota x S).2.1.tv]).val h') :
    CallsH Try.prog 54 (TVs.vals [.ptr (some ⟨b, 0⟩), x.tv]) h R := by
  apply pool_Pool_Put_calls (some ⟨b, 0⟩) x.slot x.root x.peer x.fr x.text
  unfold pool_Pool_Put_vc
  refine newTV_in fun h1 v1 x1 s1 => newTV_in fun h2 v2 x2 s2 => ?_
  have v1' := v1.ext x2
  have x12 := x1.trans x2
  have p2 := p.ext x12
  have hlt : ∀ i, Mine b A i → i < h.size := fun i hi => p.lt hi
  -- an answer without anything that gives way
  have plainR : ∀ (h3 : Heap) (A' : Sl) (v : Int) (S' : List It), Var 105 h3 h1.size It.zero.tv → PL h3 b A' S' most quota → Grown b A h A' h3 → (∀ i, Mine b A' i → i ≠ h1.size) → putS most quota x S = (v, It.zero, S') →
      wok h3 h1.size 0 67 ∧ Bind (TV.put h3 h1.size 0 It.zero.tv) fun (h : Heap) =>
        ∃ (n : Int), ∃ (c : Bs 32), ∃ (n1 : Int), ∃ (c1 : Bs 32), ∃ (s : List UInt8), (at1 h h1.size 0 (.int .i64 n) ∧ atBytes h h1.size 1 32 c ∧ at1 h h1.size 33 (.int .i64 n1) ∧ atBytes h h1.size 34 32 c1 ∧ at1 h h1.size 66 (.string (ByteArray.mk (List.toArray s)))) ∧
          R (TV.tup [.int .i64 v, .agg [.int .i64 n, .bytes 32 c, .int .i64 n1, .bytes 32 c1, .str s]]).val h := by
    intro h3 A' v S' v3 p3 g3 hne he
    refine put_in v3 (t := It.zero.tv) rfl fun h4 v4 o4 s4 => v_it (x := It.zero) v4 ?_
    have := hr h4 A' (by rw [he]; exact p3.only o4 hne) ⟨⟨Nat.le_trans g3.only.size o4.size, fun i hi hn => ?_⟩, g3.new⟩
    · rw [he] at this
      exact this
    · rw [o4.same i (by have := g3.only.size; omega) (by omega), g3.only.same i hi hn]
  have ne2 : ∀ i, Mine b A i → i ≠ h1.size := fun i hi => by have := hlt i hi; omega
  refine If.no ⟨x.root, v_root (x := x) v1', ?_⟩
  refine has_spec p2 fun h3 x3 => ⟨_, rfl, ?_⟩
  have x13 := x12.trans x3
  have p3 := p2.ext x3
  cases hhas : has x.root S with
  | true =>
    refine If.yes (plainR h3 A 9 S (v2.ext x3) p3 (.of_ext x13) ne2 ?_)
    unfold putS
    rw [if_pos hhas]
  | false =>
    obtain ⟨_, _, _, L3, H3, _, _⟩ := p3
    refine If.no ⟨x.peer, v_peer (x := x) (v1'.ext x3), quota, H3.var.at1 rfl, ?_⟩
    have p3 := p2.ext x3
    refine of_spec p3 fun h4 x4 => ⟨_, rfl, x4, ?_⟩
    have x14 := x13.trans x4
    have p4 := p3.ext x4
    refine If.dec.2 ⟨fun hq => ?_, fun hq => ?_⟩
    · refine plainR h4 A 11 S ((v2.ext x3).ext x4) p4 (.of_ext x14) ne2 ?_
      unfold putS
      rw [if_neg (by rw [hhas]; decide), if_pos hq]
    · obtain ⟨_, _, _, L4, H4, hh4, hp4⟩ := p4
      refine ⟨most, H4.var.at1 rfl, ?_⟩
      have p4 := p3.ext x4
      refine lenP_spec p4 ⟨_, rfl, Ext.refl _, ?_⟩
      have v1x : Var 105 h4 h.size x.tv := (v1'.ext x3).ext x4
      have v2x := (v2.ext x3).ext x4
      have hl4 := hp4.length_eq
      refine If.dec.2 ⟨fun hroom => ?_, fun hfull => ?_⟩
      · refine v_it (x := x) v1x ?_
        refine hpush_spec H4 hh4 (by have := p.few; omega) (v := ⟨.iface 172 (TV.ptr (some ⟨b, 0⟩)).val, rfl⟩) rfl x (u := ⟨.iface 105 x.tv.val, rfl⟩) rfl fun h5 A5 L5 H5 hp5 hh5 o5 n5 => ⟨rfl, ?_⟩
        have hpS : L5.Perm (insIt x S) := (hp5.trans ((hp4.append_right [x]).trans (List.perm_append_comm.trans (List.Perm.refl _)))).trans (insIt_perm x S).symm
        have p5 : PL h5 b A5 (insIt x S) most quota := ⟨insIt_srt p.srt (has_false hhas), names_ins p.names hhas, by rw [(insIt_perm x S).length_eq, List.length_cons]; have := p.few; omega, L5, H5, hh5, hpS⟩
        have hs4 := x14.size
        have new5 : ∀ i, Mine b A5 i → Mine b A i ∨ h4.size ≤ i := fun i hi => by
          rcases hi with e | hi
          · exact .inl (.inl e)
          · rcases n5 i hi with h9 | h9
            · exact .inl (.inr h9)
            · exact .inr h9
        have s2' := x3.size
        have s3' := x4.size
        refine plainR h5 A5 1 (insIt x S) (v2x.only o5 (fun hx => ne2 h1.size hx rfl)) p5 (Grown.trans (.of_ext x14) ⟨o5, new5⟩) (fun i hi => ?_) ?_
        · rcases new5 i hi with h9 | h9
          · exact ne2 i h9
          · omega
        · unfold putS
          rw [if_neg (by rw [hhas]; decide), if_neg hq, if_pos hroom]
      · have hSlen : (S.length : Int) = most := by omega
        have hL0 : 0 < L4.length := by omega
        have hlast := heap_last hh4 hp4 p.srt hL0
        have hA := H4.len
        refine v_it (x := x) v1x ⟨A, H4.var.at1 rfl, ?_⟩
        refine its_at (i := 0) H4.own.elems (by decide) (by omega) fun l y _ hy => ?_
        have ey : y = hget L4 0 := hget_eq hy
        refine before_spec (x := x) (y := y) fun h5 x5 => ⟨_, rfl, ?_⟩
        have x15 := x14.trans x5
        have p5 := p4.ext x5
        have H5 := H4.ext x5
        have hput : putS most quota x S = if bf x y = true then (2, y, insIt x S.dropLast) else (12, It.zero, S) := by
          unfold putS
          rw [if_neg (by rw [hhas]; decide), if_neg hq, if_neg hfull, hlast, ← ey]
        cases hb : bf x y with
        | false =>
          rw [hb] at hput
          exact If.yes (plainR h5 A 12 S (v2x.ext x5) p5 (.of_ext x15) ne2 hput)
        | true =>
          rw [hb, if_pos rfl] at hput
          refine If.no ⟨A, H5.var.at1 rfl, ?_⟩
          refine its_at (i := 0) H5.own.elems (by decide) (by omega) fun l2 y2 _ hy2 => ?_
          have ey2 : y2 = y := (hget_eq hy2).trans ey.symm
          subst ey2
          refine newTV_in fun h6 v6 x6 s6 => ?_
          refine put_in v6 (t := y2.tv) rfl fun h7 v7 o7 s7 => ?_
          have x57 : Ext h5 h7 := Only.cut x6 o7 fun j hj => by omega
          have H7 := H5.ext x57
          refine ⟨A, H7.var.at1 rfl, ?_⟩
          have v1y : Var 105 h7 h.size x.tv := (v1x.ext x5).ext x57
          refine v_it (x := x) v1y ?_
          refine H7.own.put_in (i := 0) (t := x.tv) (by decide) (by simp; omega) rfl rfl fun h8 o8 f8 s8 => ?_
          have H8 : HL h8 b A (L4.set 0 x) most quota := ⟨H7.var.only f8 H7.apart, by rw [its_set]; exact o8, H7.apart, by rw [List.length_set]; exact H7.few⟩
          refine nn_some ?_
          refine hfix_spec H8 (by rw [List.length_set]; exact hL0) (down_set hh4) (v := ⟨.iface 172 (TV.ptr (some ⟨b, 0⟩)).val, rfl⟩) rfl fun h9 L9 H9 hp9 hh9 o9 => ⟨rfl, ?_⟩
          have hlA : ∀ i, In A i → i < h.size := fun i hi => hlt i (.inr hi)
          have s15 := x15.size
          have s57 := x57.size
          have s24 := x3.size
          have s44 := x4.size
          have s55 := x5.size
          have v9 : Var 105 h9 h5.size y2.tv := (v7.only f8 (fun hx => by have := hlA _ hx; omega)).only o9 (fun hx => by have := hlA _ hx; omega)
          have v29 : Var 105 h9 h1.size It.zero.tv := (((v2x.ext x5).ext x57).only f8 (fun hx => by have := hlA _ hx; omega)).only o9 (fun hx => by have := hlA _ hx; omega)
          refine v_it (x := y2) v9 ?_
          refine put_in v29 (t := y2.tv) rfl fun h10 v10 o10 s10 => v_it (x := y2) v10 ?_
          have hlast' : S.getLast? = some y2 := by rw [hlast, ← ey]
          obtain ⟨d1, d2, d3, d4, d5⟩ := dropLast_facts p.srt p.names hlast' hhas
          have hpS : L9.Perm (insIt x S.dropLast) := (hp9.trans (set_perm hL0 ey.symm (hp4.trans d4))).trans (insIt_perm x S.dropLast).symm
          have p9 : PL h9 b A (insIt x S.dropLast) most quota := ⟨insIt_srt d1 (has_false d3), names_ins d2 d3, by rw [(insIt_perm x _).length_eq, List.length_cons]; have := p.few; omega, L9, H9, hh9, hpS⟩
          have g9 : Grown b A h A h9 := Grown.trans (.of_ext (x15.trans x57)) ⟨(f8.trans o9).mono fun i hi => .inr hi, fun i hi => .inl hi⟩
          have := hr h10 A (by rw [hput]; exact p9.only o10 ne2) ⟨⟨Nat.le_trans g9.only.size o10.size, fun i hi hn => ?_⟩, g9.new⟩
          · rw [hput] at this
            exact this
          · rw [o10.same i (by have := g9.only.size; omega) (by omega), g9.only.same i hi hn]

theorem put_nil (x : It) (hr : ∀ h', Ext h h' → R (TV.tup [.int .i64 12, It.zero.tv]).val h') : CallsH Try.prog 54 (TVs.vals [.ptr none, x.tv]) h R := by
  apply pool_Pool_Put_calls none x.slot x.root x.peer x.fr x.text
  unfold pool_Pool_Put_vc
  refine newTV_in fun h1 v1 x1 s1 => newTV_in fun h2 v2 x2 s2 => ?_
  refine If.yes (put_in (t0 := It.zero.tv) v2 (t := It.zero.tv) rfl fun h3 v3 o3 s3 => v_it (x := It.zero) v3 ?_)
  exact hr h3 (x1.trans (Only.cut x2 o3 fun i hi => by omega))

end
end Go.Proofs.Ytldocdpdjdekiaa.Pool
end

section
/- The conditions of functions, as the generator reckons them out, each with the proof that it is that. -/
namespace Go.Proofs.Ytldocdpdjdekiaa
open Go Go.Vc
set_option maxRecDepth 100000
set_option linter.unusedVariables false

def tollerref10_Name_vc (n : Int) (h : Heap) (R : Value → Heap → Prop) : Prop :=
 Vc.Bind (newTV h (TV.bytes (32 : Nat) (Bs.zero (32 : Nat))) (50 : Nat)) fun (h_1 : Array Obj) ↦
 Vc.Bind (newTV h_1 (TV.bytes (32 : Nat) (Bs.zero (32 : Nat))) (50 : Nat)) fun (h_2 : Array Obj) ↦
 (0 : Int) ≤ (0 : Int) ∧
 (0 : Int) < (↑(32 : Nat) : Int) ∧
 wok h_2 (Array.size h_1) ((0 : Nat) + Int.toNat (0 : Int) * (1 : Nat)) (1 : Nat) ∧
 Vc.Bind (TV.put h_2 (Array.size h_1) ((0 : Nat) + Int.toNat (0 : Int) * (1 : Nat)) (TV.int IntKind.u8 (IntKind.wrap IntKind.u8 n)))
 fun (h_3 : Array Obj) ↦
 (0 : Int) ≤ (31 : Int) ∧
 (31 : Int) < (↑(32 : Nat) : Int) ∧
 wok h_3 (Array.size h_1) ((0 : Nat) + Int.toNat (31 : Int) * (1 : Nat)) (1 : Nat) ∧
 Vc.Bind
 (TV.put h_3 (Array.size h_1) ((0 : Nat) + Int.toNat (31 : Int) * (1 : Nat))
 (TV.int IntKind.u8 (IntKind.wrap IntKind.u8 (IntKind.wrap IntKind.i64 ((7 : Int) * n)))))
 fun (h_4 : Array Obj) ↦
 ∃ (b : Bs (32 : Nat)),
 atBytes h_4 (Array.size h_1) (0 : Nat) (32 : Nat) b ∧
 wok h_4 (Array.size h) (0 : Nat) (32 : Nat) ∧
 Vc.Bind (TV.put h_4 (Array.size h) (0 : Nat) (TV.bytes (32 : Nat) b)) fun (h_5 : Array Obj) ↦
 ∃ (b : Bs (32 : Nat)), atBytes h_5 (Array.size h) (0 : Nat) (32 : Nat) b ∧ R (TV.val (TV.bytes (32 : Nat) b)) h_5

theorem tollerref10_Name_calls (n : Int) (h : Heap) (R : Value → Heap → Prop) (H : tollerref10_Name_vc n h R) : CallsH Try.prog 56 (TVs.vals [TV.int IntKind.i64 n]) h R :=
 vcFn_sound (C := ctx) ctx_ok (fn := Try.f56) Try.func56 ((by kernel_rfl : tollerref10_Name_vc n h R = vcFn ctx Try.f56 [TV.int IntKind.i64 n] h R) ▸ H)


def pool_Pool_Take_vc (p : Option Go.Vc.Loc) (is : Vc.One) (h : Heap) (R : Value → Heap → Prop) : Prop :=
 If (Option.isNone p) (R (TV.val (TV.slice Sl.nil)) h)
 (CallsH Try.prog (68 : Nat) (TVs.vals [TV.ptr p]) h fun (v : Value) (h : Heap) ↦
 ∃ (s : Sl),
 v = TV.val (TV.slice s) ∧
 Go.Vc.Loop (Sl.mk none (0 : Nat) (0 : Nat), Sl.mk none (0 : Nat) (0 : Nat), (0 : Int)) h
 fun (s_1 : Sl × Sl × Int) (h : Array Obj) (K : Sl × Sl × Int → Array Obj → Prop) ↦
 If (decide (s_1.snd.snd < (↑s.len : Int)))
 ((0 : Int) ≤ s_1.snd.snd ∧
 s_1.snd.snd < (↑s.len : Int) ∧
 Nn s.a fun (l : Go.Vc.Loc) ↦
 ∃ (n : Int),
 ∃ (b : Bs (32 : Nat)),
 ∃ (n_1 : Int),
 ∃ (b_1 : Bs (32 : Nat)),
 ∃ (s_2 : List UInt8),
 (at1 h l.b (l.o + Int.toNat s_1.snd.snd * (67 : Nat)) (Value.int IntKind.i64 n) ∧
 atBytes h l.b (l.o + Int.toNat s_1.snd.snd * (67 : Nat) + (1 : Nat)) (32 : Nat) b ∧
 at1 h l.b (l.o + Int.toNat s_1.snd.snd * (67 : Nat) + (1 : Nat) + (32 : Nat)) (Value.int IntKind.i64 n_1) ∧
 atBytes h l.b (l.o + Int.toNat s_1.snd.snd * (67 : Nat) + (1 : Nat) + (32 : Nat) + (1 : Nat)) (32 : Nat) b_1 ∧
 at1 h l.b (l.o + Int.toNat s_1.snd.snd * (67 : Nat) + (1 : Nat) + (32 : Nat) + (1 : Nat) + (32 : Nat))
 (Value.string (ByteArray.mk (List.toArray s_2)))) ∧
 Vc.Bind
 (newTV h
 (TV.agg
 [TV.int IntKind.i64 (0 : Int), TV.bytes (32 : Nat) (Bs.zero (32 : Nat)), TV.int IntKind.i64 (0 : Int),
 TV.bytes (32 : Nat) (Bs.zero (32 : Nat)), TV.str []])
 (105 : Nat))
 fun (h_1 : Array Obj) ↦
 wok h_1 (Array.size h) (0 : Nat) (67 : Nat) ∧
 Vc.Bind
 (TV.put h_1 (Array.size h) (0 : Nat)
 (TV.agg [TV.int IntKind.i64 n, TV.bytes (32 : Nat) b, TV.int IntKind.i64 n_1, TV.bytes (32 : Nat) b_1, TV.str s_2]))
 fun (h_2 : Array Obj) ↦
 ∃ (n : Int),
 ∃ (b : Bs (32 : Nat)),
 ∃ (n_2 : Int),
 ∃ (b_2 : Bs (32 : Nat)),
 ∃ (s_3 : List UInt8),
 (at1 h_2 (Array.size h) (0 : Nat) (Value.int IntKind.i64 n) ∧
 atBytes h_2 (Array.size h) (1 : Nat) (32 : Nat) b ∧
 at1 h_2 (Array.size h) (33 : Nat) (Value.int IntKind.i64 n_2) ∧
 atBytes h_2 (Array.size h) (34 : Nat) (32 : Nat) b_2 ∧
 at1 h_2 (Array.size h) (66 : Nat) (Value.string (ByteArray.mk (List.toArray s_3)))) ∧
 ∃ (g : Nat),
 ∃ (first : Array Value),
 ∃ (cap : Array Value),
 is.v = Value.func (Fn.func g) first cap ∧
 EntP Try.prog g ∧
 CallsH Try.prog g
 (first.toList ++
 TVs.vals
 [TV.agg
 [TV.int IntKind.i64 n, TV.bytes (32 : Nat) b, TV.int IntKind.i64 n_2,
 TV.bytes (32 : Nat) b_2, TV.str s_3]] ++
 cap.toList)
 h_2 fun (v : Value) (h_3 : Array Obj) ↦
 ∃ (b : Bool),
 v = TV.val (TV.bool b) ∧
 If b
 (∃ (n : Int),
 ∃ (b : Bs (32 : Nat)),
 ∃ (n_3 : Int),
 ∃ (b_3 : Bs (32 : Nat)),
 ∃ (s_4 : List UInt8),
 (at1 h_3 (Array.size h) (0 : Nat) (Value.int IntKind.i64 n) ∧
 atBytes h_3 (Array.size h) (1 : Nat) (32 : Nat) b ∧
 at1 h_3 (Array.size h) (33 : Nat) (Value.int IntKind.i64 n_3) ∧
 atBytes h_3 (Array.size h) (34 : Nat) (32 : Nat) b_3 ∧
 at1 h_3 (Array.size h) (66 : Nat)
 (Value.string (ByteArray.mk (List.toArray s_4)))) ∧
 ∃ (new : List Value),
 slAt
 (Array.push h_3
 (row
 (TVs.cells
 [TV.agg
 [TV.int IntKind.i64 n, TV.bytes (32 : Nat) b,
 TV.int IntKind.i64 n_3, TV.bytes (32 : Nat) b_3, TV.str s_4]])
 (105 : Nat)))
 (Sl.mk (some (Loc.mk (Array.size h_3) (0 : Nat))) (1 : Nat) (1 : Nat))
 (67 : Nat) new ∧
 (∀ (v : Value), v ∈ new → isOne v = true) ∧
 vcAppend Ytldocdpdjdekiaa.ctx (105 : Nat) s_1.fst (1 : Nat) new
 (Array.push h_3
 (row
 (TVs.cells
 [TV.agg
 [TV.int IntKind.i64 n, TV.bytes (32 : Nat) b,
 TV.int IntKind.i64 n_3, TV.bytes (32 : Nat) b_3, TV.str s_4]])
 (105 : Nat)))
 fun (s_5 : Sl) (h : Array Obj) ↦
 K (s_5, s_1.snd.fst, IntKind.wrap IntKind.i64 (s_1.snd.snd + (1 : Int)))
 h)
 (∃ (n : Int),
 ∃ (b : Bs (32 : Nat)),
 ∃ (n_3 : Int),
 ∃ (b_3 : Bs (32 : Nat)),
 ∃ (s_4 : List UInt8),
 (at1 h_3 (Array.size h) (0 : Nat) (Value.int IntKind.i64 n) ∧
 atBytes h_3 (Array.size h) (1 : Nat) (32 : Nat) b ∧
 at1 h_3 (Array.size h) (33 : Nat) (Value.int IntKind.i64 n_3) ∧
 atBytes h_3 (Array.size h) (34 : Nat) (32 : Nat) b_3 ∧
 at1 h_3 (Array.size h) (66 : Nat)
 (Value.string (ByteArray.mk (List.toArray s_4)))) ∧
 ∃ (new : List Value),
 slAt
 (Array.push h_3
 (row
 (TVs.cells
 [TV.agg
 [TV.int IntKind.i64 n, TV.bytes (32 : Nat) b,
 TV.int IntKind.i64 n_3, TV.bytes (32 : Nat) b_3, TV.str s_4]])
 (105 : Nat)))
 (Sl.mk (some (Loc.mk (Array.size h_3) (0 : Nat))) (1 : Nat) (1 : Nat))
 (67 : Nat) new ∧
 (∀ (v : Value), v ∈ new → isOne v = true) ∧
 vcAppend Ytldocdpdjdekiaa.ctx (105 : Nat) s_1.snd.fst (1 : Nat) new
 (Array.push h_3
 (row
 (TVs.cells
 [TV.agg
 [TV.int IntKind.i64 n, TV.bytes (32 : Nat) b,
 TV.int IntKind.i64 n_3, TV.bytes (32 : Nat) b_3, TV.str s_4]])
 (105 : Nat)))
 fun (s_5 : Sl) (h : Array Obj) ↦
 K (s_1.fst, s_5, IntKind.wrap IntKind.i64 (s_1.snd.snd + (1 : Int))) h))
 (Nn p fun (l : Go.Vc.Loc) ↦
 wok h l.b l.o (1 : Nat) ∧
 Vc.Bind (TV.put h l.b l.o (TV.slice s_1.snd.fst)) fun (h : Array Obj) ↦
 Nn p fun (l : Go.Vc.Loc) ↦
 CallsH Try.prog (95 : Nat)
 (TVs.vals
 [TV.one
 (Vc.One.mk (Value.iface (172 : Nat) (TV.val (TV.ptr (some (Loc.mk l.b l.o)))))
 (vcPack._proof_1 (172 : Nat) (TV.ptr (some (Loc.mk l.b l.o)))))])
 h fun (v : Value) (h : Array Obj) ↦ v = TV.val (TV.tup []) ∧ R (TV.val (TV.slice s_1.fst)) h))

theorem pool_Pool_Take_calls (p : Option Go.Vc.Loc) (is : Vc.One) (h : Heap) (R : Value → Heap → Prop) (H : pool_Pool_Take_vc p is h R) : CallsH Try.prog 60 (TVs.vals [TV.ptr p, TV.one is]) h R :=
 vcFn_sound (C := ctx) ctx_ok (fn := Try.f60) Try.func60 ((by kernel_rfl : pool_Pool_Take_vc p is h R = vcFn ctx Try.f60 [TV.ptr p, TV.one is] h R) ▸ H)


end Go.Proofs.Ytldocdpdjdekiaa
end

section
/- What the laws' own small functions do; Take. -/
namespace Go.Proofs.Ytldocdpdjdekiaa.Pool
open Go Go.Vc


/-- The document's name of a number. -/
def name (n : Int) : Bs 32 := ((Bs.zero 32).set 0 (UInt8.ofNat (n % 256).toNat)).set 31 (UInt8.ofNat ((7 * n) % 256).toNat)
section
variable {R : Value → Heap → Prop} {h : Heap} {b : Nat} {A : Sl} {L S : List It} {most quota : Int}

theorem wrap_u8 (n : Int) : IntKind.wrap .u8 n = n % 256 := by
  unfold IntKind.wrap
  show (if (false && _) = true then _ else n % 2 ^ 8) = n % 256
  simp

theorem wrap_u8_i64 (n : Int) : IntKind.wrap .u8 (IntKind.wrap .i64 n) = n % 256 := by
  obtain ⟨q, e⟩ := wrap_off n
  rw [wrap_u8, e]
  omega

theorem put_byte {T : TypeId} {h : Heap} {b n i o : Nat} {x : Bs n} {K : Heap → Prop} (v : Var T h b (.bytes n x)) (hi : i < n) (ho : o = i) {c : Int} (h0 : 0 ≤ c) (h1 : c < 256)
    (hk : ∀ h1, Var T h1 b (.bytes n (x.set i (UInt8.ofNat c.toNat))) → Only (· = b) h h1 → h1.size = h.size → K h1) : wok h b o 1 ∧ Bind ((TV.int .u8 c).put h b o) K := by
  subst ho
  have hl : o + (TV.int .u8 c).size ≤ (TV.bytes n x).cells.length := by rw [TV.cells_length]; simp only [TV.size]; omega
  refine ⟨v.wok (by simp only [TV.size]; omega), hk _ ?_ (put_only v hl) (put_size v hl)⟩
  have := put_row (t := .int .u8 c) v hl
  unfold Var
  rw [this]
  congr 2
  simp only [TV.cells, TV.size, Bs.set, List.map_set]
  have e : ((UInt8.ofNat c.toNat).toNat : Int) = c := by
    rw [UInt8.toNat_ofNat']
    omega
  rw [e, List.set_eq_take_append_cons_drop, if_pos (by rw [List.length_map, x.h]; exact hi)]
  simp

theorem name_spec {n : Int} (hr : ∀ h', Ext h h' → R (TV.bytes 32 (name n)).val h') : CallsH Try.prog 56 (TVs.vals [.int .i64 n]) h R := by
  apply tollerref10_Name_calls
  unfold tollerref10_Name_vc
  refine newTV_in fun h1 v1 x1 s1 => newTV_in fun h2 v2 x2 s2 => ?_
  rw [wrap_u8, wrap_u8_i64]
  refine ⟨by decide, by decide, put_byte v2 (i := 0) (by omega) rfl (by omega) (by omega) fun h3 v3 o3 s3 => ?_⟩
  refine ⟨by decide, by decide, put_byte v3 (i := 31) (by omega) rfl (by omega) (by omega) fun h4 v4 o4 s4 => ?_⟩
  have v1' : Var 50 h4 h.size (.bytes 32 (Bs.zero 32)) := ((v1.ext x2).only o3 (by omega)).only o4 (by omega)
  refine ⟨name n, v4.bytes, put_in v1' (t := .bytes 32 (name n)) rfl fun h5 v5 o5 s5 => ?_⟩
  refine ⟨name n, v5.bytes, hr _ ?_⟩
  have w1 : Ext h1 h4 := Only.cut x2 (o3.trans o4) (fun i hi => by omega)
  exact Only.cut (x1.trans w1) o5 (fun i hi => by omega)


def eqIt (x y : It) : Bool := decide (x.slot = y.slot) && (decide (x.root.1 = y.root.1) && (decide (x.peer = y.peer) && (decide (x.fr.1 = y.fr.1) && (decide (x.text = y.text) && true))))

theorem eqIt_iff {x y : It} : eqIt x y = true ↔ x = y := by
  unfold eqIt
  cases x; cases y
  simp only [Bool.and_eq_true, decide_eq_true_eq, and_true, It.mk.injEq]
  constructor
  · rintro ⟨h1, h2, h3, h4, h5⟩
    exact ⟨h1, Bs.ext' h2, h3, Bs.ext' h4, h5⟩
  · rintro ⟨h1, h2, h3, h4, h5⟩
    exact ⟨h1, by rw [h2], h3, by rw [h4], h5⟩

instance : DecidableEq It := fun x y => decidable_of_iff (eqIt x y = true) eqIt_iff

/-! ### Take -/

theorem app32 {s : Sl} {x : It} {K : Sl → Heap → Prop} (o : Own 105 67 h s (its L)) (hl : L.length < 1000)
    (hk : ∀ s' h', Own 105 67 h' s' (its (L ++ [x])) → Only (In s) h h' → (∀ l, s'.a = some l → (∃ l', s.a = some l' ∧ l'.b = l.b) ∨ h.size ≤ l.b) → K s' h') :
    ∃ new, slAt (h.push (row (TVs.cells [x.tv]) 105)) (Sl.mk (some (Vc.Loc.mk h.size 0)) 1 1) 67 new ∧ (∀ v ∈ new, isOne v = true) ∧ vcAppend ctx 105 s 1 new (h.push (row (TVs.cells [x.tv]) 105)) K := by
  have ol := o.len
  rw [List.length_map] at ol
  refine append1 (C := ctx) (T := 105) (sz := 67) (x := x.tv) size32 zsize32 (by rw [bytes32]; decide) (by rw [bytes32]; omega) o rfl rfl fun s' h4 o4 f4 b4 => hk s' h4 ?_ f4 b4
  simpa [its] using o4

theorem filter_few (pred : It → Bool) (hf : S.length < 800) : (S.filter pred).length < 800 := by
  have := List.length_filter_le pred S
  omega

theorem take_filter {i : Nat} {x : It} (pred : It → Bool) (hx : S[i]? = some x) : (S.take (i + 1)).filter pred = (S.take i).filter pred ++ if pred x = true then [x] else [] := by
  rw [List.take_add_one, hx, List.filter_append]
  cases h : pred x <;> simp [h]

theorem take_spec (p : PL h b A S most quota) {f : One} {pred : It → Bool} (t : Tells h f pred)
    (hr : ∀ h' A' out, PL h' b A' (S.filter fun x => !pred x) most quota → Own 105 67 h' out (its (S.filter pred)) → Grown b A h A' h' → Fresh h out → (∀ i, In out i → ¬ Mine b A' i) → R (TV.slice out).val h') :
    CallsH Try.prog 60 (TVs.vals [.ptr (some ⟨b, 0⟩), .one f]) h R := by
  apply pool_Pool_Take_calls
  unfold pool_Pool_Take_vc
  have few := p.few
  have hblt := p.lt (i := b) (.inl rfl)
  refine If.no ?_
  refine all_spec p fun h1 s1 o1 x1 f1 => ⟨s1, rfl, ?_⟩
  have hel := o1.len
  rw [List.length_map] at hel
  have hs1 := x1.size
  refine ⟨fun s hh => 0 ≤ s.2.2 ∧ s.2.2 ≤ S.length ∧ Ext h1 hh ∧ Own 105 67 hh s.1 (its ((S.take s.2.2.toNat).filter pred)) ∧ Own 105 67 hh s.2.1 (its ((S.take s.2.2.toNat).filter fun x => !pred x)) ∧ Fresh h1 s.1 ∧ Fresh h1 s.2.1 ∧ (∀ i, In s.1 i → ¬ In s.2.1 i), fun s _ => ((S.length : Int) - s.2.2).toNat,
    ⟨Int.le_refl _, Int.natCast_nonneg _, Ext.refl _, Own.nil _ 67 h1, Own.nil _ 67 h1, fun l hl => (by cases hl), fun l hl => (by cases hl), fun i ⟨l, hl, _⟩ => (by cases hl)⟩, ?_⟩
  rintro ⟨out, rest, i⟩ hh ⟨i0, i1, x, oo, ro, fo, fr, dj⟩
  simp only at i0 i1 oo ro fo fr dj ⊢
  have hs := x.size
  refine If.dec.2 ⟨fun hi => ?_, fun hi => ?_⟩
  · refine its_at (o1.elems.ext x) i0 (by omega) fun l y _ hy => ?_
    refine newTV_in fun h2 v2 x2 s2 => ?_
    refine put_in v2 (t := y.tv) rfl fun h3 v3 o3 s3 => ?_
    have x23 : Ext hh h3 := Only.cut x2 o3 fun j hj => by omega
    refine v_it (x := y) v3 ?_
    obtain ⟨g, first, cap, t1, t2, t3⟩ := t.ex
    refine ⟨g, first, cap, t1, t2, t3 h3 y _ ((x1.trans x).trans x23) fun h4 x4 => ⟨_, rfl, ?_⟩⟩
    have x34 := x23.trans x4
    have s34 := x34.size
    have hi' : (i + 1).toNat = i.toNat + 1 := by omega
    have tf := take_filter pred hy
    have tn := take_filter (fun x => !pred x) hy
    rw [wrap_i64 (n := i + 1) (by omega) (by omega)]
    have lo : ((S.take i.toNat).filter pred).length < 1000 := Nat.lt_of_le_of_lt (Nat.le_trans (List.length_filter_le _ _) (by rw [List.length_take]; omega : (S.take i.toNat).length ≤ 799)) (by decide)
    have lr : ((S.take i.toNat).filter fun x => !pred x).length < 1000 := Nat.lt_of_le_of_lt (Nat.le_trans (List.length_filter_le _ _) (by rw [List.length_take]; omega : (S.take i.toNat).length ≤ 799)) (by decide)
    cases hp : pred y with
    | true =>
      rw [hp] at tf tn
      simp only [if_true, Bool.not_true, Bool.false_eq_true, if_false, List.append_nil] at tf tn
      refine If.yes (v_it (x := y) (v3.ext x4) ?_)
      refine app32 (x := y) (oo.ext x34) lo fun s5 h5 o5 f5 b5 => ?_
      have x5 : Ext h1 h5 := Only.cut (x.trans x34) f5 fun j ⟨l, hl, e⟩ => by rw [← e]; exact fo l hl
      refine ⟨⟨by omega, by omega, x5, by rw [hi', tf]; exact o5, ?_, fun l hl => ?_, fr, fun j ⟨l, hl, e⟩ hj => ?_⟩, by first | omega | (dsimp only; omega)⟩
      · rw [hi', tn]
        exact (ro.ext x34).only f5 fun l hl h9 => dj _ h9 ⟨l, hl, rfl⟩
      · rcases b5 l hl with ⟨l', h9, h10⟩ | h9
        · rw [← h10]; exact fo l' h9
        · omega
      · rcases b5 l hl with ⟨l', h9, h10⟩ | h9
        · exact dj j ⟨l', h9, h10.trans e⟩ hj
        · obtain ⟨l2, hl2, e2⟩ := hj
          have := ro.lt l2 hl2
          omega
    | false =>
      rw [hp] at tf tn
      simp only [if_true, Bool.not_false, Bool.false_eq_true, if_false, List.append_nil] at tf tn
      refine If.no (v_it (x := y) (v3.ext x4) ?_)
      refine app32 (x := y) (ro.ext x34) lr fun s5 h5 o5 f5 b5 => ?_
      have x5 : Ext h1 h5 := Only.cut (x.trans x34) f5 fun j ⟨l, hl, e⟩ => by rw [← e]; exact fr l hl
      refine ⟨⟨by omega, by omega, x5, ?_, by rw [hi', tn]; exact o5, fo, fun l hl => ?_, fun j hj ⟨l, hl, e⟩ => ?_⟩, by first | omega | (dsimp only; omega)⟩
      · rw [hi', tf]
        exact (oo.ext x34).only f5 fun l hl h9 => dj _ ⟨l, hl, rfl⟩ h9
      · rcases b5 l hl with ⟨l', h9, h10⟩ | h9
        · rw [← h10]; exact fr l' h9
        · omega
      · rcases b5 l hl with ⟨l', h9, h10⟩ | h9
        · exact dj j hj ⟨l', h9, h10.trans e⟩
        · obtain ⟨l2, hl2, e2⟩ := hj
          have := oo.lt l2 hl2
          omega
  · have hi2 : i.toNat = S.length := by omega
    rw [hi2, List.take_length] at oo ro
    have xx := x1.trans x
    obtain ⟨hsrt, hn, hf, L, H, hh', hp⟩ := p.ext xx
    refine nn_some ?_
    have bne : ∀ l, rest.a = some l → l.b ≠ b := fun l hl => by have := fr l hl; omega
    have one : ∀ j, In out j → j ≠ b := fun j ⟨l, hl, e⟩ => by have := fo l hl; omega
    refine field_in (i := 0) (t0 := .slice A) H.var rfl rfl rfl rfl fun h2 v2 o2 s2 => ?_
    refine nn_some ?_
    have lr : (S.filter fun x => !pred x).length < 800 := filter_few _ few
    have H2 : HL h2 b rest (S.filter fun x => !pred x) most quota := ⟨v2, ro.only o2 bne, fun ⟨l, hl, e⟩ => bne l hl e, by omega⟩
    refine hinit_spec H2 (v := ⟨.iface 172 (TV.ptr (some ⟨b, 0⟩)).val, rfl⟩) rfl fun h3 L3 H3 hp3 hh3 o3 => ⟨rfl, ?_⟩
    have hsub : (S.filter fun x => !pred x).Sublist S := List.filter_sublist
    refine hr h3 rest out ⟨hsrt.sublist hsub, hn.sublist (hsub.map _), lr, L3, H3, hh3, hp3⟩ ?_ ⟨?_, fun i hi => ?_⟩ (fun l hl => by have := fo l hl; omega) (fun j hj hm => ?_)
    · exact (oo.only o2 (fun l hl => one l.b ⟨l, hl, rfl⟩)).only o3 (fun l hl h9 => dj l.b ⟨l, hl, rfl⟩ h9)
    · refine ⟨by have := xx.size; have := o2.size; have := o3.size; omega, fun j hj hnm => ?_⟩
      rw [o3.same j (by have := xx.size; omega) (fun ⟨l, hl, e⟩ => by have := fr l hl; omega), o2.same j (by have := xx.size; omega) (fun e => hnm (.inl e)), xx.same j hj]
    · rcases hi with e | ⟨l, hl, e⟩
      · exact .inl (.inl e)
      · right
        have := fr l hl
        omega
    · rcases hm with e | hm
      · exact one j hj e
      · exact dj j hj hm

theorem take_nil {f : One} (hr : R (TV.slice Sl.nil).val h) : CallsH Try.prog 60 (TVs.vals [.ptr none, .one f]) h R := by
  apply pool_Pool_Take_calls
  exact If.yes hr

end
end Go.Proofs.Ytldocdpdjdekiaa.Pool
end

section

end

section
/- The document's pool: items in order; what its functions do. -/
namespace Go.Proofs.Ytldocdpdjdekiaa.Pool
open Go Go.Vc

/-- Appending to a row without room: a new row. -/
theorem append_full {C : Ctx} {T : TypeId} {sz : Nat} {h : Heap} {t s : Sl} {ts us : List TV} {K : Sl → Heap → Prop} (hsz : (C.ti T).size = sz) (hz : (C.ti T).z.size = sz) (hpos : 0 < (C.ti T).bytes) (h0 : 0 < sz)
    (hb : (t.len + s.len) * (C.ti T).bytes ≤ 70368744177664) (e0 : Elems sz h t ts) (hts : ∀ u ∈ ts, u.size = sz) (hfull : t.len = t.cap) (e : Elems sz h s us) (hs : ∀ u ∈ us, u.size = sz) (hp : ∀ u ∈ us, u.plain = true) (hne : 0 < s.len)
    (hk : ∀ t' h', Own T sz h' t' (ts ++ us) → Ext h h' → (∀ l, t'.a = some l → h.size ≤ l.b) → K t' h') :
    ∃ new, slAt h s sz new ∧ (∀ v ∈ new, isOne v = true) ∧ vcAppend C T t s.len new h K := by
  refine ⟨TVs.cells us, e.cells hs h0, TVs.plain_cells_of hp, TVs.cells ts, ?_, hb, hpos, fun hroom => by omega, fun hroom => by omega, fun _ c hc => ?_⟩
  · rw [hsz]
    exact e0.cells hts h0
  · have elen := e.len
    have olen := e0.len
    refine hk _ _ ⟨fun x hx => ?_, by simp [olen, elen], hc, .inr ⟨_, zeros (C.ti T).z (c - (t.len + s.len)), rfl, ?_, ?_⟩⟩ (Ext.push _ _) fun l hl => ?_
    · rcases List.mem_append.1 hx with h1 | h1
      · exact hts x h1
      · exact hs x h1
    · rw [push_get, TVs.cells_append]
    · rw [zeros_length, hz]
    · cases hl
      exact Nat.le_refl _

theorem cut67 {h : Heap} {s : Sl} {ts : List TV} {i j : Nat} (e : Elems 67 h s ts) (hij : i ≤ j) (hj : j ≤ s.len) (c : Nat) (hc : j ≤ c) : Elems 67 h (cutSl (Sl.mk s.a s.len c) i j 67) ((ts.drop i).take (j - i)) := by
  have hl := e.len
  refine ⟨by simp only [cutSl, List.length_take, List.length_drop]; omega, fun hn => ?_, fun l hla k t ht => ?_⟩
  · have : ts = [] ∨ j - i = 0 := by
      unfold cutSl at hn
      simp only at hn
      split at hn
      · right; omega
      · left
        cases hs : s.a with
        | none => exact e.nil hs
        | some l => rw [hs] at hn; simp at hn
    rcases this with rfl | h0
    · simp
    · rw [h0]; simp
  · unfold cutSl at hla
    simp only at hla
    rw [List.getElem?_take] at ht
    split at ht
    · rename_i hk
      rw [List.getElem?_drop] at ht
      split at hla
      · omega
      · cases hs : s.a with
        | none => rw [hs] at hla; simp at hla
        | some l0 =>
          rw [hs] at hla
          simp only [Option.map_some, Option.some.injEq] at hla
          subst hla
          have := e.get l0 hs (i + k) t ht
          rw [Nat.add_mul, ← Nat.add_assoc] at this
          exact this
    · cases ht

/-- The first place ahead of which an item comes. -/
theorem ins_at (x : It) : ∀ (M : List It) (i : Nat), i ≤ M.length → (∀ j y, j < i → M[j]? = some y → bf x y = false) → (i = M.length ∨ ∃ y, M[i]? = some y ∧ bf x y = true) → insIt x M = M.take i ++ ([x] ++ M.drop i)
  | [], i, hi, _, _ => by
    have : i = 0 := by simpa using hi
    subst this
    rfl
  | y :: ys, 0, _, _, h => by
    rcases h with h | ⟨z, hz, hb⟩
    · cases h
    · injection hz with hz
      subst hz
      rw [insIt, if_pos hb]
      rfl
  | y :: ys, i + 1, hi, hj, h => by
    have hy := hj 0 y (Nat.succ_pos _) rfl
    have ih := ins_at x ys i (by simpa using hi) (fun j z hji hz => hj (j + 1) z (by omega) hz) (by
      rcases h with h | ⟨z, hz, hb⟩
      · left; simpa using h
      · right; exact ⟨z, hz, hb⟩)
    rw [insIt, if_neg (by rw [hy]; decide), ih]
    rfl

theorem insIt_length (x : It) (M : List It) : (insIt x M).length = M.length + 1 := by rw [(insIt_perm x M).length_eq, List.length_cons]

theorem insIt_last {x y : It} {M : List It} (hl : M.getLast? = some y) (hb : bf x y = true) : insIt x M = insIt x M.dropLast ++ [y] := by
  obtain ⟨l, rfl⟩ := List.getLast?_eq_some_iff.1 hl
  rw [List.dropLast_concat]
  clear hl
  induction l with
  | nil => simp [insIt, hb]
  | cons z zs ih =>
    rw [List.cons_append, insIt, insIt]
    split
    · rfl
    · rw [ih]; rfl


section
variable {R : Value → Heap → Prop} {h : Heap} {m : Nat} {A : Sl} {M : List It} {most quota : Int}







end
end Go.Proofs.Ytldocdpdjdekiaa.Pool
end

section
/- The document's Put does what the program's Put does to the items in order. -/
namespace Go.Proofs.Ytldocdpdjdekiaa.Pool
open Go Go.Vc
section
variable {R : Value → Heap → Prop} {h : Heap} {m : Nat} {A : Sl} {M : List It} {most quota : Int}

theorem zero_sz (x : It) : x.tv.size = It.zero.tv.size := rfl


end
end Go.Proofs.Ytldocdpdjdekiaa.Pool
end
