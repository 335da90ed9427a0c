/- Digests: what take makes of a block of 64 bytes. -/
import Derived.Test.YtgdhddignbkloaaBoardC
import Derived.Test.YtgdhddignbkloaaVcR
import Derived.Test.YtgdhddignbkloaaVsShaT
namespace Go.Proofs.Ytgdhddignbkloaa.Board
open Go Go.Vc
set_option maxRecDepth 10000

def t4 (n_17 n_2 n_7 n_8 n_9 n_1 n_3 n_4 n_5 n_6 : Int) : Int := (IntKind.wrap IntKind.u32 (n_17 + IntKind.wrap IntKind.u32 (IntKind.wrap IntKind.u32 (IntKind.wrap IntKind.u32 (IntKind.wrap IntKind.u32 (n_2 + IntKind.wrap IntKind.u32 (↑(BitVec.toNat (BitVec.ofInt (IntKind.bits IntKind.u32) (IntKind.wrap IntKind.u32 (↑(BitVec.toNat (BitVec.ofInt (IntKind.bits IntKind.u32) n_7 ^^^ BitVec.ofInt (IntKind.bits IntKind.u32) n_8)) : Int)) ^^^ BitVec.ofInt (IntKind.bits IntKind.u32) n_9)) : Int)) + IntKind.wrap IntKind.u32 (↑(BitVec.toNat (BitVec.ofInt (IntKind.bits IntKind.u32) (IntKind.wrap IntKind.u32 (↑(BitVec.toNat (BitVec.ofInt (IntKind.bits IntKind.u32) n_1 &&& BitVec.ofInt (IntKind.bits IntKind.u32) n_3)) : Int)) ^^^ BitVec.ofInt (IntKind.bits IntKind.u32) (IntKind.wrap IntKind.u32 (↑(BitVec.toNat (BitVec.ofInt (IntKind.bits IntKind.u32) (IntKind.wrap IntKind.u32 (↑(BitVec.toNat (BitVec.ofInt (IntKind.bits IntKind.u32) (if IntKind.signed IntKind.u32 = true then (-1 : Int) else IntKind.max IntKind.u32) ^^^ BitVec.ofInt (IntKind.bits IntKind.u32) n_1)) : Int)) &&& BitVec.ofInt (IntKind.bits IntKind.u32) n_4)) : Int)))) : Int)) + n_5) + n_6)))
def t0 (n_2 n_7 n_8 n_9 n_1 n_3 n_4 n_5 n_6 n_14 n_15 n_16 n n_10 n_11 n_12 n_13 : Int) : Int := (IntKind.wrap IntKind.u32 (IntKind.wrap IntKind.u32 (IntKind.wrap IntKind.u32 (IntKind.wrap IntKind.u32 (IntKind.wrap IntKind.u32 (n_2 + IntKind.wrap IntKind.u32 (↑(BitVec.toNat (BitVec.ofInt (IntKind.bits IntKind.u32) (IntKind.wrap IntKind.u32 (↑(BitVec.toNat (BitVec.ofInt (IntKind.bits IntKind.u32) n_7 ^^^ BitVec.ofInt (IntKind.bits IntKind.u32) n_8)) : Int)) ^^^ BitVec.ofInt (IntKind.bits IntKind.u32) n_9)) : Int)) + IntKind.wrap IntKind.u32 (↑(BitVec.toNat (BitVec.ofInt (IntKind.bits IntKind.u32) (IntKind.wrap IntKind.u32 (↑(BitVec.toNat (BitVec.ofInt (IntKind.bits IntKind.u32) n_1 &&& BitVec.ofInt (IntKind.bits IntKind.u32) n_3)) : Int)) ^^^ BitVec.ofInt (IntKind.bits IntKind.u32) (IntKind.wrap IntKind.u32 (↑(BitVec.toNat (BitVec.ofInt (IntKind.bits IntKind.u32) (IntKind.wrap IntKind.u32 (↑(BitVec.toNat (BitVec.ofInt (IntKind.bits IntKind.u32) (if IntKind.signed IntKind.u32 = true then (-1 : Int) else IntKind.max IntKind.u32) ^^^ BitVec.ofInt (IntKind.bits IntKind.u32) n_1)) : Int)) &&& BitVec.ofInt (IntKind.bits IntKind.u32) n_4)) : Int)))) : Int)) + n_5) + n_6) + IntKind.wrap IntKind.u32 (IntKind.wrap IntKind.u32 (↑(BitVec.toNat (BitVec.ofInt (IntKind.bits IntKind.u32) (IntKind.wrap IntKind.u32 (↑(BitVec.toNat (BitVec.ofInt (IntKind.bits IntKind.u32) n_14 ^^^ BitVec.ofInt (IntKind.bits IntKind.u32) n_15)) : Int)) ^^^ BitVec.ofInt (IntKind.bits IntKind.u32) n_16)) : Int) + IntKind.wrap IntKind.u32 (↑(BitVec.toNat (BitVec.ofInt (IntKind.bits IntKind.u32) (IntKind.wrap IntKind.u32 (↑(BitVec.toNat (BitVec.ofInt (IntKind.bits IntKind.u32) (IntKind.wrap IntKind.u32 (↑(BitVec.toNat (BitVec.ofInt (IntKind.bits IntKind.u32) n &&& BitVec.ofInt (IntKind.bits IntKind.u32) n_10)) : Int)) ^^^ BitVec.ofInt (IntKind.bits IntKind.u32) (IntKind.wrap IntKind.u32 (↑(BitVec.toNat (BitVec.ofInt (IntKind.bits IntKind.u32) n &&& BitVec.ofInt (IntKind.bits IntKind.u32) n_11)) : Int)))) : Int)) ^^^ BitVec.ofInt (IntKind.bits IntKind.u32) (IntKind.wrap IntKind.u32 (↑(BitVec.toNat (BitVec.ofInt (IntKind.bits IntKind.u32) n_12 &&& BitVec.ofInt (IntKind.bits IntKind.u32) n_13)) : Int)))) : Int))))

/-- The words, each one place on. -/
def shift (v : Ws 8) : Ws 8 := ⟨v.l.take 1 ++ v.l.take 7, by simp [v.h]⟩

def roundW (w k : Ws 64) (i : Nat) (v : Ws 8) : Ws 8 :=
  ((shift v).set 4 (t4 (wd (shift v) 4) (wd v 7) (turnF (wd v 4) 6) (turnF (wd v 4) 11) (turnF (wd v 4) 25) (wd v 4) (wd v 5) (wd v 6) (wd k i) (wd w i))).set 0
    (t0 (wd v 7) (turnF (wd v 4) 6) (turnF (wd v 4) 11) (turnF (wd v 4) 25) (wd v 4) (wd v 5) (wd v 6) (wd k i) (wd w i) (turnF (wd v 0) 2) (turnF (wd v 0) 13) (turnF (wd v 0) 22) (wd v 0) (wd v 1) (wd v 2) (wd v 1) (wd v 2))

def roundsW (w k : Ws 64) (v : Ws 8) : Nat → Ws 8
  | 0 => v
  | i + 1 => roundW w k i (roundsW w k v i)

def sumW (w v : Ws 8) : Nat → Ws 8
  | 0 => w
  | i + 1 => (sumW w v i).set i (IntKind.wrap .u32 (wd (sumW w v i) i + wd v i))

def takeF (w : Ws 8) (bs : List UInt8) : Ws 8 := sumW w (roundsW (layF bs) keysW w 64) 8

section
variable {R : Value → Heap → Prop} {h : Heap}

theorem copy_in {T : TypeId} {b : Nat} {k : IntKind} {x : Ws 8} {K : Heap → Prop} {P : Prop} (v : Var T h b (.words k 8 x))
    (hk : ∀ h1, Var T h1 b (.words k 8 (shift x)) → Only (· = b) h h1 → h1.size = h.size → K h1) :
    ∃ new : List Value, slAt h (Sl.mk (cutSl (Sl.mk (some (Vc.Loc.mk b 0)) 8 8) 0 (Int.toNat 7) 1).a (Nat.min (cutSl (Sl.mk (some (Vc.Loc.mk b 0)) 8 8) 0 (Int.toNat 7) 1).len (cutSl (Sl.mk (some (Vc.Loc.mk b 0)) 8 8) (Int.toNat 1) 8 1).len)
        (Nat.min (cutSl (Sl.mk (some (Vc.Loc.mk b 0)) 8 8) 0 (Int.toNat 7) 1).len (cutSl (Sl.mk (some (Vc.Loc.mk b 0)) 8 8) (Int.toNat 1) 8 1).len)) 1 new ∧ (∀ (v : Value), v ∈ new → isOne v = true) ∧
      ((cutSl (Sl.mk (some (Vc.Loc.mk b 0)) 8 8) (Int.toNat 1) 8 1).a = none → P) ∧
      ∀ (l_2 : Vc.Loc), (cutSl (Sl.mk (some (Vc.Loc.mk b 0)) 8 8) (Int.toNat 1) 8 1).a = some l_2 → wok h l_2.b l_2.o (List.length new) ∧ Bind (putl h l_2.b l_2.o new) K := by
  have hx := x.h
  have hcl : (TV.words k 8 x).cells.length = 8 := by rw [TV.cells_length]; rfl
  refine ⟨(x.l.take 7).map (Value.int k), ⟨?_, .inr ⟨⟨b, 0⟩, rfl, fun j hj => ?_⟩⟩, ?_, ?_, ?_⟩
  · simp [hx, cutSl]
  · simp only [List.length_map, List.length_take, hx] at hj
    have h1 : cel h b j = some (.int k (wd x j)) := by
      have := v.at j (by omega)
      rw [Nat.zero_add] at this
      exact this
    show cel h b (0 + 0 * 1 + j) = _
    have e0 : 0 + 0 * 1 + j = j := by omega
    rw [e0, h1]
    simp only [List.getElem?_map, List.getElem?_take, show j < 7 by omega, if_true]
    unfold wd
    rw [List.getD_eq_getElem?_getD, List.getElem?_eq_getElem (by omega)]
    rfl
  · intro v hv
    obtain ⟨a, _, rfl⟩ := List.mem_map.1 hv
    rfl
  · intro hn
    cases hn
  · intro l hl
    have hl' : l = ⟨b, 1⟩ := by
      have : some (Vc.Loc.mk b (0 + 1 * 1)) = some l := hl
      injection this with this
      exact this.symm
    subst hl'
    have hlen : ((x.l.take 7).map (Value.int k)).length = 7 := by simp [hx]
    rw [hlen]
    have hp := putl_get ((x.l.take 7).map (Value.int k)) h b 1 _ T v (by rw [hlen, hcl]; exact Nat.le_refl _)
    refine ⟨v.wok (by simp only [TV.size]; exact Nat.le_refl _), hk _ ?_ ⟨by rw [hp.2.1]; exact Nat.le_refl _, fun b' _ hn => hp.2.2 b' hn⟩ hp.2.1⟩
    unfold Var
    rw [hp.1]
    congr 2
    rw [List.drop_eq_nil_of_le (by rw [hlen, hcl]; exact Nat.le_refl _)]
    simp only [TV.cells, shift, List.map_append, List.map_take, List.append_nil]

theorem put_word_field {T : TypeId} {b n i o : Nat} {k : IntKind} {x : Ws n} {ts : List TV} {c : Int} {K : Heap → Prop} (v : Var T h b (.agg (.words k n x :: ts))) (hi : i < n) (ho : o = i)
    (hk : ∀ h1, Var T h1 b (.agg (.words k n (x.set i c) :: ts)) → Only (· = b) h h1 → h1.size = h.size → K h1) : wok h b o 1 ∧ Bind ((TV.int k c).put h b o) K := by
  subst ho
  have hl : o + (TV.int k c).size ≤ (TV.agg (.words k n x :: ts)).cells.length := by rw [TV.cells_length]; simp only [TV.size, TVs.size]; omega
  refine ⟨v.wok (by simp only [TV.size, TVs.size]; omega), hk _ ?_ (put_only v hl) (put_size v hl)⟩
  have := put_row (t := .int k c) v hl
  unfold Var
  rw [this]
  congr 2
  simp only [TV.cells, TVs.cells, TV.size, Ws.set, List.map_set]
  have hxl : o < (List.map (Value.int k) x.l).length := by rw [List.length_map, x.h]; exact hi
  have hxl' : o + 1 ≤ (List.map (Value.int k) x.l).length := hxl
  rw [List.set_eq_take_append_cons_drop, if_pos hxl, List.take_append_of_le_length (Nat.le_of_lt hxl), List.drop_append_of_le_length hxl']
  simp

theorem _root_.Go.Vc.Var.ne_type {T T' : TypeId} {b b' : Nat} {t t' : TV} (v : Var T h b t) (v' : Var T' h b' t') (hT : T ≠ T') : b ≠ b' := by
  rintro rfl
  unfold Var at v v'
  rw [v] at v'
  injection v' with v'
  unfold row at v'
  injection v' with _ h2
  exact hT h2

theorem word_field {T : TypeId} {b n : Nat} {k : IntKind} {w : Ws n} {ts : List TV} (v : Var T h b (.agg (.words k n w :: ts))) {i : Nat} (hi : i < n) : at1 h b (0 + i * 1) (.int k (wd w i)) := by
  have h0 := v.at
  rw [Nat.mul_one]
  cases ts with
  | nil => exact h0 i hi
  | cons t ts => exact h0.1 i hi

theorem wsz {k : IntKind} {n : Nat} {x y : Ws n} : (TV.words k n x).size = (TV.words k n y).size := by simp only [TV.size]
theorem wsz1 {k : IntKind} {n : Nat} {x : Ws n} : n = (TV.words k n x).size := by simp only [TV.size]

set_option maxHeartbeats 1000000 in
theorem take_takes : Takes takeF := by
  intro h R b w s q bs n v e hl hqb hr
  apply sha_state_take_calls
  unfold sha_state_take_vc
  intro J hJ
  refine ⟨w, v.at.1, ?_⟩
  have leaf : ∀ (a c d : Nat) (hh : Heap), Var 94 hh a (.words .u32 64 (layF bs)) → Var 94 hh c (.words .u32 64 keysW) → Var 90 hh d (.words .u32 8 w) → Ext h hh → h.size ≤ d →
      J (some ⟨a, 0⟩, some ⟨c, 0⟩, some ⟨d, 0⟩) hh := by
    intro a c d hh va vc vd x hd
    have had := va.ne_type vd (by decide)
    have hcd := vc.ne_type vd (by decide)
    refine hJ _ _ ?_
    refine ⟨fun i hk => 0 ≤ i ∧ i ≤ 64 ∧ Only (· = d) hh hk ∧ Var 90 hk d (.words .u32 8 (roundsW (layF bs) keysW w i.toNat)), fun i _ => ((64 : Int) - i).toNat, ⟨Int.le_refl 0, by decide, Only.refl _ _, vd⟩, ?_⟩
    rintro i h1 ⟨i0, i1, o1, v1⟩
    have va1 := va.only o1 had
    have vc1 := vc.only o1 hcd
    refine If.dec.2 ⟨fun hi => ?_, fun hi => ?_⟩
    · rw [wrap_i64 (n := i + 1) (by omega) (by omega)]
      refine ⟨by decide, by decide, _, word_at v1 (by decide), by decide, by decide, _, word_at v1 (by decide), by decide, by decide, _, word_at v1 (by decide), by decide, by decide, _, word_at v1 (by decide), by decide, by decide, _, word_at v1 (by decide),
        i0, by omega, _, word_at vc1 (by omega), i0, by omega, _, word_at va1 (by omega), ?_⟩
      refine turn_spec ⟨_, rfl, Ext.refl _, turn_spec ⟨_, rfl, Ext.refl _, turn_spec ⟨_, rfl, Ext.refl _, ?_⟩⟩⟩
      refine ⟨by decide, by decide, _, word_at v1 (by decide), by decide, by decide, _, word_at v1 (by decide), by decide, by decide, _, word_at v1 (by decide), by decide, by decide, _, word_at v1 (by decide), ?_⟩
      refine turn_spec ⟨_, rfl, Ext.refl _, turn_spec ⟨_, rfl, Ext.refl _, turn_spec ⟨_, rfl, Ext.refl _, ?_⟩⟩⟩
      refine ⟨by decide, by decide, by decide, by decide, ?_⟩
      refine copy_in v1 fun h2 v2 o2 s2 => ?_
      refine ⟨by decide, by decide, _, word_at v2 (by decide), by decide, by decide, ?_⟩
      refine put_word v2 (i := 4) (by decide) rfl fun h3 v3 o3 s3 => ⟨by decide, by decide, ?_⟩
      refine put_word v3 (i := 0) (by decide) rfl fun h4 v4 o4 s4 => ?_
      have hi1 : (i + 1).toNat = i.toNat + 1 := by omega
      refine ⟨⟨by omega, by omega, ((o1.trans o2).trans o3).trans o4, ?_⟩, by first | omega | (dsimp only; omega)⟩
      rw [hi1]
      exact v4
    · have hi2 : i.toNat = 64 := by omega
      rw [hi2] at v1
      have v0 : Var 99 h1 b (.agg [.words .u32 8 w, .slice s, .int .u64 n]) := (v.ext x).only o1 (by have := v.lt; omega)
      have hbd : b ≠ d := by have := v.lt; omega
      refine ⟨fun i hk => 0 ≤ i ∧ i ≤ 8 ∧ Only (· = b) h1 hk ∧ Var 99 hk b (.agg [.words .u32 8 (sumW w (roundsW (layF bs) keysW w 64) i.toNat), .slice s, .int .u64 n]), fun i _ => ((8 : Int) - i).toNat, ⟨Int.le_refl 0, by decide, Only.refl _ _, v0⟩, ?_⟩
      rintro i h2 ⟨j0, j1, o2, v2⟩
      have vd2 := v1.only o2 (Ne.symm hbd)
      refine If.dec.2 ⟨fun hi => ?_, fun hi => ?_⟩
      · rw [wrap_i64 (n := i + 1) (by omega) (by omega)]
        refine ⟨j0, by omega, _, word_field v2 (by omega), j0, by omega, _, word_at vd2 (by omega), j0, by omega, ?_⟩
        refine put_word_field v2 (i := i.toNat) (by omega) (by show 0 + i.toNat * 1 = i.toNat; omega) fun h3 v3 o3 s3 => ?_
        have hi1 : (i + 1).toNat = i.toNat + 1 := by omega
        refine ⟨⟨by omega, by omega, o2.trans o3, ?_⟩, by first | omega | (dsimp only; omega)⟩
        rw [hi1]
        exact v3
      · have hi3 : i.toNat = 8 := by omega
        rw [hi3] at v2
        have x1 : Ext h h1 := Only.cut x o1 fun i hi => by omega
        exact hr h2 v2 ((Only.of_ext x1).trans o2)
  have B := Bag.nil h
  clear hJ hr
  exact ⟨lay_spec (bs := bs) (e.ext B.ext) hl fun h' x' => have B := B.on x'; ⟨_, rfl, B.ext, ⟨keys_spec fun h' x' => have B := B.on x'; ⟨_, rfl, B.ext, ⟨B.make fun h' x' B => ⟨B.ext, ⟨B.make fun h' x' B => ⟨B.ext, B.make fun h' x' B => ⟨B.ext, B.put2 wsz wsz1 fun h' B => ⟨B.ext, B.put1 wsz wsz1 fun h' B => ⟨B.ext, B.put0 wsz wsz1 fun h' B => leaf _ _ _ _ B.v2 B.v1 B.v0 B.ext B.n0⟩⟩⟩⟩, B.make fun h' x' B => ⟨B.ext, B.make fun h' x' B => ⟨B.ext, B.put2 wsz wsz1 fun h' B => ⟨B.ext, B.put0 wsz wsz1 fun h' B => ⟨B.ext, B.put1 wsz wsz1 fun h' B => leaf _ _ _ _ B.v2 B.v0 B.v1 B.ext B.n1⟩⟩⟩⟩⟩⟩, ⟨B.make fun h' x' B => ⟨B.ext, ⟨B.make fun h' x' B => ⟨B.ext, B.make fun h' x' B => ⟨B.ext, B.put1 wsz wsz1 fun h' B => ⟨B.ext, B.put2 wsz wsz1 fun h' B => ⟨B.ext, B.put0 wsz wsz1 fun h' B => leaf _ _ _ _ B.v1 B.v2 B.v0 B.ext B.n0⟩⟩⟩⟩, B.make fun h' x' B => ⟨B.ext, B.make fun h' x' B => ⟨B.ext, B.put0 wsz wsz1 fun h' B => ⟨B.ext, B.put2 wsz wsz1 fun h' B => ⟨B.ext, B.put1 wsz wsz1 fun h' B => leaf _ _ _ _ B.v0 B.v2 B.v1 B.ext B.n1⟩⟩⟩⟩⟩⟩, B.make fun h' x' B => ⟨B.ext, ⟨B.make fun h' x' B => ⟨B.ext, B.make fun h' x' B => ⟨B.ext, B.put1 wsz wsz1 fun h' B => ⟨B.ext, B.put0 wsz wsz1 fun h' B => ⟨B.ext, B.put2 wsz wsz1 fun h' B => leaf _ _ _ _ B.v1 B.v0 B.v2 B.ext B.n2⟩⟩⟩⟩, B.make fun h' x' B => ⟨B.ext, B.make fun h' x' B => ⟨B.ext, B.put0 wsz wsz1 fun h' B => ⟨B.ext, B.put1 wsz wsz1 fun h' B => ⟨B.ext, B.put2 wsz wsz1 fun h' B => leaf _ _ _ _ B.v0 B.v1 B.v2 B.ext B.n2⟩⟩⟩⟩⟩⟩⟩⟩⟩, ⟨B.make fun h' x' B => ⟨B.ext, ⟨keys_spec fun h' x' => have B := B.on x'; ⟨_, rfl, B.ext, ⟨B.make fun h' x' B => ⟨B.ext, B.make fun h' x' B => ⟨B.ext, B.put2 wsz wsz1 fun h' B => ⟨B.ext, B.put1 wsz wsz1 fun h' B => ⟨B.ext, B.put0 wsz wsz1 fun h' B => leaf _ _ _ _ B.v2 B.v1 B.v0 B.ext B.n0⟩⟩⟩⟩, B.make fun h' x' B => ⟨B.ext, B.make fun h' x' B => ⟨B.ext, B.put2 wsz wsz1 fun h' B => ⟨B.ext, B.put0 wsz wsz1 fun h' B => ⟨B.ext, B.put1 wsz wsz1 fun h' B => leaf _ _ _ _ B.v2 B.v0 B.v1 B.ext B.n1⟩⟩⟩⟩⟩⟩, ⟨B.make fun h' x' B => ⟨B.ext, ⟨keys_spec fun h' x' => have B := B.on x'; ⟨_, rfl, B.ext, B.make fun h' x' B => ⟨B.ext, B.put2 wsz wsz1 fun h' B => ⟨B.ext, B.put1 wsz wsz1 fun h' B => ⟨B.ext, B.put0 wsz wsz1 fun h' B => leaf _ _ _ _ B.v2 B.v1 B.v0 B.ext B.n0⟩⟩⟩⟩, B.make fun h' x' B => ⟨B.ext, keys_spec fun h' x' => have B := B.on x'; ⟨_, rfl, B.ext, B.put2 wsz wsz1 fun h' B => ⟨B.ext, B.put1 wsz wsz1 fun h' B => ⟨B.ext, B.put0 wsz wsz1 fun h' B => leaf _ _ _ _ B.v2 B.v1 B.v0 B.ext B.n0⟩⟩⟩⟩⟩⟩, B.make fun h' x' B => ⟨B.ext, ⟨keys_spec fun h' x' => have B := B.on x'; ⟨_, rfl, B.ext, B.make fun h' x' B => ⟨B.ext, B.put2 wsz wsz1 fun h' B => ⟨B.ext, B.put0 wsz wsz1 fun h' B => ⟨B.ext, B.put1 wsz wsz1 fun h' B => leaf _ _ _ _ B.v2 B.v0 B.v1 B.ext B.n1⟩⟩⟩⟩, B.make fun h' x' B => ⟨B.ext, keys_spec fun h' x' => have B := B.on x'; ⟨_, rfl, B.ext, B.put2 wsz wsz1 fun h' B => ⟨B.ext, B.put0 wsz wsz1 fun h' B => ⟨B.ext, B.put1 wsz wsz1 fun h' B => leaf _ _ _ _ B.v2 B.v0 B.v1 B.ext B.n1⟩⟩⟩⟩⟩⟩⟩⟩⟩, ⟨B.make fun h' x' B => ⟨B.ext, ⟨keys_spec fun h' x' => have B := B.on x'; ⟨_, rfl, B.ext, ⟨B.make fun h' x' B => ⟨B.ext, B.make fun h' x' B => ⟨B.ext, B.put1 wsz wsz1 fun h' B => ⟨B.ext, B.put2 wsz wsz1 fun h' B => ⟨B.ext, B.put0 wsz wsz1 fun h' B => leaf _ _ _ _ B.v1 B.v2 B.v0 B.ext B.n0⟩⟩⟩⟩, B.make fun h' x' B => ⟨B.ext, B.make fun h' x' B => ⟨B.ext, B.put0 wsz wsz1 fun h' B => ⟨B.ext, B.put2 wsz wsz1 fun h' B => ⟨B.ext, B.put1 wsz wsz1 fun h' B => leaf _ _ _ _ B.v0 B.v2 B.v1 B.ext B.n1⟩⟩⟩⟩⟩⟩, ⟨B.make fun h' x' B => ⟨B.ext, ⟨keys_spec fun h' x' => have B := B.on x'; ⟨_, rfl, B.ext, B.make fun h' x' B => ⟨B.ext, B.put1 wsz wsz1 fun h' B => ⟨B.ext, B.put2 wsz wsz1 fun h' B => ⟨B.ext, B.put0 wsz wsz1 fun h' B => leaf _ _ _ _ B.v1 B.v2 B.v0 B.ext B.n0⟩⟩⟩⟩, B.make fun h' x' B => ⟨B.ext, keys_spec fun h' x' => have B := B.on x'; ⟨_, rfl, B.ext, B.put1 wsz wsz1 fun h' B => ⟨B.ext, B.put2 wsz wsz1 fun h' B => ⟨B.ext, B.put0 wsz wsz1 fun h' B => leaf _ _ _ _ B.v1 B.v2 B.v0 B.ext B.n0⟩⟩⟩⟩⟩⟩, B.make fun h' x' B => ⟨B.ext, ⟨keys_spec fun h' x' => have B := B.on x'; ⟨_, rfl, B.ext, B.make fun h' x' B => ⟨B.ext, B.put0 wsz wsz1 fun h' B => ⟨B.ext, B.put2 wsz wsz1 fun h' B => ⟨B.ext, B.put1 wsz wsz1 fun h' B => leaf _ _ _ _ B.v0 B.v2 B.v1 B.ext B.n1⟩⟩⟩⟩, B.make fun h' x' B => ⟨B.ext, keys_spec fun h' x' => have B := B.on x'; ⟨_, rfl, B.ext, B.put0 wsz wsz1 fun h' B => ⟨B.ext, B.put2 wsz wsz1 fun h' B => ⟨B.ext, B.put1 wsz wsz1 fun h' B => leaf _ _ _ _ B.v0 B.v2 B.v1 B.ext B.n1⟩⟩⟩⟩⟩⟩⟩⟩⟩, B.make fun h' x' B => ⟨B.ext, ⟨keys_spec fun h' x' => have B := B.on x'; ⟨_, rfl, B.ext, ⟨B.make fun h' x' B => ⟨B.ext, B.make fun h' x' B => ⟨B.ext, B.put1 wsz wsz1 fun h' B => ⟨B.ext, B.put0 wsz wsz1 fun h' B => ⟨B.ext, B.put2 wsz wsz1 fun h' B => leaf _ _ _ _ B.v1 B.v0 B.v2 B.ext B.n2⟩⟩⟩⟩, B.make fun h' x' B => ⟨B.ext, B.make fun h' x' B => ⟨B.ext, B.put0 wsz wsz1 fun h' B => ⟨B.ext, B.put1 wsz wsz1 fun h' B => ⟨B.ext, B.put2 wsz wsz1 fun h' B => leaf _ _ _ _ B.v0 B.v1 B.v2 B.ext B.n2⟩⟩⟩⟩⟩⟩, ⟨B.make fun h' x' B => ⟨B.ext, ⟨keys_spec fun h' x' => have B := B.on x'; ⟨_, rfl, B.ext, B.make fun h' x' B => ⟨B.ext, B.put1 wsz wsz1 fun h' B => ⟨B.ext, B.put0 wsz wsz1 fun h' B => ⟨B.ext, B.put2 wsz wsz1 fun h' B => leaf _ _ _ _ B.v1 B.v0 B.v2 B.ext B.n2⟩⟩⟩⟩, B.make fun h' x' B => ⟨B.ext, keys_spec fun h' x' => have B := B.on x'; ⟨_, rfl, B.ext, B.put1 wsz wsz1 fun h' B => ⟨B.ext, B.put0 wsz wsz1 fun h' B => ⟨B.ext, B.put2 wsz wsz1 fun h' B => leaf _ _ _ _ B.v1 B.v0 B.v2 B.ext B.n2⟩⟩⟩⟩⟩⟩, B.make fun h' x' B => ⟨B.ext, ⟨keys_spec fun h' x' => have B := B.on x'; ⟨_, rfl, B.ext, B.make fun h' x' B => ⟨B.ext, B.put0 wsz wsz1 fun h' B => ⟨B.ext, B.put1 wsz wsz1 fun h' B => ⟨B.ext, B.put2 wsz wsz1 fun h' B => leaf _ _ _ _ B.v0 B.v1 B.v2 B.ext B.n2⟩⟩⟩⟩, B.make fun h' x' B => ⟨B.ext, keys_spec fun h' x' => have B := B.on x'; ⟨_, rfl, B.ext, B.put0 wsz wsz1 fun h' B => ⟨B.ext, B.put1 wsz wsz1 fun h' B => ⟨B.ext, B.put2 wsz wsz1 fun h' B => leaf _ _ _ _ B.v0 B.v1 B.v2 B.ext B.n2⟩⟩⟩⟩⟩⟩⟩⟩⟩⟩⟩⟩⟩, ⟨B.make fun h' x' B => ⟨B.ext, ⟨lay_spec (bs := bs) (e.ext B.ext) hl fun h' x' => have B := B.on x'; ⟨_, rfl, B.ext, ⟨keys_spec fun h' x' => have B := B.on x'; ⟨_, rfl, B.ext, ⟨B.make fun h' x' B => ⟨B.ext, B.make fun h' x' B => ⟨B.ext, B.put2 wsz wsz1 fun h' B => ⟨B.ext, B.put1 wsz wsz1 fun h' B => ⟨B.ext, B.put0 wsz wsz1 fun h' B => leaf _ _ _ _ B.v2 B.v1 B.v0 B.ext B.n0⟩⟩⟩⟩, B.make fun h' x' B => ⟨B.ext, B.make fun h' x' B => ⟨B.ext, B.put2 wsz wsz1 fun h' B => ⟨B.ext, B.put0 wsz wsz1 fun h' B => ⟨B.ext, B.put1 wsz wsz1 fun h' B => leaf _ _ _ _ B.v2 B.v0 B.v1 B.ext B.n1⟩⟩⟩⟩⟩⟩, ⟨B.make fun h' x' B => ⟨B.ext, ⟨keys_spec fun h' x' => have B := B.on x'; ⟨_, rfl, B.ext, B.make fun h' x' B => ⟨B.ext, B.put2 wsz wsz1 fun h' B => ⟨B.ext, B.put1 wsz wsz1 fun h' B => ⟨B.ext, B.put0 wsz wsz1 fun h' B => leaf _ _ _ _ B.v2 B.v1 B.v0 B.ext B.n0⟩⟩⟩⟩, B.make fun h' x' B => ⟨B.ext, keys_spec fun h' x' => have B := B.on x'; ⟨_, rfl, B.ext, B.put2 wsz wsz1 fun h' B => ⟨B.ext, B.put1 wsz wsz1 fun h' B => ⟨B.ext, B.put0 wsz wsz1 fun h' B => leaf _ _ _ _ B.v2 B.v1 B.v0 B.ext B.n0⟩⟩⟩⟩⟩⟩, B.make fun h' x' B => ⟨B.ext, ⟨keys_spec fun h' x' => have B := B.on x'; ⟨_, rfl, B.ext, B.make fun h' x' B => ⟨B.ext, B.put2 wsz wsz1 fun h' B => ⟨B.ext, B.put0 wsz wsz1 fun h' B => ⟨B.ext, B.put1 wsz wsz1 fun h' B => leaf _ _ _ _ B.v2 B.v0 B.v1 B.ext B.n1⟩⟩⟩⟩, B.make fun h' x' B => ⟨B.ext, keys_spec fun h' x' => have B := B.on x'; ⟨_, rfl, B.ext, B.put2 wsz wsz1 fun h' B => ⟨B.ext, B.put0 wsz wsz1 fun h' B => ⟨B.ext, B.put1 wsz wsz1 fun h' B => leaf _ _ _ _ B.v2 B.v0 B.v1 B.ext B.n1⟩⟩⟩⟩⟩⟩⟩⟩⟩, ⟨B.make fun h' x' B => ⟨B.ext, ⟨lay_spec (bs := bs) (e.ext B.ext) hl fun h' x' => have B := B.on x'; ⟨_, rfl, B.ext, ⟨keys_spec fun h' x' => have B := B.on x'; ⟨_, rfl, B.ext, B.make fun h' x' B => ⟨B.ext, B.put2 wsz wsz1 fun h' B => ⟨B.ext, B.put1 wsz wsz1 fun h' B => ⟨B.ext, B.put0 wsz wsz1 fun h' B => leaf _ _ _ _ B.v2 B.v1 B.v0 B.ext B.n0⟩⟩⟩⟩, B.make fun h' x' B => ⟨B.ext, keys_spec fun h' x' => have B := B.on x'; ⟨_, rfl, B.ext, B.put2 wsz wsz1 fun h' B => ⟨B.ext, B.put1 wsz wsz1 fun h' B => ⟨B.ext, B.put0 wsz wsz1 fun h' B => leaf _ _ _ _ B.v2 B.v1 B.v0 B.ext B.n0⟩⟩⟩⟩⟩⟩, B.make fun h' x' B => ⟨B.ext, lay_spec (bs := bs) (e.ext B.ext) hl fun h' x' => have B := B.on x'; ⟨_, rfl, B.ext, keys_spec fun h' x' => have B := B.on x'; ⟨_, rfl, B.ext, B.put2 wsz wsz1 fun h' B => ⟨B.ext, B.put1 wsz wsz1 fun h' B => ⟨B.ext, B.put0 wsz wsz1 fun h' B => leaf _ _ _ _ B.v2 B.v1 B.v0 B.ext B.n0⟩⟩⟩⟩⟩⟩⟩, B.make fun h' x' B => ⟨B.ext, ⟨lay_spec (bs := bs) (e.ext B.ext) hl fun h' x' => have B := B.on x'; ⟨_, rfl, B.ext, ⟨keys_spec fun h' x' => have B := B.on x'; ⟨_, rfl, B.ext, B.make fun h' x' B => ⟨B.ext, B.put2 wsz wsz1 fun h' B => ⟨B.ext, B.put0 wsz wsz1 fun h' B => ⟨B.ext, B.put1 wsz wsz1 fun h' B => leaf _ _ _ _ B.v2 B.v0 B.v1 B.ext B.n1⟩⟩⟩⟩, B.make fun h' x' B => ⟨B.ext, keys_spec fun h' x' => have B := B.on x'; ⟨_, rfl, B.ext, B.put2 wsz wsz1 fun h' B => ⟨B.ext, B.put0 wsz wsz1 fun h' B => ⟨B.ext, B.put1 wsz wsz1 fun h' B => leaf _ _ _ _ B.v2 B.v0 B.v1 B.ext B.n1⟩⟩⟩⟩⟩⟩, B.make fun h' x' B => ⟨B.ext, lay_spec (bs := bs) (e.ext B.ext) hl fun h' x' => have B := B.on x'; ⟨_, rfl, B.ext, keys_spec fun h' x' => have B := B.on x'; ⟨_, rfl, B.ext, B.put2 wsz wsz1 fun h' B => ⟨B.ext, B.put0 wsz wsz1 fun h' B => ⟨B.ext, B.put1 wsz wsz1 fun h' B => leaf _ _ _ _ B.v2 B.v0 B.v1 B.ext B.n1⟩⟩⟩⟩⟩⟩⟩⟩⟩⟩, ⟨B.make fun h' x' B => ⟨B.ext, ⟨lay_spec (bs := bs) (e.ext B.ext) hl fun h' x' => have B := B.on x'; ⟨_, rfl, B.ext, ⟨keys_spec fun h' x' => have B := B.on x'; ⟨_, rfl, B.ext, ⟨B.make fun h' x' B => ⟨B.ext, B.make fun h' x' B => ⟨B.ext, B.put1 wsz wsz1 fun h' B => ⟨B.ext, B.put2 wsz wsz1 fun h' B => ⟨B.ext, B.put0 wsz wsz1 fun h' B => leaf _ _ _ _ B.v1 B.v2 B.v0 B.ext B.n0⟩⟩⟩⟩, B.make fun h' x' B => ⟨B.ext, B.make fun h' x' B => ⟨B.ext, B.put0 wsz wsz1 fun h' B => ⟨B.ext, B.put2 wsz wsz1 fun h' B => ⟨B.ext, B.put1 wsz wsz1 fun h' B => leaf _ _ _ _ B.v0 B.v2 B.v1 B.ext B.n1⟩⟩⟩⟩⟩⟩, ⟨B.make fun h' x' B => ⟨B.ext, ⟨keys_spec fun h' x' => have B := B.on x'; ⟨_, rfl, B.ext, B.make fun h' x' B => ⟨B.ext, B.put1 wsz wsz1 fun h' B => ⟨B.ext, B.put2 wsz wsz1 fun h' B => ⟨B.ext, B.put0 wsz wsz1 fun h' B => leaf _ _ _ _ B.v1 B.v2 B.v0 B.ext B.n0⟩⟩⟩⟩, B.make fun h' x' B => ⟨B.ext, keys_spec fun h' x' => have B := B.on x'; ⟨_, rfl, B.ext, B.put1 wsz wsz1 fun h' B => ⟨B.ext, B.put2 wsz wsz1 fun h' B => ⟨B.ext, B.put0 wsz wsz1 fun h' B => leaf _ _ _ _ B.v1 B.v2 B.v0 B.ext B.n0⟩⟩⟩⟩⟩⟩, B.make fun h' x' B => ⟨B.ext, ⟨keys_spec fun h' x' => have B := B.on x'; ⟨_, rfl, B.ext, B.make fun h' x' B => ⟨B.ext, B.put0 wsz wsz1 fun h' B => ⟨B.ext, B.put2 wsz wsz1 fun h' B => ⟨B.ext, B.put1 wsz wsz1 fun h' B => leaf _ _ _ _ B.v0 B.v2 B.v1 B.ext B.n1⟩⟩⟩⟩, B.make fun h' x' B => ⟨B.ext, keys_spec fun h' x' => have B := B.on x'; ⟨_, rfl, B.ext, B.put0 wsz wsz1 fun h' B => ⟨B.ext, B.put2 wsz wsz1 fun h' B => ⟨B.ext, B.put1 wsz wsz1 fun h' B => leaf _ _ _ _ B.v0 B.v2 B.v1 B.ext B.n1⟩⟩⟩⟩⟩⟩⟩⟩⟩, ⟨B.make fun h' x' B => ⟨B.ext, ⟨lay_spec (bs := bs) (e.ext B.ext) hl fun h' x' => have B := B.on x'; ⟨_, rfl, B.ext, ⟨keys_spec fun h' x' => have B := B.on x'; ⟨_, rfl, B.ext, B.make fun h' x' B => ⟨B.ext, B.put1 wsz wsz1 fun h' B => ⟨B.ext, B.put2 wsz wsz1 fun h' B => ⟨B.ext, B.put0 wsz wsz1 fun h' B => leaf _ _ _ _ B.v1 B.v2 B.v0 B.ext B.n0⟩⟩⟩⟩, B.make fun h' x' B => ⟨B.ext, keys_spec fun h' x' => have B := B.on x'; ⟨_, rfl, B.ext, B.put1 wsz wsz1 fun h' B => ⟨B.ext, B.put2 wsz wsz1 fun h' B => ⟨B.ext, B.put0 wsz wsz1 fun h' B => leaf _ _ _ _ B.v1 B.v2 B.v0 B.ext B.n0⟩⟩⟩⟩⟩⟩, B.make fun h' x' B => ⟨B.ext, lay_spec (bs := bs) (e.ext B.ext) hl fun h' x' => have B := B.on x'; ⟨_, rfl, B.ext, keys_spec fun h' x' => have B := B.on x'; ⟨_, rfl, B.ext, B.put1 wsz wsz1 fun h' B => ⟨B.ext, B.put2 wsz wsz1 fun h' B => ⟨B.ext, B.put0 wsz wsz1 fun h' B => leaf _ _ _ _ B.v1 B.v2 B.v0 B.ext B.n0⟩⟩⟩⟩⟩⟩⟩, B.make fun h' x' B => ⟨B.ext, ⟨lay_spec (bs := bs) (e.ext B.ext) hl fun h' x' => have B := B.on x'; ⟨_, rfl, B.ext, ⟨keys_spec fun h' x' => have B := B.on x'; ⟨_, rfl, B.ext, B.make fun h' x' B => ⟨B.ext, B.put0 wsz wsz1 fun h' B => ⟨B.ext, B.put2 wsz wsz1 fun h' B => ⟨B.ext, B.put1 wsz wsz1 fun h' B => leaf _ _ _ _ B.v0 B.v2 B.v1 B.ext B.n1⟩⟩⟩⟩, B.make fun h' x' B => ⟨B.ext, keys_spec fun h' x' => have B := B.on x'; ⟨_, rfl, B.ext, B.put0 wsz wsz1 fun h' B => ⟨B.ext, B.put2 wsz wsz1 fun h' B => ⟨B.ext, B.put1 wsz wsz1 fun h' B => leaf _ _ _ _ B.v0 B.v2 B.v1 B.ext B.n1⟩⟩⟩⟩⟩⟩, B.make fun h' x' B => ⟨B.ext, lay_spec (bs := bs) (e.ext B.ext) hl fun h' x' => have B := B.on x'; ⟨_, rfl, B.ext, keys_spec fun h' x' => have B := B.on x'; ⟨_, rfl, B.ext, B.put0 wsz wsz1 fun h' B => ⟨B.ext, B.put2 wsz wsz1 fun h' B => ⟨B.ext, B.put1 wsz wsz1 fun h' B => leaf _ _ _ _ B.v0 B.v2 B.v1 B.ext B.n1⟩⟩⟩⟩⟩⟩⟩⟩⟩⟩, B.make fun h' x' B => ⟨B.ext, ⟨lay_spec (bs := bs) (e.ext B.ext) hl fun h' x' => have B := B.on x'; ⟨_, rfl, B.ext, ⟨keys_spec fun h' x' => have B := B.on x'; ⟨_, rfl, B.ext, ⟨B.make fun h' x' B => ⟨B.ext, B.make fun h' x' B => ⟨B.ext, B.put1 wsz wsz1 fun h' B => ⟨B.ext, B.put0 wsz wsz1 fun h' B => ⟨B.ext, B.put2 wsz wsz1 fun h' B => leaf _ _ _ _ B.v1 B.v0 B.v2 B.ext B.n2⟩⟩⟩⟩, B.make fun h' x' B => ⟨B.ext, B.make fun h' x' B => ⟨B.ext, B.put0 wsz wsz1 fun h' B => ⟨B.ext, B.put1 wsz wsz1 fun h' B => ⟨B.ext, B.put2 wsz wsz1 fun h' B => leaf _ _ _ _ B.v0 B.v1 B.v2 B.ext B.n2⟩⟩⟩⟩⟩⟩, ⟨B.make fun h' x' B => ⟨B.ext, ⟨keys_spec fun h' x' => have B := B.on x'; ⟨_, rfl, B.ext, B.make fun h' x' B => ⟨B.ext, B.put1 wsz wsz1 fun h' B => ⟨B.ext, B.put0 wsz wsz1 fun h' B => ⟨B.ext, B.put2 wsz wsz1 fun h' B => leaf _ _ _ _ B.v1 B.v0 B.v2 B.ext B.n2⟩⟩⟩⟩, B.make fun h' x' B => ⟨B.ext, keys_spec fun h' x' => have B := B.on x'; ⟨_, rfl, B.ext, B.put1 wsz wsz1 fun h' B => ⟨B.ext, B.put0 wsz wsz1 fun h' B => ⟨B.ext, B.put2 wsz wsz1 fun h' B => leaf _ _ _ _ B.v1 B.v0 B.v2 B.ext B.n2⟩⟩⟩⟩⟩⟩, B.make fun h' x' B => ⟨B.ext, ⟨keys_spec fun h' x' => have B := B.on x'; ⟨_, rfl, B.ext, B.make fun h' x' B => ⟨B.ext, B.put0 wsz wsz1 fun h' B => ⟨B.ext, B.put1 wsz wsz1 fun h' B => ⟨B.ext, B.put2 wsz wsz1 fun h' B => leaf _ _ _ _ B.v0 B.v1 B.v2 B.ext B.n2⟩⟩⟩⟩, B.make fun h' x' B => ⟨B.ext, keys_spec fun h' x' => have B := B.on x'; ⟨_, rfl, B.ext, B.put0 wsz wsz1 fun h' B => ⟨B.ext, B.put1 wsz wsz1 fun h' B => ⟨B.ext, B.put2 wsz wsz1 fun h' B => leaf _ _ _ _ B.v0 B.v1 B.v2 B.ext B.n2⟩⟩⟩⟩⟩⟩⟩⟩⟩, ⟨B.make fun h' x' B => ⟨B.ext, ⟨lay_spec (bs := bs) (e.ext B.ext) hl fun h' x' => have B := B.on x'; ⟨_, rfl, B.ext, ⟨keys_spec fun h' x' => have B := B.on x'; ⟨_, rfl, B.ext, B.make fun h' x' B => ⟨B.ext, B.put1 wsz wsz1 fun h' B => ⟨B.ext, B.put0 wsz wsz1 fun h' B => ⟨B.ext, B.put2 wsz wsz1 fun h' B => leaf _ _ _ _ B.v1 B.v0 B.v2 B.ext B.n2⟩⟩⟩⟩, B.make fun h' x' B => ⟨B.ext, keys_spec fun h' x' => have B := B.on x'; ⟨_, rfl, B.ext, B.put1 wsz wsz1 fun h' B => ⟨B.ext, B.put0 wsz wsz1 fun h' B => ⟨B.ext, B.put2 wsz wsz1 fun h' B => leaf _ _ _ _ B.v1 B.v0 B.v2 B.ext B.n2⟩⟩⟩⟩⟩⟩, B.make fun h' x' B => ⟨B.ext, lay_spec (bs := bs) (e.ext B.ext) hl fun h' x' => have B := B.on x'; ⟨_, rfl, B.ext, keys_spec fun h' x' => have B := B.on x'; ⟨_, rfl, B.ext, B.put1 wsz wsz1 fun h' B => ⟨B.ext, B.put0 wsz wsz1 fun h' B => ⟨B.ext, B.put2 wsz wsz1 fun h' B => leaf _ _ _ _ B.v1 B.v0 B.v2 B.ext B.n2⟩⟩⟩⟩⟩⟩⟩, B.make fun h' x' B => ⟨B.ext, ⟨lay_spec (bs := bs) (e.ext B.ext) hl fun h' x' => have B := B.on x'; ⟨_, rfl, B.ext, ⟨keys_spec fun h' x' => have B := B.on x'; ⟨_, rfl, B.ext, B.make fun h' x' B => ⟨B.ext, B.put0 wsz wsz1 fun h' B => ⟨B.ext, B.put1 wsz wsz1 fun h' B => ⟨B.ext, B.put2 wsz wsz1 fun h' B => leaf _ _ _ _ B.v0 B.v1 B.v2 B.ext B.n2⟩⟩⟩⟩, B.make fun h' x' B => ⟨B.ext, keys_spec fun h' x' => have B := B.on x'; ⟨_, rfl, B.ext, B.put0 wsz wsz1 fun h' B => ⟨B.ext, B.put1 wsz wsz1 fun h' B => ⟨B.ext, B.put2 wsz wsz1 fun h' B => leaf _ _ _ _ B.v0 B.v1 B.v2 B.ext B.n2⟩⟩⟩⟩⟩⟩, B.make fun h' x' B => ⟨B.ext, lay_spec (bs := bs) (e.ext B.ext) hl fun h' x' => have B := B.on x'; ⟨_, rfl, B.ext, keys_spec fun h' x' => have B := B.on x'; ⟨_, rfl, B.ext, B.put0 wsz wsz1 fun h' B => ⟨B.ext, B.put1 wsz wsz1 fun h' B => ⟨B.ext, B.put2 wsz wsz1 fun h' B => leaf _ _ _ _ B.v0 B.v1 B.v2 B.ext B.n2⟩⟩⟩⟩⟩⟩⟩⟩⟩⟩⟩⟩⟩

end
end Go.Proofs.Ytgdhddignbkloaa.Board
