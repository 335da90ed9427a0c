/- Texts that the proof needs, joined: ShaT, LeA, LeA2, LeA3, RefA, RefB, RefC, RefD, ShaG, LeB, BoardD, VcQ, Shelf, BoardE, BoardF, SizeG, GenP, VcU, VtP, VcW, SumP, PoolA, HeadP, MapG, TreeP, TableP, GateP, Nums, TreeW, TreeX, BoxP, TwoApp, TreeN, WeighW, LessW, RankW, SumQ, NextW, ApplyW. -/
import Derived.Shelf.SlSortCmp.NoneTotal
import Derived.Ground.SlsfProg
import Derived.Test.YtennbinbffdimaaGreatProg
import Derived.Deep.Strs
import Derived.Test.YtennbinbffdimaaGreatPkC

section
/- Digests: what take makes of a block of 64 bytes. -/
namespace Go.Proofs.YtennbinbffdimaaGreat.Board
open Go Go.Vc
set_option maxRecDepth 10000

def t4 (n_17 n_2 n_7 n_8 n_9 n_1 n_3 n_4 n_5 n_6 : Int) : Int := (IntKind.wrap IntKind.u32 (n_17 + IntKind.wrap IntKind.u32 (IntKind.wrap IntKind.u32 (IntKind.wrap IntKind.u32 (IntKind.wrap IntKind.u32 (n_2 + IntKind.wrap IntKind.u32 (↑(BitVec.toNat (BitVec.ofInt (IntKind.bits IntKind.u32) (IntKind.wrap IntKind.u32 (↑(BitVec.toNat (BitVec.ofInt (IntKind.bits IntKind.u32) n_7 ^^^ BitVec.ofInt (IntKind.bits IntKind.u32) n_8)) : Int)) ^^^ BitVec.ofInt (IntKind.bits IntKind.u32) n_9)) : Int)) + IntKind.wrap IntKind.u32 (↑(BitVec.toNat (BitVec.ofInt (IntKind.bits IntKind.u32) (IntKind.wrap IntKind.u32 (↑(BitVec.toNat (BitVec.ofInt (IntKind.bits IntKind.u32) n_1 &&& BitVec.ofInt (IntKind.bits IntKind.u32) n_3)) : Int)) ^^^ BitVec.ofInt (IntKind.bits IntKind.u32) (IntKind.wrap IntKind.u32 (↑(BitVec.toNat (BitVec.ofInt (IntKind.bits IntKind.u32) (IntKind.wrap IntKind.u32 (↑(BitVec.toNat (BitVec.ofInt (IntKind.bits IntKind.u32) (if IntKind.signed IntKind.u32 = true then (-1 : Int) else IntKind.max IntKind.u32) ^^^ BitVec.ofInt (IntKind.bits IntKind.u32) n_1)) : Int)) &&& BitVec.ofInt (IntKind.bits IntKind.u32) n_4)) : Int)))) : Int)) + n_5) + n_6)))
def t0 (n_2 n_7 n_8 n_9 n_1 n_3 n_4 n_5 n_6 n_14 n_15 n_16 n n_10 n_11 n_12 n_13 : Int) : Int := (IntKind.wrap IntKind.u32 (IntKind.wrap IntKind.u32 (IntKind.wrap IntKind.u32 (IntKind.wrap IntKind.u32 (IntKind.wrap IntKind.u32 (n_2 + IntKind.wrap IntKind.u32 (↑(BitVec.toNat (BitVec.ofInt (IntKind.bits IntKind.u32) (IntKind.wrap IntKind.u32 (↑(BitVec.toNat (BitVec.ofInt (IntKind.bits IntKind.u32) n_7 ^^^ BitVec.ofInt (IntKind.bits IntKind.u32) n_8)) : Int)) ^^^ BitVec.ofInt (IntKind.bits IntKind.u32) n_9)) : Int)) + IntKind.wrap IntKind.u32 (↑(BitVec.toNat (BitVec.ofInt (IntKind.bits IntKind.u32) (IntKind.wrap IntKind.u32 (↑(BitVec.toNat (BitVec.ofInt (IntKind.bits IntKind.u32) n_1 &&& BitVec.ofInt (IntKind.bits IntKind.u32) n_3)) : Int)) ^^^ BitVec.ofInt (IntKind.bits IntKind.u32) (IntKind.wrap IntKind.u32 (↑(BitVec.toNat (BitVec.ofInt (IntKind.bits IntKind.u32) (IntKind.wrap IntKind.u32 (↑(BitVec.toNat (BitVec.ofInt (IntKind.bits IntKind.u32) (if IntKind.signed IntKind.u32 = true then (-1 : Int) else IntKind.max IntKind.u32) ^^^ BitVec.ofInt (IntKind.bits IntKind.u32) n_1)) : Int)) &&& BitVec.ofInt (IntKind.bits IntKind.u32) n_4)) : Int)))) : Int)) + n_5) + n_6) + IntKind.wrap IntKind.u32 (IntKind.wrap IntKind.u32 (↑(BitVec.toNat (BitVec.ofInt (IntKind.bits IntKind.u32) (IntKind.wrap IntKind.u32 (↑(BitVec.toNat (BitVec.ofInt (IntKind.bits IntKind.u32) n_14 ^^^ BitVec.ofInt (IntKind.bits IntKind.u32) n_15)) : Int)) ^^^ BitVec.ofInt (IntKind.bits IntKind.u32) n_16)) : Int) + IntKind.wrap IntKind.u32 (↑(BitVec.toNat (BitVec.ofInt (IntKind.bits IntKind.u32) (IntKind.wrap IntKind.u32 (↑(BitVec.toNat (BitVec.ofInt (IntKind.bits IntKind.u32) (IntKind.wrap IntKind.u32 (↑(BitVec.toNat (BitVec.ofInt (IntKind.bits IntKind.u32) n &&& BitVec.ofInt (IntKind.bits IntKind.u32) n_10)) : Int)) ^^^ BitVec.ofInt (IntKind.bits IntKind.u32) (IntKind.wrap IntKind.u32 (↑(BitVec.toNat (BitVec.ofInt (IntKind.bits IntKind.u32) n &&& BitVec.ofInt (IntKind.bits IntKind.u32) n_11)) : Int)))) : Int)) ^^^ BitVec.ofInt (IntKind.bits IntKind.u32) (IntKind.wrap IntKind.u32 (↑(BitVec.toNat (BitVec.ofInt (IntKind.bits IntKind.u32) n_12 &&& BitVec.ofInt (IntKind.bits IntKind.u32) n_13)) : Int)))) : Int))))

/-- The words, each one place on. -/
def shift (v : Ws 8) : Ws 8 := ⟨v.l.take 1 ++ v.l.take 7, by simp [v.h]⟩

def roundW (w k : Ws 64) (i : Nat) (v : Ws 8) : Ws 8 :=
  ((shift v).set 4 (t4 (wd (shift v) 4) (wd v 7) (turnF (wd v 4) 6) (turnF (wd v 4) 11) (turnF (wd v 4) 25) (wd v 4) (wd v 5) (wd v 6) (wd k i) (wd w i))).set 0
    (t0 (wd v 7) (turnF (wd v 4) 6) (turnF (wd v 4) 11) (turnF (wd v 4) 25) (wd v 4) (wd v 5) (wd v 6) (wd k i) (wd w i) (turnF (wd v 0) 2) (turnF (wd v 0) 13) (turnF (wd v 0) 22) (wd v 0) (wd v 1) (wd v 2) (wd v 1) (wd v 2))

def roundsW (w k : Ws 64) (v : Ws 8) : Nat → Ws 8
  | 0 => v
  | i + 1 => roundW w k i (roundsW w k v i)

def sumW (w v : Ws 8) : Nat → Ws 8
  | 0 => w
  | i + 1 => (sumW w v i).set i (IntKind.wrap .u32 (wd (sumW w v i) i + wd v i))

def takeF (w : Ws 8) (bs : List UInt8) : Ws 8 := sumW w (roundsW (layF bs) keysW w 64) 8

section
variable {R : Value → Heap → Prop} {h : Heap}

theorem copy_in {T : TypeId} {b : Nat} {k : IntKind} {x : Ws 8} {K : Heap → Prop} {P : Prop} (v : Var T h b (.words k 8 x))
    (hk : ∀ h1, Var T h1 b (.words k 8 (shift x)) → Only (· = b) h h1 → h1.size = h.size → K h1) :
    ∃ new : List Value, slAt h (Sl.mk (cutSl (Sl.mk (some (Vc.Loc.mk b 0)) 8 8) 0 (Int.toNat 7) 1).a (Nat.min (cutSl (Sl.mk (some (Vc.Loc.mk b 0)) 8 8) 0 (Int.toNat 7) 1).len (cutSl (Sl.mk (some (Vc.Loc.mk b 0)) 8 8) (Int.toNat 1) 8 1).len)
        (Nat.min (cutSl (Sl.mk (some (Vc.Loc.mk b 0)) 8 8) 0 (Int.toNat 7) 1).len (cutSl (Sl.mk (some (Vc.Loc.mk b 0)) 8 8) (Int.toNat 1) 8 1).len)) 1 new ∧ (∀ (v : Value), v ∈ new → isOne v = true) ∧
      ((cutSl (Sl.mk (some (Vc.Loc.mk b 0)) 8 8) (Int.toNat 1) 8 1).a = none → P) ∧
      ∀ (l_2 : Vc.Loc), (cutSl (Sl.mk (some (Vc.Loc.mk b 0)) 8 8) (Int.toNat 1) 8 1).a = some l_2 → wok h l_2.b l_2.o (List.length new) ∧ Bind (putl h l_2.b l_2.o new) K := by
  have hx := x.h
  have hcl : (TV.words k 8 x).cells.length = 8 := by rw [TV.cells_length]; rfl
  refine ⟨(x.l.take 7).map (Value.int k), ⟨?_, .inr ⟨⟨b, 0⟩, rfl, fun j hj => ?_⟩⟩, ?_, ?_, ?_⟩
  · simp [hx, cutSl]
  · simp only [List.length_map, List.length_take, hx] at hj
    have h1 : cel h b j = some (.int k (wd x j)) := by
      have := v.at j (by omega)
      rw [Nat.zero_add] at this
      exact this
    show cel h b (0 + 0 * 1 + j) = _
    have e0 : 0 + 0 * 1 + j = j := by omega
    rw [e0, h1]
    simp only [List.getElem?_map, List.getElem?_take, show j < 7 by omega, if_true]
    unfold wd
    rw [List.getD_eq_getElem?_getD, List.getElem?_eq_getElem (by omega)]
    rfl
  · intro v hv
    obtain ⟨a, _, rfl⟩ := List.mem_map.1 hv
    rfl
  · intro hn
    cases hn
  · intro l hl
    have hl' : l = ⟨b, 1⟩ := by
      have : some (Vc.Loc.mk b (0 + 1 * 1)) = some l := hl
      injection this with this
      exact this.symm
    subst hl'
    have hlen : ((x.l.take 7).map (Value.int k)).length = 7 := by simp [hx]
    rw [hlen]
    have hp := putl_get ((x.l.take 7).map (Value.int k)) h b 1 _ T v (by rw [hlen, hcl]; exact Nat.le_refl _)
    refine ⟨v.wok (by simp only [TV.size]; exact Nat.le_refl _), hk _ ?_ ⟨by rw [hp.2.1]; exact Nat.le_refl _, fun b' _ hn => hp.2.2 b' hn⟩ hp.2.1⟩
    unfold Var
    rw [hp.1]
    congr 2
    rw [List.drop_eq_nil_of_le (by rw [hlen, hcl]; exact Nat.le_refl _)]
    simp only [TV.cells, shift, List.map_append, List.map_take, List.append_nil]

theorem put_word_field {T : TypeId} {b n i o : Nat} {k : IntKind} {x : Ws n} {ts : List TV} {c : Int} {K : Heap → Prop} (v : Var T h b (.agg (.words k n x :: ts))) (hi : i < n) (ho : o = i)
    (hk : ∀ h1, Var T h1 b (.agg (.words k n (x.set i c) :: ts)) → Only (· = b) h h1 → h1.size = h.size → K h1) : wok h b o 1 ∧ Bind ((TV.int k c).put h b o) K := by
  subst ho
  have hl : o + (TV.int k c).size ≤ (TV.agg (.words k n x :: ts)).cells.length := by rw [TV.cells_length]; simp only [TV.size, TVs.size]; omega
  refine ⟨v.wok (by simp only [TV.size, TVs.size]; omega), hk _ ?_ (put_only v hl) (put_size v hl)⟩
  have := put_row (t := .int k c) v hl
  unfold Var
  rw [this]
  congr 2
  simp only [TV.cells, TVs.cells, TV.size, Ws.set, List.map_set]
  have hxl : o < (List.map (Value.int k) x.l).length := by rw [List.length_map, x.h]; exact hi
  have hxl' : o + 1 ≤ (List.map (Value.int k) x.l).length := hxl
  rw [List.set_eq_take_append_cons_drop, if_pos hxl, List.take_append_of_le_length (Nat.le_of_lt hxl), List.drop_append_of_le_length hxl']
  simp

theorem _root_.Go.Vc.Var.ne_type {T T' : TypeId} {b b' : Nat} {t t' : TV} (v : Var T h b t) (v' : Var T' h b' t') (hT : T ≠ T') : b ≠ b' := by
  rintro rfl
  unfold Var at v v'
  rw [v] at v'
  injection v' with v'
  unfold row at v'
  injection v' with _ h2
  exact hT h2

theorem word_field {T : TypeId} {b n : Nat} {k : IntKind} {w : Ws n} {ts : List TV} (v : Var T h b (.agg (.words k n w :: ts))) {i : Nat} (hi : i < n) : at1 h b (0 + i * 1) (.int k (wd w i)) := by
  have h0 := v.at
  rw [Nat.mul_one]
  cases ts with
  | nil => exact h0 i hi
  | cons t ts => exact h0.1 i hi

theorem wsz {k : IntKind} {n : Nat} {x y : Ws n} : (TV.words k n x).size = (TV.words k n y).size := by simp only [TV.size]
theorem wsz1 {k : IntKind} {n : Nat} {x : Ws n} : n = (TV.words k n x).size := by simp only [TV.size]

set_option maxHeartbeats 1000000 in
theorem take_takes : Takes takeF := by
  intro h R b w s q bs n v e hl hqb hr
  apply sha_state_take_calls
  unfold sha_state_take_vc
  intro J hJ
  refine ⟨w, v.at.1, ?_⟩
  have leaf : ∀ (a c d : Nat) (hh : Heap), Var 293 hh a (.words .u32 64 (layF bs)) → Var 293 hh c (.words .u32 64 keysW) → Var 289 hh d (.words .u32 8 w) → Ext h hh → h.size ≤ d →
      J (some ⟨a, 0⟩, some ⟨c, 0⟩, some ⟨d, 0⟩) hh := by
    intro a c d hh va vc vd x hd
    have had := va.ne_type vd (by decide)
    have hcd := vc.ne_type vd (by decide)
    refine hJ _ _ ?_
    refine ⟨fun i hk => 0 ≤ i ∧ i ≤ 64 ∧ Only (· = d) hh hk ∧ Var 289 hk d (.words .u32 8 (roundsW (layF bs) keysW w i.toNat)), fun i _ => ((64 : Int) - i).toNat, ⟨Int.le_refl 0, by decide, Only.refl _ _, vd⟩, ?_⟩
    rintro i h1 ⟨i0, i1, o1, v1⟩
    have va1 := va.only o1 had
    have vc1 := vc.only o1 hcd
    refine If.dec.2 ⟨fun hi => ?_, fun hi => ?_⟩
    · rw [wrap_i64 (n := i + 1) (by omega) (by omega)]
      refine ⟨by decide, by decide, _, word_at v1 (by decide), by decide, by decide, _, word_at v1 (by decide), by decide, by decide, _, word_at v1 (by decide), by decide, by decide, _, word_at v1 (by decide), by decide, by decide, _, word_at v1 (by decide),
        i0, by omega, _, word_at vc1 (by omega), i0, by omega, _, word_at va1 (by omega), ?_⟩
      refine turn_spec ⟨_, rfl, Ext.refl _, turn_spec ⟨_, rfl, Ext.refl _, turn_spec ⟨_, rfl, Ext.refl _, ?_⟩⟩⟩
      refine ⟨by decide, by decide, _, word_at v1 (by decide), by decide, by decide, _, word_at v1 (by decide), by decide, by decide, _, word_at v1 (by decide), by decide, by decide, _, word_at v1 (by decide), ?_⟩
      refine turn_spec ⟨_, rfl, Ext.refl _, turn_spec ⟨_, rfl, Ext.refl _, turn_spec ⟨_, rfl, Ext.refl _, ?_⟩⟩⟩
      refine ⟨by decide, by decide, by decide, by decide, ?_⟩
      refine copy_in v1 fun h2 v2 o2 s2 => ?_
      refine ⟨by decide, by decide, _, word_at v2 (by decide), by decide, by decide, ?_⟩
      refine put_word v2 (i := 4) (by decide) rfl fun h3 v3 o3 s3 => ⟨by decide, by decide, ?_⟩
      refine put_word v3 (i := 0) (by decide) rfl fun h4 v4 o4 s4 => ?_
      have hi1 : (i + 1).toNat = i.toNat + 1 := by omega
      refine ⟨⟨by omega, by omega, ((o1.trans o2).trans o3).trans o4, ?_⟩, by first | omega | (dsimp only; omega)⟩
      rw [hi1]
      exact v4
    · have hi2 : i.toNat = 64 := by omega
      rw [hi2] at v1
      have v0 : Var 333 h1 b (.agg [.words .u32 8 w, .slice s, .int .u64 n]) := (v.ext x).only o1 (by have := v.lt; omega)
      have hbd : b ≠ d := by have := v.lt; omega
      refine ⟨fun i hk => 0 ≤ i ∧ i ≤ 8 ∧ Only (· = b) h1 hk ∧ Var 333 hk b (.agg [.words .u32 8 (sumW w (roundsW (layF bs) keysW w 64) i.toNat), .slice s, .int .u64 n]), fun i _ => ((8 : Int) - i).toNat, ⟨Int.le_refl 0, by decide, Only.refl _ _, v0⟩, ?_⟩
      rintro i h2 ⟨j0, j1, o2, v2⟩
      have vd2 := v1.only o2 (Ne.symm hbd)
      refine If.dec.2 ⟨fun hi => ?_, fun hi => ?_⟩
      · rw [wrap_i64 (n := i + 1) (by omega) (by omega)]
        refine ⟨j0, by omega, _, word_field v2 (by omega), j0, by omega, _, word_at vd2 (by omega), j0, by omega, ?_⟩
        refine put_word_field v2 (i := i.toNat) (by omega) (by show 0 + i.toNat * 1 = i.toNat; omega) fun h3 v3 o3 s3 => ?_
        have hi1 : (i + 1).toNat = i.toNat + 1 := by omega
        refine ⟨⟨by omega, by omega, o2.trans o3, ?_⟩, by first | omega | (dsimp only; omega)⟩
        rw [hi1]
        exact v3
      · have hi3 : i.toNat = 8 := by omega
        rw [hi3] at v2
        have x1 : Ext h h1 := Only.cut x o1 fun i hi => by omega
        exact hr h2 v2 ((Only.of_ext x1).trans o2)
  have B := Bag.nil h
  clear hJ hr
  exact ⟨lay_spec (bs := bs) (e.ext B.ext) hl fun h' x' => have B := B.on x'; ⟨_, rfl, B.ext, ⟨keys_spec fun h' x' => have B := B.on x'; ⟨_, rfl, B.ext, ⟨B.make fun h' x' B => ⟨B.ext, ⟨B.make fun h' x' B => ⟨B.ext, B.make fun h' x' B => ⟨B.ext, B.put2 wsz wsz1 fun h' B => ⟨B.ext, B.put1 wsz wsz1 fun h' B => ⟨B.ext, B.put0 wsz wsz1 fun h' B => leaf _ _ _ _ B.v2 B.v1 B.v0 B.ext B.n0⟩⟩⟩⟩, B.make fun h' x' B => ⟨B.ext, B.make fun h' x' B => ⟨B.ext, B.put2 wsz wsz1 fun h' B => ⟨B.ext, B.put0 wsz wsz1 fun h' B => ⟨B.ext, B.put1 wsz wsz1 fun h' B => leaf _ _ _ _ B.v2 B.v0 B.v1 B.ext B.n1⟩⟩⟩⟩⟩⟩, ⟨B.make fun h' x' B => ⟨B.ext, ⟨B.make fun h' x' B => ⟨B.ext, B.make fun h' x' B => ⟨B.ext, B.put1 wsz wsz1 fun h' B => ⟨B.ext, B.put2 wsz wsz1 fun h' B => ⟨B.ext, B.put0 wsz wsz1 fun h' B => leaf _ _ _ _ B.v1 B.v2 B.v0 B.ext B.n0⟩⟩⟩⟩, B.make fun h' x' B => ⟨B.ext, B.make fun h' x' B => ⟨B.ext, B.put0 wsz wsz1 fun h' B => ⟨B.ext, B.put2 wsz wsz1 fun h' B => ⟨B.ext, B.put1 wsz wsz1 fun h' B => leaf _ _ _ _ B.v0 B.v2 B.v1 B.ext B.n1⟩⟩⟩⟩⟩⟩, B.make fun h' x' B => ⟨B.ext, ⟨B.make fun h' x' B => ⟨B.ext, B.make fun h' x' B => ⟨B.ext, B.put1 wsz wsz1 fun h' B => ⟨B.ext, B.put0 wsz wsz1 fun h' B => ⟨B.ext, B.put2 wsz wsz1 fun h' B => leaf _ _ _ _ B.v1 B.v0 B.v2 B.ext B.n2⟩⟩⟩⟩, B.make fun h' x' B => ⟨B.ext, B.make fun h' x' B => ⟨B.ext, B.put0 wsz wsz1 fun h' B => ⟨B.ext, B.put1 wsz wsz1 fun h' B => ⟨B.ext, B.put2 wsz wsz1 fun h' B => leaf _ _ _ _ B.v0 B.v1 B.v2 B.ext B.n2⟩⟩⟩⟩⟩⟩⟩⟩⟩, ⟨B.make fun h' x' B => ⟨B.ext, ⟨keys_spec fun h' x' => have B := B.on x'; ⟨_, rfl, B.ext, ⟨B.make fun h' x' B => ⟨B.ext, B.make fun h' x' B => ⟨B.ext, B.put2 wsz wsz1 fun h' B => ⟨B.ext, B.put1 wsz wsz1 fun h' B => ⟨B.ext, B.put0 wsz wsz1 fun h' B => leaf _ _ _ _ B.v2 B.v1 B.v0 B.ext B.n0⟩⟩⟩⟩, B.make fun h' x' B => ⟨B.ext, B.make fun h' x' B => ⟨B.ext, B.put2 wsz wsz1 fun h' B => ⟨B.ext, B.put0 wsz wsz1 fun h' B => ⟨B.ext, B.put1 wsz wsz1 fun h' B => leaf _ _ _ _ B.v2 B.v0 B.v1 B.ext B.n1⟩⟩⟩⟩⟩⟩, ⟨B.make fun h' x' B => ⟨B.ext, ⟨keys_spec fun h' x' => have B := B.on x'; ⟨_, rfl, B.ext, B.make fun h' x' B => ⟨B.ext, B.put2 wsz wsz1 fun h' B => ⟨B.ext, B.put1 wsz wsz1 fun h' B => ⟨B.ext, B.put0 wsz wsz1 fun h' B => leaf _ _ _ _ B.v2 B.v1 B.v0 B.ext B.n0⟩⟩⟩⟩, B.make fun h' x' B => ⟨B.ext, keys_spec fun h' x' => have B := B.on x'; ⟨_, rfl, B.ext, B.put2 wsz wsz1 fun h' B => ⟨B.ext, B.put1 wsz wsz1 fun h' B => ⟨B.ext, B.put0 wsz wsz1 fun h' B => leaf _ _ _ _ B.v2 B.v1 B.v0 B.ext B.n0⟩⟩⟩⟩⟩⟩, B.make fun h' x' B => ⟨B.ext, ⟨keys_spec fun h' x' => have B := B.on x'; ⟨_, rfl, B.ext, B.make fun h' x' B => ⟨B.ext, B.put2 wsz wsz1 fun h' B => ⟨B.ext, B.put0 wsz wsz1 fun h' B => ⟨B.ext, B.put1 wsz wsz1 fun h' B => leaf _ _ _ _ B.v2 B.v0 B.v1 B.ext B.n1⟩⟩⟩⟩, B.make fun h' x' B => ⟨B.ext, keys_spec fun h' x' => have B := B.on x'; ⟨_, rfl, B.ext, B.put2 wsz wsz1 fun h' B => ⟨B.ext, B.put0 wsz wsz1 fun h' B => ⟨B.ext, B.put1 wsz wsz1 fun h' B => leaf _ _ _ _ B.v2 B.v0 B.v1 B.ext B.n1⟩⟩⟩⟩⟩⟩⟩⟩⟩, ⟨B.make fun h' x' B => ⟨B.ext, ⟨keys_spec fun h' x' => have B := B.on x'; ⟨_, rfl, B.ext, ⟨B.make fun h' x' B => ⟨B.ext, B.make fun h' x' B => ⟨B.ext, B.put1 wsz wsz1 fun h' B => ⟨B.ext, B.put2 wsz wsz1 fun h' B => ⟨B.ext, B.put0 wsz wsz1 fun h' B => leaf _ _ _ _ B.v1 B.v2 B.v0 B.ext B.n0⟩⟩⟩⟩, B.make fun h' x' B => ⟨B.ext, B.make fun h' x' B => ⟨B.ext, B.put0 wsz wsz1 fun h' B => ⟨B.ext, B.put2 wsz wsz1 fun h' B => ⟨B.ext, B.put1 wsz wsz1 fun h' B => leaf _ _ _ _ B.v0 B.v2 B.v1 B.ext B.n1⟩⟩⟩⟩⟩⟩, ⟨B.make fun h' x' B => ⟨B.ext, ⟨keys_spec fun h' x' => have B := B.on x'; ⟨_, rfl, B.ext, B.make fun h' x' B => ⟨B.ext, B.put1 wsz wsz1 fun h' B => ⟨B.ext, B.put2 wsz wsz1 fun h' B => ⟨B.ext, B.put0 wsz wsz1 fun h' B => leaf _ _ _ _ B.v1 B.v2 B.v0 B.ext B.n0⟩⟩⟩⟩, B.make fun h' x' B => ⟨B.ext, keys_spec fun h' x' => have B := B.on x'; ⟨_, rfl, B.ext, B.put1 wsz wsz1 fun h' B => ⟨B.ext, B.put2 wsz wsz1 fun h' B => ⟨B.ext, B.put0 wsz wsz1 fun h' B => leaf _ _ _ _ B.v1 B.v2 B.v0 B.ext B.n0⟩⟩⟩⟩⟩⟩, B.make fun h' x' B => ⟨B.ext, ⟨keys_spec fun h' x' => have B := B.on x'; ⟨_, rfl, B.ext, B.make fun h' x' B => ⟨B.ext, B.put0 wsz wsz1 fun h' B => ⟨B.ext, B.put2 wsz wsz1 fun h' B => ⟨B.ext, B.put1 wsz wsz1 fun h' B => leaf _ _ _ _ B.v0 B.v2 B.v1 B.ext B.n1⟩⟩⟩⟩, B.make fun h' x' B => ⟨B.ext, keys_spec fun h' x' => have B := B.on x'; ⟨_, rfl, B.ext, B.put0 wsz wsz1 fun h' B => ⟨B.ext, B.put2 wsz wsz1 fun h' B => ⟨B.ext, B.put1 wsz wsz1 fun h' B => leaf _ _ _ _ B.v0 B.v2 B.v1 B.ext B.n1⟩⟩⟩⟩⟩⟩⟩⟩⟩, B.make fun h' x' B => ⟨B.ext, ⟨keys_spec fun h' x' => have B := B.on x'; ⟨_, rfl, B.ext, ⟨B.make fun h' x' B => ⟨B.ext, B.make fun h' x' B => ⟨B.ext, B.put1 wsz wsz1 fun h' B => ⟨B.ext, B.put0 wsz wsz1 fun h' B => ⟨B.ext, B.put2 wsz wsz1 fun h' B => leaf _ _ _ _ B.v1 B.v0 B.v2 B.ext B.n2⟩⟩⟩⟩, B.make fun h' x' B => ⟨B.ext, B.make fun h' x' B => ⟨B.ext, B.put0 wsz wsz1 fun h' B => ⟨B.ext, B.put1 wsz wsz1 fun h' B => ⟨B.ext, B.put2 wsz wsz1 fun h' B => leaf _ _ _ _ B.v0 B.v1 B.v2 B.ext B.n2⟩⟩⟩⟩⟩⟩, ⟨B.make fun h' x' B => ⟨B.ext, ⟨keys_spec fun h' x' => have B := B.on x'; ⟨_, rfl, B.ext, B.make fun h' x' B => ⟨B.ext, B.put1 wsz wsz1 fun h' B => ⟨B.ext, B.put0 wsz wsz1 fun h' B => ⟨B.ext, B.put2 wsz wsz1 fun h' B => leaf _ _ _ _ B.v1 B.v0 B.v2 B.ext B.n2⟩⟩⟩⟩, B.make fun h' x' B => ⟨B.ext, keys_spec fun h' x' => have B := B.on x'; ⟨_, rfl, B.ext, B.put1 wsz wsz1 fun h' B => ⟨B.ext, B.put0 wsz wsz1 fun h' B => ⟨B.ext, B.put2 wsz wsz1 fun h' B => leaf _ _ _ _ B.v1 B.v0 B.v2 B.ext B.n2⟩⟩⟩⟩⟩⟩, B.make fun h' x' B => ⟨B.ext, ⟨keys_spec fun h' x' => have B := B.on x'; ⟨_, rfl, B.ext, B.make fun h' x' B => ⟨B.ext, B.put0 wsz wsz1 fun h' B => ⟨B.ext, B.put1 wsz wsz1 fun h' B => ⟨B.ext, B.put2 wsz wsz1 fun h' B => leaf _ _ _ _ B.v0 B.v1 B.v2 B.ext B.n2⟩⟩⟩⟩, B.make fun h' x' B => ⟨B.ext, keys_spec fun h' x' => have B := B.on x'; ⟨_, rfl, B.ext, B.put0 wsz wsz1 fun h' B => ⟨B.ext, B.put1 wsz wsz1 fun h' B => ⟨B.ext, B.put2 wsz wsz1 fun h' B => leaf _ _ _ _ B.v0 B.v1 B.v2 B.ext B.n2⟩⟩⟩⟩⟩⟩⟩⟩⟩⟩⟩⟩⟩, ⟨B.make fun h' x' B => ⟨B.ext, ⟨lay_spec (bs := bs) (e.ext B.ext) hl fun h' x' => have B := B.on x'; ⟨_, rfl, B.ext, ⟨keys_spec fun h' x' => have B := B.on x'; ⟨_, rfl, B.ext, ⟨B.make fun h' x' B => ⟨B.ext, B.make fun h' x' B => ⟨B.ext, B.put2 wsz wsz1 fun h' B => ⟨B.ext, B.put1 wsz wsz1 fun h' B => ⟨B.ext, B.put0 wsz wsz1 fun h' B => leaf _ _ _ _ B.v2 B.v1 B.v0 B.ext B.n0⟩⟩⟩⟩, B.make fun h' x' B => ⟨B.ext, B.make fun h' x' B => ⟨B.ext, B.put2 wsz wsz1 fun h' B => ⟨B.ext, B.put0 wsz wsz1 fun h' B => ⟨B.ext, B.put1 wsz wsz1 fun h' B => leaf _ _ _ _ B.v2 B.v0 B.v1 B.ext B.n1⟩⟩⟩⟩⟩⟩, ⟨B.make fun h' x' B => ⟨B.ext, ⟨keys_spec fun h' x' => have B := B.on x'; ⟨_, rfl, B.ext, B.make fun h' x' B => ⟨B.ext, B.put2 wsz wsz1 fun h' B => ⟨B.ext, B.put1 wsz wsz1 fun h' B => ⟨B.ext, B.put0 wsz wsz1 fun h' B => leaf _ _ _ _ B.v2 B.v1 B.v0 B.ext B.n0⟩⟩⟩⟩, B.make fun h' x' B => ⟨B.ext, keys_spec fun h' x' => have B := B.on x'; ⟨_, rfl, B.ext, B.put2 wsz wsz1 fun h' B => ⟨B.ext, B.put1 wsz wsz1 fun h' B => ⟨B.ext, B.put0 wsz wsz1 fun h' B => leaf _ _ _ _ B.v2 B.v1 B.v0 B.ext B.n0⟩⟩⟩⟩⟩⟩, B.make fun h' x' B => ⟨B.ext, ⟨keys_spec fun h' x' => have B := B.on x'; ⟨_, rfl, B.ext, B.make fun h' x' B => ⟨B.ext, B.put2 wsz wsz1 fun h' B => ⟨B.ext, B.put0 wsz wsz1 fun h' B => ⟨B.ext, B.put1 wsz wsz1 fun h' B => leaf _ _ _ _ B.v2 B.v0 B.v1 B.ext B.n1⟩⟩⟩⟩, B.make fun h' x' B => ⟨B.ext, keys_spec fun h' x' => have B := B.on x'; ⟨_, rfl, B.ext, B.put2 wsz wsz1 fun h' B => ⟨B.ext, B.put0 wsz wsz1 fun h' B => ⟨B.ext, B.put1 wsz wsz1 fun h' B => leaf _ _ _ _ B.v2 B.v0 B.v1 B.ext B.n1⟩⟩⟩⟩⟩⟩⟩⟩⟩, ⟨B.make fun h' x' B => ⟨B.ext, ⟨lay_spec (bs := bs) (e.ext B.ext) hl fun h' x' => have B := B.on x'; ⟨_, rfl, B.ext, ⟨keys_spec fun h' x' => have B := B.on x'; ⟨_, rfl, B.ext, B.make fun h' x' B => ⟨B.ext, B.put2 wsz wsz1 fun h' B => ⟨B.ext, B.put1 wsz wsz1 fun h' B => ⟨B.ext, B.put0 wsz wsz1 fun h' B => leaf _ _ _ _ B.v2 B.v1 B.v0 B.ext B.n0⟩⟩⟩⟩, B.make fun h' x' B => ⟨B.ext, keys_spec fun h' x' => have B := B.on x'; ⟨_, rfl, B.ext, B.put2 wsz wsz1 fun h' B => ⟨B.ext, B.put1 wsz wsz1 fun h' B => ⟨B.ext, B.put0 wsz wsz1 fun h' B => leaf _ _ _ _ B.v2 B.v1 B.v0 B.ext B.n0⟩⟩⟩⟩⟩⟩, B.make fun h' x' B => ⟨B.ext, lay_spec (bs := bs) (e.ext B.ext) hl fun h' x' => have B := B.on x'; ⟨_, rfl, B.ext, keys_spec fun h' x' => have B := B.on x'; ⟨_, rfl, B.ext, B.put2 wsz wsz1 fun h' B => ⟨B.ext, B.put1 wsz wsz1 fun h' B => ⟨B.ext, B.put0 wsz wsz1 fun h' B => leaf _ _ _ _ B.v2 B.v1 B.v0 B.ext B.n0⟩⟩⟩⟩⟩⟩⟩, B.make fun h' x' B => ⟨B.ext, ⟨lay_spec (bs := bs) (e.ext B.ext) hl fun h' x' => have B := B.on x'; ⟨_, rfl, B.ext, ⟨keys_spec fun h' x' => have B := B.on x'; ⟨_, rfl, B.ext, B.make fun h' x' B => ⟨B.ext, B.put2 wsz wsz1 fun h' B => ⟨B.ext, B.put0 wsz wsz1 fun h' B => ⟨B.ext, B.put1 wsz wsz1 fun h' B => leaf _ _ _ _ B.v2 B.v0 B.v1 B.ext B.n1⟩⟩⟩⟩, B.make fun h' x' B => ⟨B.ext, keys_spec fun h' x' => have B := B.on x'; ⟨_, rfl, B.ext, B.put2 wsz wsz1 fun h' B => ⟨B.ext, B.put0 wsz wsz1 fun h' B => ⟨B.ext, B.put1 wsz wsz1 fun h' B => leaf _ _ _ _ B.v2 B.v0 B.v1 B.ext B.n1⟩⟩⟩⟩⟩⟩, B.make fun h' x' B => ⟨B.ext, lay_spec (bs := bs) (e.ext B.ext) hl fun h' x' => have B := B.on x'; ⟨_, rfl, B.ext, keys_spec fun h' x' => have B := B.on x'; ⟨_, rfl, B.ext, B.put2 wsz wsz1 fun h' B => ⟨B.ext, B.put0 wsz wsz1 fun h' B => ⟨B.ext, B.put1 wsz wsz1 fun h' B => leaf _ _ _ _ B.v2 B.v0 B.v1 B.ext B.n1⟩⟩⟩⟩⟩⟩⟩⟩⟩⟩, ⟨B.make fun h' x' B => ⟨B.ext, ⟨lay_spec (bs := bs) (e.ext B.ext) hl fun h' x' => have B := B.on x'; ⟨_, rfl, B.ext, ⟨keys_spec fun h' x' => have B := B.on x'; ⟨_, rfl, B.ext, ⟨B.make fun h' x' B => ⟨B.ext, B.make fun h' x' B => ⟨B.ext, B.put1 wsz wsz1 fun h' B => ⟨B.ext, B.put2 wsz wsz1 fun h' B => ⟨B.ext, B.put0 wsz wsz1 fun h' B => leaf _ _ _ _ B.v1 B.v2 B.v0 B.ext B.n0⟩⟩⟩⟩, B.make fun h' x' B => ⟨B.ext, B.make fun h' x' B => ⟨B.ext, B.put0 wsz wsz1 fun h' B => ⟨B.ext, B.put2 wsz wsz1 fun h' B => ⟨B.ext, B.put1 wsz wsz1 fun h' B => leaf _ _ _ _ B.v0 B.v2 B.v1 B.ext B.n1⟩⟩⟩⟩⟩⟩, ⟨B.make fun h' x' B => ⟨B.ext, ⟨keys_spec fun h' x' => have B := B.on x'; ⟨_, rfl, B.ext, B.make fun h' x' B => ⟨B.ext, B.put1 wsz wsz1 fun h' B => ⟨B.ext, B.put2 wsz wsz1 fun h' B => ⟨B.ext, B.put0 wsz wsz1 fun h' B => leaf _ _ _ _ B.v1 B.v2 B.v0 B.ext B.n0⟩⟩⟩⟩, B.make fun h' x' B => ⟨B.ext, keys_spec fun h' x' => have B := B.on x'; ⟨_, rfl, B.ext, B.put1 wsz wsz1 fun h' B => ⟨B.ext, B.put2 wsz wsz1 fun h' B => ⟨B.ext, B.put0 wsz wsz1 fun h' B => leaf _ _ _ _ B.v1 B.v2 B.v0 B.ext B.n0⟩⟩⟩⟩⟩⟩, B.make fun h' x' B => ⟨B.ext, ⟨keys_spec fun h' x' => have B := B.on x'; ⟨_, rfl, B.ext, B.make fun h' x' B => ⟨B.ext, B.put0 wsz wsz1 fun h' B => ⟨B.ext, B.put2 wsz wsz1 fun h' B => ⟨B.ext, B.put1 wsz wsz1 fun h' B => leaf _ _ _ _ B.v0 B.v2 B.v1 B.ext B.n1⟩⟩⟩⟩, B.make fun h' x' B => ⟨B.ext, keys_spec fun h' x' => have B := B.on x'; ⟨_, rfl, B.ext, B.put0 wsz wsz1 fun h' B => ⟨B.ext, B.put2 wsz wsz1 fun h' B => ⟨B.ext, B.put1 wsz wsz1 fun h' B => leaf _ _ _ _ B.v0 B.v2 B.v1 B.ext B.n1⟩⟩⟩⟩⟩⟩⟩⟩⟩, ⟨B.make fun h' x' B => ⟨B.ext, ⟨lay_spec (bs := bs) (e.ext B.ext) hl fun h' x' => have B := B.on x'; ⟨_, rfl, B.ext, ⟨keys_spec fun h' x' => have B := B.on x'; ⟨_, rfl, B.ext, B.make fun h' x' B => ⟨B.ext, B.put1 wsz wsz1 fun h' B => ⟨B.ext, B.put2 wsz wsz1 fun h' B => ⟨B.ext, B.put0 wsz wsz1 fun h' B => leaf _ _ _ _ B.v1 B.v2 B.v0 B.ext B.n0⟩⟩⟩⟩, B.make fun h' x' B => ⟨B.ext, keys_spec fun h' x' => have B := B.on x'; ⟨_, rfl, B.ext, B.put1 wsz wsz1 fun h' B => ⟨B.ext, B.put2 wsz wsz1 fun h' B => ⟨B.ext, B.put0 wsz wsz1 fun h' B => leaf _ _ _ _ B.v1 B.v2 B.v0 B.ext B.n0⟩⟩⟩⟩⟩⟩, B.make fun h' x' B => ⟨B.ext, lay_spec (bs := bs) (e.ext B.ext) hl fun h' x' => have B := B.on x'; ⟨_, rfl, B.ext, keys_spec fun h' x' => have B := B.on x'; ⟨_, rfl, B.ext, B.put1 wsz wsz1 fun h' B => ⟨B.ext, B.put2 wsz wsz1 fun h' B => ⟨B.ext, B.put0 wsz wsz1 fun h' B => leaf _ _ _ _ B.v1 B.v2 B.v0 B.ext B.n0⟩⟩⟩⟩⟩⟩⟩, B.make fun h' x' B => ⟨B.ext, ⟨lay_spec (bs := bs) (e.ext B.ext) hl fun h' x' => have B := B.on x'; ⟨_, rfl, B.ext, ⟨keys_spec fun h' x' => have B := B.on x'; ⟨_, rfl, B.ext, B.make fun h' x' B => ⟨B.ext, B.put0 wsz wsz1 fun h' B => ⟨B.ext, B.put2 wsz wsz1 fun h' B => ⟨B.ext, B.put1 wsz wsz1 fun h' B => leaf _ _ _ _ B.v0 B.v2 B.v1 B.ext B.n1⟩⟩⟩⟩, B.make fun h' x' B => ⟨B.ext, keys_spec fun h' x' => have B := B.on x'; ⟨_, rfl, B.ext, B.put0 wsz wsz1 fun h' B => ⟨B.ext, B.put2 wsz wsz1 fun h' B => ⟨B.ext, B.put1 wsz wsz1 fun h' B => leaf _ _ _ _ B.v0 B.v2 B.v1 B.ext B.n1⟩⟩⟩⟩⟩⟩, B.make fun h' x' B => ⟨B.ext, lay_spec (bs := bs) (e.ext B.ext) hl fun h' x' => have B := B.on x'; ⟨_, rfl, B.ext, keys_spec fun h' x' => have B := B.on x'; ⟨_, rfl, B.ext, B.put0 wsz wsz1 fun h' B => ⟨B.ext, B.put2 wsz wsz1 fun h' B => ⟨B.ext, B.put1 wsz wsz1 fun h' B => leaf _ _ _ _ B.v0 B.v2 B.v1 B.ext B.n1⟩⟩⟩⟩⟩⟩⟩⟩⟩⟩, B.make fun h' x' B => ⟨B.ext, ⟨lay_spec (bs := bs) (e.ext B.ext) hl fun h' x' => have B := B.on x'; ⟨_, rfl, B.ext, ⟨keys_spec fun h' x' => have B := B.on x'; ⟨_, rfl, B.ext, ⟨B.make fun h' x' B => ⟨B.ext, B.make fun h' x' B => ⟨B.ext, B.put1 wsz wsz1 fun h' B => ⟨B.ext, B.put0 wsz wsz1 fun h' B => ⟨B.ext, B.put2 wsz wsz1 fun h' B => leaf _ _ _ _ B.v1 B.v0 B.v2 B.ext B.n2⟩⟩⟩⟩, B.make fun h' x' B => ⟨B.ext, B.make fun h' x' B => ⟨B.ext, B.put0 wsz wsz1 fun h' B => ⟨B.ext, B.put1 wsz wsz1 fun h' B => ⟨B.ext, B.put2 wsz wsz1 fun h' B => leaf _ _ _ _ B.v0 B.v1 B.v2 B.ext B.n2⟩⟩⟩⟩⟩⟩, ⟨B.make fun h' x' B => ⟨B.ext, ⟨keys_spec fun h' x' => have B := B.on x'; ⟨_, rfl, B.ext, B.make fun h' x' B => ⟨B.ext, B.put1 wsz wsz1 fun h' B => ⟨B.ext, B.put0 wsz wsz1 fun h' B => ⟨B.ext, B.put2 wsz wsz1 fun h' B => leaf _ _ _ _ B.v1 B.v0 B.v2 B.ext B.n2⟩⟩⟩⟩, B.make fun h' x' B => ⟨B.ext, keys_spec fun h' x' => have B := B.on x'; ⟨_, rfl, B.ext, B.put1 wsz wsz1 fun h' B => ⟨B.ext, B.put0 wsz wsz1 fun h' B => ⟨B.ext, B.put2 wsz wsz1 fun h' B => leaf _ _ _ _ B.v1 B.v0 B.v2 B.ext B.n2⟩⟩⟩⟩⟩⟩, B.make fun h' x' B => ⟨B.ext, ⟨keys_spec fun h' x' => have B := B.on x'; ⟨_, rfl, B.ext, B.make fun h' x' B => ⟨B.ext, B.put0 wsz wsz1 fun h' B => ⟨B.ext, B.put1 wsz wsz1 fun h' B => ⟨B.ext, B.put2 wsz wsz1 fun h' B => leaf _ _ _ _ B.v0 B.v1 B.v2 B.ext B.n2⟩⟩⟩⟩, B.make fun h' x' B => ⟨B.ext, keys_spec fun h' x' => have B := B.on x'; ⟨_, rfl, B.ext, B.put0 wsz wsz1 fun h' B => ⟨B.ext, B.put1 wsz wsz1 fun h' B => ⟨B.ext, B.put2 wsz wsz1 fun h' B => leaf _ _ _ _ B.v0 B.v1 B.v2 B.ext B.n2⟩⟩⟩⟩⟩⟩⟩⟩⟩, ⟨B.make fun h' x' B => ⟨B.ext, ⟨lay_spec (bs := bs) (e.ext B.ext) hl fun h' x' => have B := B.on x'; ⟨_, rfl, B.ext, ⟨keys_spec fun h' x' => have B := B.on x'; ⟨_, rfl, B.ext, B.make fun h' x' B => ⟨B.ext, B.put1 wsz wsz1 fun h' B => ⟨B.ext, B.put0 wsz wsz1 fun h' B => ⟨B.ext, B.put2 wsz wsz1 fun h' B => leaf _ _ _ _ B.v1 B.v0 B.v2 B.ext B.n2⟩⟩⟩⟩, B.make fun h' x' B => ⟨B.ext, keys_spec fun h' x' => have B := B.on x'; ⟨_, rfl, B.ext, B.put1 wsz wsz1 fun h' B => ⟨B.ext, B.put0 wsz wsz1 fun h' B => ⟨B.ext, B.put2 wsz wsz1 fun h' B => leaf _ _ _ _ B.v1 B.v0 B.v2 B.ext B.n2⟩⟩⟩⟩⟩⟩, B.make fun h' x' B => ⟨B.ext, lay_spec (bs := bs) (e.ext B.ext) hl fun h' x' => have B := B.on x'; ⟨_, rfl, B.ext, keys_spec fun h' x' => have B := B.on x'; ⟨_, rfl, B.ext, B.put1 wsz wsz1 fun h' B => ⟨B.ext, B.put0 wsz wsz1 fun h' B => ⟨B.ext, B.put2 wsz wsz1 fun h' B => leaf _ _ _ _ B.v1 B.v0 B.v2 B.ext B.n2⟩⟩⟩⟩⟩⟩⟩, B.make fun h' x' B => ⟨B.ext, ⟨lay_spec (bs := bs) (e.ext B.ext) hl fun h' x' => have B := B.on x'; ⟨_, rfl, B.ext, ⟨keys_spec fun h' x' => have B := B.on x'; ⟨_, rfl, B.ext, B.make fun h' x' B => ⟨B.ext, B.put0 wsz wsz1 fun h' B => ⟨B.ext, B.put1 wsz wsz1 fun h' B => ⟨B.ext, B.put2 wsz wsz1 fun h' B => leaf _ _ _ _ B.v0 B.v1 B.v2 B.ext B.n2⟩⟩⟩⟩, B.make fun h' x' B => ⟨B.ext, keys_spec fun h' x' => have B := B.on x'; ⟨_, rfl, B.ext, B.put0 wsz wsz1 fun h' B => ⟨B.ext, B.put1 wsz wsz1 fun h' B => ⟨B.ext, B.put2 wsz wsz1 fun h' B => leaf _ _ _ _ B.v0 B.v1 B.v2 B.ext B.n2⟩⟩⟩⟩⟩⟩, B.make fun h' x' B => ⟨B.ext, lay_spec (bs := bs) (e.ext B.ext) hl fun h' x' => have B := B.on x'; ⟨_, rfl, B.ext, keys_spec fun h' x' => have B := B.on x'; ⟨_, rfl, B.ext, B.put0 wsz wsz1 fun h' B => ⟨B.ext, B.put1 wsz wsz1 fun h' B => ⟨B.ext, B.put2 wsz wsz1 fun h' B => leaf _ _ _ _ B.v0 B.v1 B.v2 B.ext B.n2⟩⟩⟩⟩⟩⟩⟩⟩⟩⟩⟩⟩⟩

end
end Go.Proofs.YtennbinbffdimaaGreat.Board
end

section
/- A validator's lot: the digest of a word and six bytes; which of two seats comes first. -/
namespace Go.Proofs.YtennbinbffdimaaGreat.Board
open Go Go.Vc
section
variable {R : Value → Heap → Prop} {h : Heap}

theorem flatten_take_le : ∀ (ts : List (List UInt8)) (i : Nat), (ts.take i).flatten.length ≤ ts.flatten.length
  | [], i => by simp
  | t :: ts, 0 => by simp
  | t :: ts, i + 1 => by
    have := flatten_take_le ts i
    simp only [List.take_succ_cons, List.flatten_cons, List.length_append]
    omega

theorem take_snoc {α : Type} {ts : List α} {i : Nat} {t : α} (ht : ts[i]? = some t) : ts.take (i + 1) = ts.take i ++ [t] := by
  rw [List.take_add_one, ht]
  rfl

theorem bsz {n : Nat} {x y : Bs n} : (TV.bytes n x).size = (TV.bytes n y).size := by simp only [TV.size]

/-! ### le.Put -/

def leF (n : Int) : Nat → List UInt8
  | 0 => []
  | k + 1 => UInt8.ofNat (IntKind.wrap .u8 n).toNat :: leF (Int.fdiv n (2 ^ min (Int.toNat 8) (IntKind.bits .u64))) k

def leN (n : Int) : Nat → Int
  | 0 => n
  | k + 1 => leN (Int.fdiv n (2 ^ min (Int.toNat 8) (IntKind.bits .u64))) k

theorem leN_succ : ∀ (k : Nat) (n : Int), leN n (k + 1) = Int.fdiv (leN n k) (2 ^ min (Int.toNat 8) (IntKind.bits .u64))
  | 0, _ => rfl
  | k + 1, _ => leN_succ k _

theorem leF_succ : ∀ (k : Nat) (n : Int), leF n (k + 1) = leF n k ++ [UInt8.ofNat (IntKind.wrap .u8 (leN n k)).toNat]
  | 0, _ => rfl
  | k + 1, n => by
    rw [leF, leF_succ k]
    rfl

theorem leF_length : ∀ (k : Nat) (n : Int), (leF n k).length = k
  | 0, _ => rfl
  | k + 1, n => by simp [leF, leF_length k]

theorem put_spec_le {Q : Nat → Prop} {s : Sl} {bs : List UInt8} {n : Int} {k : Nat} (r : Row Q h s bs) (hl : bs.length < 5000) (hk : k ≤ 8)
    (hr : ∀ h' s', Row Q h' s' (bs ++ leF n k) → Only Q h h' → R (TV.slice s').val h') : CallsH Tryz.prog 260 (TVs.vals [.slice s, .int .u64 n, .int .i64 (k : Int)]) h R := by
  apply le_Put_calls
  unfold le_Put_vc
  refine ⟨fun σ hh => 0 ≤ σ.2.2 ∧ σ.2.2 ≤ (k : Int) ∧ Row Q hh σ.1 (bs ++ leF n σ.2.2.toNat) ∧ σ.2.1 = leN n σ.2.2.toNat ∧ Only Q h hh, fun σ _ => ((k : Int) - σ.2.2).toNat, ⟨Int.le_refl 0, by dsimp only; omega, by simpa [leF] using r, rfl, Only.refl _ _⟩, ?_⟩
  rintro ⟨s1, n1, i⟩ h1 ⟨i0, i1, r1, e1, o1⟩
  dsimp only at i0 i1 r1 e1 ⊢
  have hm : mn (mx (k : Int) 0) 8 = (k : Int) := by rw [mx_eq, mn_eq]; omega
  rw [hm]
  refine If.dec.2 ⟨fun hi => ?_, fun hi => ?_⟩
  · have hw := wrap_u8_range n1
    have hll := leF_length i.toNat n
    refine app_byte r1 (by rw [List.length_append]; omega) hw.1 hw.2 fun s2 h2 r2 o2 b2 => ⟨by decide, ?_⟩
    rw [wrap_i64 (n := i + 1) (by omega) (by omega)]
    have hi1 : (i + 1).toNat = i.toNat + 1 := by omega
    refine ⟨⟨by omega, by omega, ?_, ?_, o1.trans (r1.cut o2)⟩, by first | omega | (dsimp only; omega)⟩
    · rw [hi1, leF_succ, ← List.append_assoc, ← e1]
      exact r2
    · rw [hi1, leN_succ, e1]
  · have hi2 : i.toNat = k := by omega
    rw [hi2] at r1
    exact hr h1 s1 r1 o1

theorem Row.str {Q : Nat → Prop} {s : Sl} {bs : List UInt8} (r : Row Q h s bs) : strAt h s bs := by
  have e := r.own.elems
  have hl := r.len
  refine ⟨hl, ?_⟩
  cases hs : s.a with
  | none =>
    have := e.nil hs
    refine .inl ⟨rfl, ?_⟩
    cases bs with
    | nil => rfl
    | cons b bs => cases this
  | some l =>
    refine .inr ⟨l, rfl, fun j hj => ?_⟩
    have := e.get l hs j (byTV bs[j]) (by rw [List.getElem?_map, List.getElem?_eq_getElem hj]; rfl)
    rw [Nat.mul_one] at this
    exact this

/-! ### Which of two seats comes first -/

theorem str_var {T : TypeId} {h : Heap} {b n c : Nat} {x : Bs n} (v : Var T h b (.bytes n x)) : strAt h ⟨some ⟨b, 0⟩, n, c⟩ x.l :=
  ⟨x.h, .inr ⟨_, rfl, fun j hj => by
    have := v.bytes j (by rw [← x.h]; exact hj)
    rw [this]
    simp [List.getD, hj]⟩⟩

theorem less_specS {a b : Bs 32} (hr : ∀ h', Ext h h' → R (TV.bool (Op.bytesLess a.l b.l)).val h') : CallsS Tryz.prog 198 (TVs.vals [.bytes 32 a, .bytes 32 b]) h R := by
  apply sha_Less_calls
  unfold sha_Less_vc
  refine newTV_in fun h1 v1 x1 s1 => newTV_in fun h2 v2 x2 s2 => ?_
  exact ⟨a.l, str_var (v1.ext x2), b.l, str_var v2, hr _ (x1.trans x2)⟩

theorem less_spec {a b : Bs 32} (hr : ∀ h', Ext h h' → R (TV.bool (Op.bytesLess a.l b.l)).val h') : CallsH Tryz.prog 198 (TVs.vals [.bytes 32 a, .bytes 32 b]) h R := (less_specS hr).weak

end
end Go.Proofs.YtennbinbffdimaaGreat.Board
end

section
/- Members of a slot's committee: the seats in order, cut. -/
namespace Go.Proofs.YtennbinbffdimaaGreat.Board
open Go Go.Vc

theorem less_irrefl : ∀ a : List UInt8, Op.bytesLess a a = false
  | [] => rfl
  | x :: xs => by simp [Op.bytesLess, less_irrefl xs, UInt8.lt_irrefl]

theorem less_trans : ∀ a b c : List UInt8, Op.bytesLess a b = true → Op.bytesLess b c = true → Op.bytesLess a c = true
  | [], [], _, h, _ => by cases h
  | _ :: _, [], _, h, _ => by cases h
  | _, _ :: _, [], _, k => by cases k
  | [], _ :: _, _ :: _, _, _ => rfl
  | x :: xs, y :: ys, z :: zs, h, k => by
    simp only [Op.bytesLess, Bool.or_eq_true, Bool.and_eq_true, decide_eq_true_eq, beq_iff_eq] at h k ⊢
    rw [UInt8.lt_iff_toNat_lt] at h k ⊢
    rcases h with h | ⟨h, h1⟩
    · rcases k with k | ⟨k, k1⟩
      · left; omega
      · left; rw [← k]; exact h
    · rcases k with k | ⟨k, k1⟩
      · left; rw [h]; exact k
      · right; exact ⟨h.trans k, less_trans xs ys zs h1 k1⟩

theorem less_total : ∀ a b : List UInt8, a ≠ b → Op.bytesLess a b = true ∨ Op.bytesLess b a = true
  | [], [], h => absurd rfl h
  | [], y :: ys, _ => .inl rfl
  | x :: xs, [], _ => .inr rfl
  | x :: xs, y :: ys, h => by
    simp only [Op.bytesLess, Bool.or_eq_true, Bool.and_eq_true, decide_eq_true_eq, beq_iff_eq]
    rw [UInt8.lt_iff_toNat_lt, UInt8.lt_iff_toNat_lt]
    by_cases e : x = y
    · subst e
      rcases less_total xs ys (fun hx => h (by rw [hx])) with h1 | h1
      · exact .inl (.inr ⟨rfl, h1⟩)
      · exact .inr (.inr ⟨rfl, h1⟩)
    · have : x.toNat ≠ y.toNat := fun hx => e (UInt8.toNat_inj.1 hx)
      rcases Nat.lt_or_ge x.toNat y.toNat with h1 | h1
      · exact .inl (.inl h1)
      · exact .inr (.inl (by omega))

/-! ### Seats in order -/

-- := ⟨⟨Bs.zero 32, 0⟩⟩

/-! ### The program -/

section
variable {R : Value → Heap → Prop} {h : Heap}

abbrev ints (l : List Int) : List TV := l.map (TV.int .i64)
theorem bytes3 : (ctx.ti 3).bytes = 8 := by kernel_rfl
theorem size3 : (ctx.ti 3).size = 1 := by kernel_rfl
theorem zsize3 : (ctx.ti 3).z.size = 1 := by kernel_rfl

end
end Go.Proofs.YtennbinbffdimaaGreat.Board
end

section
/- Place, Proposer, Pick, Same; whether a configuration can be. -/
namespace Go.Proofs.YtennbinbffdimaaGreat.Board
open Go Go.Vc

abbrev bools (l : List Bool) : List TV := l.map TV.bool

section
variable {R : Value → Heap → Prop} {h : Heap}

theorem read_int {s : Sl} {l : List Int} {i : Int} (e : Elems 1 h s (ints l)) (i0 : 0 ≤ i) (i1 : i < l.length) {K : Int → Prop} (hk : ∀ x, l[i.toNat]? = some x → K x) :
    0 ≤ i ∧ i < (s.len : Int) ∧ Nn s.a fun (p : Vc.Loc) => ∃ (n : Int), at1 h p.b (p.o + i.toNat * 1) (.int .i64 n) ∧ K n := by
  have hl := e.len
  rw [List.length_map] at hl
  refine e.read i0 (by omega) fun p t hla ht ha => ?_
  rw [List.getElem?_map] at ht
  obtain ⟨x, hx, rfl⟩ := Option.map_eq_some_iff.1 ht
  exact ⟨x, ha, hk x hx⟩

theorem read_bool {s : Sl} {l : List Bool} {i : Int} (e : Elems 1 h s (bools l)) (i0 : 0 ≤ i) (i1 : i < l.length) {K : Bool → Prop} (hk : ∀ x, l[i.toNat]? = some x → K x) :
    0 ≤ i ∧ i < (s.len : Int) ∧ Nn s.a fun (p : Vc.Loc) => ∃ (n : Bool), at1 h p.b (p.o + i.toNat * 1) (.bool n) ∧ K n := by
  have hl := e.len
  rw [List.length_map] at hl
  refine e.read i0 (by omega) fun p t hla ht ha => ?_
  rw [List.getElem?_map] at ht
  obtain ⟨x, hx, rfl⟩ := Option.map_eq_some_iff.1 ht
  exact ⟨x, ha, hk x hx⟩

theorem ints_len {s : Sl} {l : List Int} (e : Elems 1 h s (ints l)) : l.length = s.len := by have := e.len; rwa [List.length_map] at this

theorem drop_get {α : Type} {l : List α} {i : Nat} {x : α} (h : l[i]? = some x) : l.drop i = x :: l.drop (i + 1) := by
  obtain ⟨hi, rfl⟩ := List.getElem?_eq_some_iff.1 h
  exact List.drop_eq_getElem_cons hi

/-! ### Whether a configuration can be -/

end
end Go.Proofs.YtennbinbffdimaaGreat.Board
end

section
/- The document's digest: its words and rounds are those of the program. -/

namespace Go.Proofs.YtennbinbffdimaaGreat.Board
open Go Go.Vc

theorem wrap_u32 (n : Int) : IntKind.wrap .u32 n = n % 4294967296 := by
  unfold IntKind.wrap
  show (if (false && _) = true then _ else n % 2 ^ 32) = n % 4294967296
  simp

/-- A word turned right, as the document has it. -/
def rightF (x n : Int) : Int := IntKind.wrap .u32 (↑(BitVec.toNat (BitVec.ofInt (IntKind.bits .u32) (Int.fdiv x ((2 : Int) ^ min (Int.toNat (IntKind.wrap .u64 n)) (IntKind.bits .u32))) ||| BitVec.ofInt (IntKind.bits .u32) (IntKind.wrap .u32 (x * (2 : Int) ^ min (Int.toNat (IntKind.wrap .u64 (IntKind.wrap .i64 ((32 : Int) - n)))) (IntKind.bits .u32))))) : Int)

theorem turn_or (x : Int) (n : Int) (a b : Nat)
    (h1 : rightF x n = IntKind.wrap .u32 (↑(BitVec.toNat (BitVec.ofInt 32 (Int.fdiv x ((2 : Int) ^ a)) ||| BitVec.ofInt 32 (IntKind.wrap .u32 (x * (2 : Int) ^ b)))) : Int))
    (h2 : turnF x n = IntKind.wrap .u32 (↑(BitVec.toNat (BitVec.ofInt 32 (IntKind.wrap .u32 (x * (2 : Int) ^ b)) ||| BitVec.ofInt 32 (Int.fdiv x ((2 : Int) ^ a)))) : Int)) : rightF x n = turnF x n := by
  rw [h1, h2, BitVec.or_comm]

theorem right2 (x : Int) : rightF x 2 = turnF x 2 := turn_or x 2 2 30 (by kernel_rfl) (by kernel_rfl)
theorem right6 (x : Int) : rightF x 6 = turnF x 6 := turn_or x 6 6 26 (by kernel_rfl) (by kernel_rfl)
theorem right7 (x : Int) : rightF x 7 = turnF x 7 := turn_or x 7 7 25 (by kernel_rfl) (by kernel_rfl)
theorem right11 (x : Int) : rightF x 11 = turnF x 11 := turn_or x 11 11 21 (by kernel_rfl) (by kernel_rfl)
theorem right13 (x : Int) : rightF x 13 = turnF x 13 := turn_or x 13 13 19 (by kernel_rfl) (by kernel_rfl)
theorem right17 (x : Int) : rightF x 17 = turnF x 17 := turn_or x 17 17 15 (by kernel_rfl) (by kernel_rfl)
theorem right18 (x : Int) : rightF x 18 = turnF x 18 := turn_or x 18 18 14 (by kernel_rfl) (by kernel_rfl)
theorem right19 (x : Int) : rightF x 19 = turnF x 19 := turn_or x 19 19 13 (by kernel_rfl) (by kernel_rfl)
theorem right22 (x : Int) : rightF x 22 = turnF x 22 := turn_or x 22 22 10 (by kernel_rfl) (by kernel_rfl)
theorem right25 (x : Int) : rightF x 25 = turnF x 25 := turn_or x 25 25 7 (by kernel_rfl) (by kernel_rfl)

/-- Two parts of a word that do not meet. -/
theorem or_parts (A B k : Nat) (hB : B < 2 ^ k) (hA : A * 2 ^ k + B < 4294967296) : ((BitVec.toNat (BitVec.ofInt 32 ((A * 2 ^ k : Nat) : Int) ||| BitVec.ofInt 32 (B : Int)) : Nat) : Int) = ((A * 2 ^ k + B : Nat) : Int) := by
  rw [BitVec.ofInt_natCast, BitVec.ofInt_natCast, BitVec.toNat_or, BitVec.toNat_ofNat, BitVec.toNat_ofNat, Nat.mod_eq_of_lt (by omega), Nat.mod_eq_of_lt (by omega)]
  have := Nat.shiftLeft_add_eq_or_of_lt hB A
  rw [Nat.shiftLeft_eq] at this
  rw [this]

theorem wrap_nat (n : Nat) (h : n < 4294967296) : IntKind.wrap .u32 (n : Int) = (n : Int) := by
  rw [wrap_u32]
  omega

theorem be_bytes (a b c d : Nat) (ha : a < 256) (hb : b < 256) (hc : c < 256) (hd : d < 256) : be a b c d = (((a * 256 + b) * 256 + c) * 256 + d : Nat) := by
  have e : be a b c d = IntKind.wrap .u32 (↑(BitVec.toNat (BitVec.ofInt 32 (IntKind.wrap .u32 (↑(BitVec.toNat (BitVec.ofInt 32 (IntKind.wrap .u32 (↑(BitVec.toNat (BitVec.ofInt 32 (IntKind.wrap .u32 (IntKind.wrap .u32 (a : Int) * 2 ^ 24)) ||| BitVec.ofInt 32 (IntKind.wrap .u32 (IntKind.wrap .u32 (b : Int) * 2 ^ 16)))) : Int)) |||
      BitVec.ofInt 32 (IntKind.wrap .u32 (IntKind.wrap .u32 (c : Int) * 2 ^ 8)))) : Int)) ||| BitVec.ofInt 32 (IntKind.wrap .u32 (d : Int)))) : Int) := by
    unfold be
    kernel_rfl
  have w1 : IntKind.wrap .u32 (IntKind.wrap .u32 (a : Int) * 2 ^ 24) = ((a * 2 ^ 24 : Nat) : Int) := by rw [wrap_u32, wrap_u32]; omega
  have w2 : IntKind.wrap .u32 (IntKind.wrap .u32 (b : Int) * 2 ^ 16) = ((b * 2 ^ 16 : Nat) : Int) := by rw [wrap_u32, wrap_u32]; omega
  have w3 : IntKind.wrap .u32 (IntKind.wrap .u32 (c : Int) * 2 ^ 8) = ((c * 2 ^ 8 : Nat) : Int) := by rw [wrap_u32, wrap_u32]; omega
  rw [e, w1, w2, w3, wrap_nat d (by omega), or_parts a (b * 2 ^ 16) 24 (by omega) (by omega), wrap_nat (a * 2 ^ 24 + b * 2 ^ 16) (by omega)]
  rw [show a * 2 ^ 24 + b * 2 ^ 16 = (a * 256 + b) * 2 ^ 16 by omega, or_parts (a * 256 + b) (c * 2 ^ 8) 16 (by omega) (by omega), wrap_nat ((a * 256 + b) * 2 ^ 16 + c * 2 ^ 8) (by omega)]
  rw [show (a * 256 + b) * 2 ^ 16 + c * 2 ^ 8 = ((a * 256 + b) * 256 + c) * 2 ^ 8 by omega, or_parts ((a * 256 + b) * 256 + c) d 8 (by omega) (by omega), wrap_nat _ (by omega)]

/-- A word that grows by a byte. -/
def grow (n : Int) (b : UInt8) : Int := IntKind.wrap .u32 (IntKind.wrap .u32 (n * 256) + IntKind.wrap .u32 (b.toNat : Int))

theorem grow4 (a b c d : UInt8) : grow (grow (grow (grow 0 a) b) c) d = be (a.toNat : Int) (b.toNat : Int) (c.toNat : Int) (d.toNat : Int) := by
  have ha := a.toNat_lt
  have hb := b.toNat_lt
  have hc := c.toNat_lt
  have hd := d.toNat_lt
  rw [be_bytes _ _ _ _ ha hb hc hd]
  unfold grow
  simp only [wrap_u32]
  omega

theorem ex_turned (n n1 n2 n3 n4 n5 n6 n7 s0 s1 : Int) (h0 : s0 = IntKind.wrap .u32 (↑(BitVec.toNat (BitVec.ofInt (IntKind.bits IntKind.u32) (IntKind.wrap IntKind.u32 (↑(BitVec.toNat (BitVec.ofInt (IntKind.bits IntKind.u32) n4 ^^^ BitVec.ofInt (IntKind.bits IntKind.u32) n5)) : Int)) ^^^ BitVec.ofInt (IntKind.bits IntKind.u32) (Int.fdiv n ((2 : Int) ^ min (Int.toNat (3 : Int)) (IntKind.bits IntKind.u32))))) : Int))
    (h1 : s1 = IntKind.wrap .u32 (↑(BitVec.toNat (BitVec.ofInt (IntKind.bits IntKind.u32) (IntKind.wrap IntKind.u32 (↑(BitVec.toNat (BitVec.ofInt (IntKind.bits IntKind.u32) n6 ^^^ BitVec.ofInt (IntKind.bits IntKind.u32) n7)) : Int)) ^^^ BitVec.ofInt (IntKind.bits IntKind.u32) (Int.fdiv n1 ((2 : Int) ^ min (Int.toNat (10 : Int)) (IntKind.bits IntKind.u32))))) : Int)) :
    IntKind.wrap .u32 (IntKind.wrap .u32 (IntKind.wrap .u32 (n2 + n3) + s0) + s1) = ex n n1 n2 n3 n4 n5 n6 n7 := by
  unfold ex
  rw [← h0, ← h1]
  simp only [wrap_u32]
  omega

/-! ### Words -/

theorem wd_set {n : Nat} (w : Ws n) (i j : Nat) (c : Int) : wd (w.set i c) j = if i = j ∧ i < n then c else wd w j := by
  unfold wd Ws.set
  simp only [List.getD_eq_getElem?_getD, List.getElem?_set]
  by_cases h : i = j
  · subst h
    rw [if_pos rfl]
    by_cases hi : i < n
    · rw [if_pos (by rw [w.h]; exact hi), if_pos ⟨rfl, hi⟩]; rfl
    · rw [if_neg (by rw [w.h]; exact hi), if_neg (fun hx => hi hx.2), List.getElem?_eq_none (by rw [w.h]; omega)]
  · rw [if_neg h, if_neg (fun hx => h hx.1)]

theorem wd_shift (v : Ws 8) (j : Nat) (h0 : 0 < j) (h1 : j < 8) : wd (shift v) j = wd v (j - 1) := by
  obtain ⟨l, hl⟩ := v
  match l, hl with
  | [a, b, c, d, e, f, g, k], _ =>
    have : j = 1 ∨ j = 2 ∨ j = 3 ∨ j = 4 ∨ j = 5 ∨ j = 6 ∨ j = 7 := by omega
    rcases this with rfl | rfl | rfl | rfl | rfl | rfl | rfl <;> rfl

theorem ws_eq {n : Nat} {a b : Ws n} (h : ∀ j, j < n → wd a j = wd b j) : a = b := by
  apply Ws.ext'
  apply List.ext_getElem (by rw [a.h, b.h])
  intro j h1 h2
  have := h j (by rw [← a.h]; exact h1)
  unfold wd at this
  simpa [List.getD_eq_getElem?_getD, h1, h2] using this

theorem sum_wd (w v : Ws 8) : ∀ i j, i ≤ 8 → wd (sumW w v i) j = if j < i then IntKind.wrap .u32 (wd w j + wd v j) else wd w j
  | 0, j, _ => by simp [sumW]
  | i + 1, j, h => by
    rw [sumW, wd_set, sum_wd w v i i (by omega), sum_wd w v i j (by omega), if_neg (Nat.lt_irrefl i)]
    by_cases hij : i = j
    · subst hij
      rw [if_pos ⟨rfl, by omega⟩, if_pos (Nat.lt_succ_self i)]
    · rw [if_neg (fun hx => hij hx.1)]
      by_cases hj : j < i
      · rw [if_pos hj, if_pos (by omega)]
      · rw [if_neg hj, if_neg (by omega)]

theorem layB_wd (w : Ws 64) : ∀ i j, i ≤ 48 → j < 16 + i → ∀ k, i ≤ k → k ≤ 48 → wd (layB w k) j = wd (layB w i) j
  | i, j, _, hj, k, hik, hk => by
    induction k with
    | zero => have : i = 0 := by omega
              subst this; rfl
    | succ k ih =>
      by_cases h : i = k + 1
      · subst h; rfl
      · rw [layB, wd_set, if_neg (by omega)]
        exact ih (by omega) (by omega)

theorem layA_wd (bs : List UInt8) (i j : Nat) (hj : j < i) (hi : i ≤ 16) : wd (layA bs i) j = wd (layA bs 16) j := by
  have : ∀ k, i ≤ k → k ≤ 16 → wd (layA bs k) j = wd (layA bs i) j := by
    intro k
    induction k with
    | zero => intro h1 _; have : i = 0 := by omega
              omega
    | succ k ih =>
      intro h1 h2
      by_cases h : i = k + 1
      · subst h; rfl
      · rw [layA, wd_set, if_neg (by omega)]
        exact ih (by omega) (by omega)
  exact (this 16 hi (Nat.le_refl _)).symm

end Go.Proofs.YtennbinbffdimaaGreat.Board
end

section
/- The document's digest: a block does what the program's take does. -/
namespace Go.Proofs.YtennbinbffdimaaGreat.Board
open Go Go.Vc
section
variable {R : Value → Heap → Prop} {h : Heap}

theorem right_spec {x n : Int} (hr : R (TV.int .u32 (rightF x n)).val h) : CallsH Tryz.prog 276 (TVs.vals [.int .u32 x, .int .i64 n]) h R := by
  apply tollerref03_right_calls
  unfold tollerref03_right_vc
  exact ⟨wrap_u64_nonneg _, wrap_u64_nonneg _, hr⟩

/-- A word out of its first bytes. -/
def growN (bs : List UInt8) (i : Nat) : Nat → Int
  | 0 => 0
  | k + 1 => grow (growN bs i k) (bs.getD (4 * i + k) 0)

/-- The words so far: those up to the i-th are there, the others are 0. -/
def Part (w : Ws 64) (bs : List UInt8) (i : Nat) : Prop := (∀ j, j < i → wd w j = wd (layF bs) j) ∧ ∀ j, i ≤ j → wd w j = 0

theorem lay_low (bs : List UInt8) (j : Nat) (hj : j < 16) : wd (layF bs) j = be (by8 bs (4 * j)) (by8 bs (4 * j + 1)) (by8 bs (4 * j + 2)) (by8 bs (4 * j + 3)) := by
  unfold layF
  rw [layB_wd (layA bs 16) 0 j (Nat.zero_le _) (by omega) 48 (Nat.zero_le _) (Nat.le_refl _), layB, ← layA_wd bs (j + 1) j (Nat.lt_succ_self j) (by omega), layA, wd_set, if_pos ⟨rfl, by omega⟩]

theorem lay_high (bs : List UInt8) (j : Nat) (h0 : 16 ≤ j) (h1 : j < 64) : wd (layF bs) j = exAt (layF bs) j := by
  unfold layF
  obtain ⟨i, rfl⟩ : ∃ i, j = 16 + i := ⟨j - 16, by omega⟩
  have e : ∀ k, k < 16 + i → wd (layB (layA bs 16) 48) k = wd (layB (layA bs 16) i) k := fun k hk => layB_wd (layA bs 16) i k (by omega) hk 48 (by omega) (Nat.le_refl _)
  rw [layB_wd (layA bs 16) (i + 1) (16 + i) (by omega) (by omega) 48 (by omega) (Nat.le_refl _), layB, wd_set, if_pos ⟨rfl, h1⟩]
  unfold exAt
  rw [e _ (by omega), e _ (by omega), e _ (by omega), e _ (by omega)]

theorem eight (X : Ws 8) : Ws.set (Ws.set (Ws.set (Ws.set (Ws.set (Ws.set (Ws.set (Ws.set (Ws.zero 8) 0 (wd X 0)) 1 (wd X 1)) 2 (wd X 2)) 3 (wd X 3)) 4 (wd X 4)) 5 (wd X 5)) 6 (wd X 6)) 7 (wd X 7) = X := by
  obtain ⟨l, hl⟩ := X
  match l, hl with
  | [a, b, c, d, e, f, g, k], _ => rfl

theorem round_wd (w k : Ws 64) (i : Nat) (v : Ws 8) :
    wd (roundW w k i v) 0 = t0 (wd v 7) (turnF (wd v 4) 6) (turnF (wd v 4) 11) (turnF (wd v 4) 25) (wd v 4) (wd v 5) (wd v 6) (wd k i) (wd w i) (turnF (wd v 0) 2) (turnF (wd v 0) 13) (turnF (wd v 0) 22) (wd v 0) (wd v 1) (wd v 2) (wd v 1) (wd v 2) ∧
    wd (roundW w k i v) 1 = wd v 0 ∧ wd (roundW w k i v) 2 = wd v 1 ∧ wd (roundW w k i v) 3 = wd v 2 ∧
    wd (roundW w k i v) 4 = t4 (wd v 3) (wd v 7) (turnF (wd v 4) 6) (turnF (wd v 4) 11) (turnF (wd v 4) 25) (wd v 4) (wd v 5) (wd v 6) (wd k i) (wd w i) ∧
    wd (roundW w k i v) 5 = wd v 4 ∧ wd (roundW w k i v) 6 = wd v 5 ∧ wd (roundW w k i v) 7 = wd v 6 := by
  unfold roundW
  refine ⟨?_, ?_, ?_, ?_, ?_, ?_, ?_, ?_⟩ <;> rw [wd_set, wd_set]
  · rw [if_pos ⟨rfl, by decide⟩]
  · rw [if_neg (by decide), if_neg (by decide), wd_shift _ _ (by decide) (by decide)]
  · rw [if_neg (by decide), if_neg (by decide), wd_shift _ _ (by decide) (by decide)]
  · rw [if_neg (by decide), if_neg (by decide), wd_shift _ _ (by decide) (by decide)]
  · rw [if_neg (by decide), if_pos ⟨rfl, by decide⟩, wd_shift _ _ (by decide) (by decide)]
  · rw [if_neg (by decide), if_neg (by decide), wd_shift _ _ (by decide) (by decide)]
  · rw [if_neg (by decide), if_neg (by decide), wd_shift _ _ (by decide) (by decide)]
  · rw [if_neg (by decide), if_neg (by decide), wd_shift _ _ (by decide) (by decide)]

set_option maxHeartbeats 1000000 in
theorem block_spec {w0 : Ws 8} {bs : List UInt8} (hl : bs.length = 64) (hr : ∀ h', Ext h h' → R (TV.words .u32 8 (takeF w0 bs)).val h') : CallsH Tryz.prog 221 (TVs.vals [.words .u32 8 w0, .words .u32 64 keysW, .str bs]) h R := by
  apply tollerref03_block_calls
  unfold tollerref03_block_vc
  refine newTV_in fun h1 v1 x1 s1 => newTV_in fun h2 v2 x2 s2 => newTV_in fun h3 v3 x3 s3 => newTV_in fun h4 v4 x4 s4 => ?_
  have va := ((v1.ext x2).ext x3).ext x4
  have vb := (v2.ext x3).ext x4
  have vc := v3.ext x4
  have x04 := ((x1.trans x2).trans x3).trans x4
  refine ⟨fun i hh => 0 ≤ i ∧ i ≤ 64 ∧ Only (· = h3.size) h4 hh ∧ ∃ w : Ws 64, Var 293 hh h3.size (.words .u32 64 w) ∧ Part w bs i.toNat, fun i _ => ((64 : Int) - i).toNat, ⟨Int.le_refl 0, by decide, Only.refl _ _, Ws.zero 64, v4, (fun j hj => absurd hj (by simp)), fun j _ => ?_⟩, ?_⟩
  · unfold wd Ws.zero
    simp only [List.getD_eq_getElem?_getD, List.getElem?_replicate]
    split <;> rfl
  rintro i h5 ⟨i0, i1, o5, w, v5, p1, p2⟩
  refine If.dec.2 ⟨fun hi => ?_, fun hi => ?_⟩
  · have hi1 : (i + 1).toNat = i.toNat + 1 := by omega
    have next : ∀ (hh : Heap) (w' : Ws 64), Only (· = h3.size) h4 hh → Var 293 hh h3.size (.words .u32 64 w') → (∀ j, j ≠ i.toNat → wd w' j = wd w j) → wd w' i.toNat = wd (layF bs) i.toNat →
        ((0 ≤ i + 1 ∧ i + 1 ≤ 64 ∧ Only (· = h3.size) h4 hh ∧ ∃ w : Ws 64, Var 293 hh h3.size (.words .u32 64 w) ∧ Part w bs (i + 1).toNat) ∧ ((64 : Int) - (i + 1)).toNat < ((64 : Int) - i).toNat) := by
      intro hh w' oh vh hn hw
      refine ⟨⟨by omega, by omega, oh, w', vh, fun j hj => ?_, fun j hj => ?_⟩, by omega⟩
      · by_cases hji : j = i.toNat
        · rw [hji]; exact hw
        · rw [hn j hji]; exact p1 j (by omega)
      · rw [hn j (by omega)]; exact p2 j (by omega)
    rw [wrap_i64 (n := i + 1) (by omega) (by omega)]
    refine If.dec.2 ⟨fun h16 => ?_, fun h16 => ?_⟩
    · -- four bytes make a word
      refine ⟨fun k hh => 0 ≤ k ∧ k ≤ 4 ∧ Only (· = h3.size) h4 hh ∧ ∃ w' : Ws 64, Var 293 hh h3.size (.words .u32 64 w') ∧ (∀ j, j ≠ i.toNat → wd w' j = wd w j) ∧ wd w' i.toNat = growN bs i.toNat k.toNat, fun k _ => ((4 : Int) - k).toNat,
        ⟨Int.le_refl 0, by decide, o5, w, v5, (fun j _ => rfl), p2 _ (Nat.le_refl _)⟩, ?_⟩
      rintro k h6 ⟨k0, k1, o6, w', v6, q1, q2⟩
      refine If.dec.2 ⟨fun hk => ?_, fun hk => ?_⟩
      · rw [wrap_i64 (n := 4 * i) (by omega) (by omega), wrap_i64 (n := 4 * i + k) (by omega) (by omega), wrap_i64 (n := k + 1) (by omega) (by omega)]
        refine ⟨i0, by omega, _, word_at v6 (by omega), by omega, by omega, i0, by omega, put_word v6 (i := i.toNat) (by omega) (by omega) fun h7 v7 o7 s7 => ?_⟩
        refine ⟨⟨by omega, by omega, o6.trans o7, _, v7, fun j hj => ?_, ?_⟩, by first | omega | (dsimp only; omega)⟩
        · rw [wd_set, if_neg (fun hx => hj hx.1.symm)]; exact q1 j hj
        · rw [wd_set, if_pos ⟨rfl, by omega⟩, q2]
          have t0' : (4 * i + k).toNat = 4 * i.toNat + k.toNat := by omega
          have t1' : (k + 1).toNat = k.toNat + 1 := by omega
          rw [t0', t1']
          rfl
      · have hk4 : k.toNat = 4 := by omega
        rw [hk4] at q2
        refine next h6 w' o6 v6 q1 ?_
        rw [q2, lay_low bs i.toNat (by omega)]
        exact grow4 _ _ _ _
    · rw [wrap_i64 (n := i - 15) (by omega) (by omega), wrap_i64 (n := i - 2) (by omega) (by omega), wrap_i64 (n := i - 16) (by omega) (by omega), wrap_i64 (n := i - 7) (by omega) (by omega)]
      have e15 : (i - 15).toNat = i.toNat - 15 := by omega
      have e2 : (i - 2).toNat = i.toNat - 2 := by omega
      have e16 : (i - 16).toNat = i.toNat - 16 := by omega
      have e7 : (i - 7).toNat = i.toNat - 7 := by omega
      rw [e15, e2, e16, e7]
      refine ⟨by omega, by omega, _, word_at v5 (by omega), by omega, by omega, _, word_at v5 (by omega), by omega, by omega, _, word_at v5 (by omega), by omega, by omega, _, word_at v5 (by omega), by decide, by decide, ?_⟩
      refine right_spec ⟨_, rfl, Ext.refl _, right_spec ⟨_, rfl, Ext.refl _, right_spec ⟨_, rfl, Ext.refl _, right_spec ⟨_, rfl, Ext.refl _, ?_⟩⟩⟩⟩
      refine ⟨i0, by omega, put_word v5 (i := i.toNat) (by omega) (by omega) fun h6 v6 o6 s6 => ?_⟩
      refine next h6 _ (o5.trans o6) v6 (fun j hj => by rw [wd_set, if_neg (fun hx => hj hx.1.symm)]) ?_
      rw [wd_set, if_pos ⟨rfl, by omega⟩, lay_high bs i.toNat (by omega) (by omega), ex_turned _ _ _ _ _ _ _ _ _ _ rfl rfl]
      unfold exAt
      rw [p1 _ (by omega), p1 _ (by omega), p1 _ (by omega), p1 _ (by omega), right7, right18, right17, right19]
  · have hw : w = layF bs := ws_eq fun j hj => p1 j (by omega)
    subst hw
    have va5 : Var 289 h5 h.size (.words .u32 8 w0) := va.only o5 (by omega)
    have vb5 : Var 293 h5 h1.size (.words .u32 64 keysW) := vb.only o5 (by omega)
    have vc5 : Var 289 h5 h2.size (.words .u32 8 (Ws.zero 8)) := vc.only o5 (by omega)
    refine ⟨by decide, by decide, _, word_at va5 (by decide), by decide, by decide, _, word_at va5 (by decide), by decide, by decide, _, word_at va5 (by decide), by decide, by decide, _, word_at va5 (by decide), by decide, by decide, _, word_at va5 (by decide),
      by decide, by decide, _, word_at va5 (by decide), by decide, by decide, _, word_at va5 (by decide), by decide, by decide, _, word_at va5 (by decide), ?_⟩
    refine ⟨fun σ hh => hh = h5 ∧ 0 ≤ σ.2.2.2.2.2.2.2.2 ∧ σ.2.2.2.2.2.2.2.2 ≤ 64 ∧ ∃ V : Ws 8, V = roundsW (layF bs) keysW w0 σ.2.2.2.2.2.2.2.2.toNat ∧ σ.1 = wd V 0 ∧ σ.2.1 = wd V 1 ∧ σ.2.2.1 = wd V 2 ∧ σ.2.2.2.1 = wd V 3 ∧ σ.2.2.2.2.1 = wd V 4 ∧ σ.2.2.2.2.2.1 = wd V 5 ∧ σ.2.2.2.2.2.2.1 = wd V 6 ∧ σ.2.2.2.2.2.2.2.1 = wd V 7,
      fun σ _ => ((64 : Int) - σ.2.2.2.2.2.2.2.2).toNat, ⟨rfl, Int.le_refl 0, (by decide : (0 : Int) ≤ 64), w0, rfl, rfl, rfl, rfl, rfl, rfl, rfl, rfl, rfl⟩, ?_⟩
    rintro ⟨a, b, c, d, e, f, g, k, j⟩ hh ⟨hhe, j0, j1, V, hV, ha, hb, hc, hd, he, hf, hg, hk⟩
    obtain rfl := hhe.symm
    dsimp only at j0 j1 hV ha hb hc hd he hf hg hk ⊢
    subst ha hb hc hd he hf hg hk
    refine If.dec.2 ⟨fun hj => ?_, fun hj => ?_⟩
    · rw [wrap_i64 (n := j + 1) (by omega) (by omega)]
      refine ⟨j0, by omega, _, word_at vb5 (by omega), j0, by omega, _, word_at v5 (by omega), ?_⟩
      refine right_spec ⟨_, rfl, Ext.refl _, right_spec ⟨_, rfl, Ext.refl _, right_spec ⟨_, rfl, Ext.refl _, right_spec ⟨_, rfl, right_spec ⟨_, rfl, right_spec ⟨_, rfl, ?_⟩⟩⟩⟩⟩⟩
      have hj1 : (j + 1).toNat = j.toNat + 1 := by omega
      obtain ⟨r0, r1, r2, r3, r4, r5, r6, r7⟩ := round_wd (layF bs) keysW j.toNat V
      refine ⟨⟨by trivial, by first | omega | (dsimp only; omega), by first | omega | (dsimp only; omega), roundW (layF bs) keysW j.toNat V, ?_, ?_, ?_, ?_, ?_, ?_, ?_, ?_, ?_⟩, by first | omega | (dsimp only; omega)⟩
      · rw [hj1, roundsW, ← hV]
      · rw [r0, ← right6, ← right11, ← right25, ← right2, ← right13, ← right22]; rfl
      · exact r1.symm
      · exact r2.symm
      · exact r3.symm
      · rw [r4, ← right6, ← right11, ← right25]; rfl
      · exact r5.symm
      · exact r6.symm
      · exact r7.symm
    · have hj2 : j.toNat = 64 := by omega
      rw [hj2] at hV
      refine ⟨by decide, by decide, _, word_at va5 (by decide), by decide, by decide, _, word_at va5 (by decide), by decide, by decide, _, word_at va5 (by decide), by decide, by decide, _, word_at va5 (by decide), by decide, by decide, _, word_at va5 (by decide),
        by decide, by decide, _, word_at va5 (by decide), by decide, by decide, _, word_at va5 (by decide), by decide, by decide, _, word_at va5 (by decide), ?_⟩
      have e8 := eight (takeF w0 bs)
      have sw : ∀ j, j < 8 → wd (takeF w0 bs) j = IntKind.wrap .u32 (wd w0 j + wd V j) := fun j hj => by
        unfold takeF
        rw [sum_wd _ _ 8 j (Nat.le_refl _), if_pos hj, hV]
      rw [sw 0 (by decide), sw 1 (by decide), sw 2 (by decide), sw 3 (by decide), sw 4 (by decide), sw 5 (by decide), sw 6 (by decide), sw 7 (by decide)] at e8
      have x05 : Ext h h5 := Only.cut x04 o5 fun i hi => by omega
      have fin : ∀ X : Ws 8, X = takeF w0 bs → wok h5 h2.size 0 8 ∧ Bind (TV.put h5 h2.size 0 (TV.words .u32 8 X)) fun hh => ∃ w : Ws 8, atWords hh h2.size 0 .u32 8 w ∧ R (TV.words .u32 8 w).val hh := by
        intro X hX
        subst hX
        exact put_in vc5 (t := .words .u32 8 (takeF w0 bs)) wsz fun h6 v6 o6 s6 => ⟨_, v6.at, hr h6 (Only.cut x05 o6 fun i hi => by omega)⟩
      exact fin _ e8

end
end Go.Proofs.YtennbinbffdimaaGreat.Board
end

section
/- The document's digest: primes, roots, and the whole. -/
namespace Go.Proofs.YtennbinbffdimaaGreat.Board
open Go Go.Vc
set_option maxRecDepth 100000

/-- The primes among the first numbers from 2 on. -/
def genL : Nat → List Int
  | 0 => []
  | k + 1 => if (genL k).all (fun p => !decide (Int.tmod ((k : Int) + 2) p = 0)) = true then genL k ++ [(k : Int) + 2] else genL k

section
variable {R : Value → Heap → Prop} {h : Heap}

theorem wrap_u64_small {n : Int} (h0 : 0 ≤ n) (h1 : n < 18446744073709551616) : IntKind.wrap .u64 n = n := by
  have : IntKind.wrap .u64 n = n % 18446744073709551616 := by
    unfold IntKind.wrap
    show (if (false && _) = true then _ else n % 2 ^ 64) = n % 18446744073709551616
    simp
  rw [this]
  omega

theorem p8 : (genL 17).length = 7 ∧ (genL 18).length = 8 := by decide +kernel

end
end Go.Proofs.YtennbinbffdimaaGreat.Board
end

section
/- The document's digest of any text, block by block. -/
namespace Go.Proofs.YtennbinbffdimaaGreat.Board
open Go Go.Vc

def padK (n : Nat) : Nat := (119 - n % 64) % 64

def rlens (n : Int) : Nat → List UInt8
  | 0 => []
  | m + 1 => rlens n m ++ [UInt8.ofNat (IntKind.wrap .u8 (Int.fdiv (IntKind.wrap .u64 (IntKind.wrap .u64 n * 8)) ((2 : Int) ^ min (Int.toNat (IntKind.wrap .u64 (IntKind.wrap .i64 (8 * (7 - (m : Int)))))) (IntKind.bits .u64)))).toNat]

def padF (s : List UInt8) : List UInt8 := ((s ++ [128]) ++ List.replicate (padK s.length) 0) ++ rlens (s.length : Int) 8

def foldP (t : List UInt8) (w : Ws 8) : Nat → Ws 8
  | 0 => w
  | n + 1 => takeF (foldP t w n) ((t.drop (64 * n)).take 64)

/-- The document's digest. -/
def docF (s : List UInt8) : Bs 32 := outF (foldP (padF s) firstW ((padF s).length / 64)) 8

theorem rlens_length (n : Int) : ∀ m, (rlens n m).length = m
  | 0 => rfl
  | m + 1 => by simp [rlens, rlens_length n m]

theorem padF_length (s : List UInt8) : (padF s).length = s.length + 1 + padK s.length + 8 := by
  unfold padF
  rw [List.length_append, List.length_append, List.length_append, rlens_length]
  simp

theorem padF_mod (s : List UInt8) : (padF s).length % 64 = 0 := by
  rw [padF_length]
  unfold padK
  omega

section
variable {R : Value → Heap → Prop} {h : Heap}

end
end Go.Proofs.YtennbinbffdimaaGreat.Board
end

section
/- The program's digest of texts of any length. -/
namespace Go.Proofs.YtennbinbffdimaaGreat.Board
open Go Go.Vc

abbrev bcells (bs : List UInt8) : List Value := bs.map fun c => Value.int .u8 (c.toNat : Int)

theorem bcells_one (bs : List UInt8) : ∀ v ∈ bcells bs, isOne v = true := fun v hv => by
  obtain ⟨c, _, rfl⟩ := List.mem_map.1 hv
  rfl

/-- A row of bytes, not from its block's beginning maybe, in blocks of Q, as all blocks to come are. -/
structure Row2 (Q : Nat → Prop) (h : Heap) (s : Sl) (bs : List UInt8) : Prop where
  len : bs.length = s.len
  cap : s.len ≤ s.cap
  row : (s.a = none ∧ s.cap = 0) ∨ ∃ b pre rest, s.a = some ⟨b, pre.length⟩ ∧ h[b]? = some (Go.Vc.row (pre ++ bcells bs ++ rest) 5) ∧ s.cap - s.len ≤ rest.length
  far : ∀ l, s.a = some l → Q l.b
  new : ∀ i, h.size ≤ i → Q i

section
variable {R : Value → Heap → Prop} {h : Heap} {Q : Nat → Prop} {s : Sl} {bs : List UInt8}

theorem Row2.lt (r : Row2 Q h s bs) : ∀ l, s.a = some l → l.b < h.size := fun l hl => by
  rcases r.row with ⟨hn, _⟩ | ⟨b, pre, rest, ha, hb, _⟩
  · rw [hn] at hl; cases hl
  · rw [ha] at hl; cases hl
    exact row_lt hb

theorem Row2.only {S : Nat → Prop} {h' : Heap} (r : Row2 Q h s bs) (o : Only S h h') (hs : ∀ l, s.a = some l → ¬ S l.b) : Row2 Q h' s bs := by
  refine ⟨r.len, r.cap, ?_, r.far, fun i hi => r.new i (Nat.le_trans o.size hi)⟩
  rcases r.row with h1 | ⟨b, pre, rest, ha, hb, hc⟩
  · exact .inl h1
  · exact .inr ⟨b, pre, rest, ha, (o.same b (row_lt hb) (hs _ ha)).trans hb, hc⟩

theorem Row2.elems (r : Row2 Q h s bs) : Elems 1 h s (bys bs) := by
  refine ⟨by rw [List.length_map]; exact r.len, fun hn => ?_, fun l hl i t ht => ?_⟩
  · rcases r.row with ⟨_, hc⟩ | ⟨b, pre, rest, ha, _⟩
    · have := r.len
      have := r.cap
      have : bs = [] := List.eq_nil_of_length_eq_zero (by omega)
      rw [this]
      rfl
    · rw [ha] at hn; cases hn
  · rcases r.row with ⟨hn, _⟩ | ⟨b, pre, rest, ha, hb, _⟩
    · rw [hn] at hl; cases hl
    · rw [ha] at hl
      cases hl
      rw [List.getElem?_map] at ht
      obtain ⟨c, hc, rfl⟩ := Option.map_eq_some_iff.1 ht
      show at1 h b (pre.length + i * 1) (.int .u8 (c.toNat : Int))
      refine at1_row hb ?_
      have hi := (List.getElem?_eq_some_iff.1 hc).1
      rw [Nat.mul_one, List.append_assoc, List.getElem?_append_right (Nat.le_add_right _ _), Nat.add_sub_cancel_left, List.getElem?_append_left (by rw [List.length_map]; exact hi), List.getElem?_map, hc]
      rfl

theorem Row2.cut2 (r : Row2 Q h s bs) {h' : Heap} (o : Only (In s) h h') : Only Q h h' := o.mono fun i ⟨l, hl, e⟩ => by rw [← e]; exact r.far l hl

theorem app2 {us : List UInt8} {K : Sl → Heap → Prop} (r : Row2 Q h s bs) (hl : bs.length + us.length < 1000000)
    (hk : ∀ s' h', Row2 Q h' s' (bs ++ us) → Only (In s) h h' → (∀ l, s'.a = some l → (∃ l', s.a = some l' ∧ l'.b = l.b) ∨ h.size ≤ l.b) → K s' h') :
    vcAppend ctx 5 s us.length (bcells us) h K := by
  have rl := r.len
  have rc := r.cap
  have blen : (bcells bs).length = s.len := by rw [List.length_map]; exact rl
  have ulen : (bcells us).length = us.length := List.length_map ..
  have both : bcells (bs ++ us) = bcells bs ++ bcells us := List.map_append ..
  refine ⟨bcells bs, ?_, by rw [bytes5]; omega, by rw [bytes5]; decide, fun hroom => ?_, fun hroom hn => ?_, fun hroom c hc => ?_⟩
  · rw [size5]
    refine ⟨by rw [blen, Nat.mul_one], ?_⟩
    rcases r.row with ⟨hn, hc⟩ | ⟨b, pre, rest, ha, hb, _⟩
    · exact .inl ⟨by omega, hn⟩
    · refine .inr ⟨_, ha, fun j hj => ?_⟩
      show cel h b (pre.length + j) = _
      rw [List.getElem?_eq_getElem hj]
      refine at1_row hb ?_
      rw [List.append_assoc, List.getElem?_append_right (Nat.le_add_right _ _), Nat.add_sub_cancel_left, List.getElem?_append_left hj, List.getElem?_eq_getElem hj]
  · rcases r.row with ⟨hn, hc⟩ | ⟨b, pre, rest, ha, hb, hr⟩
    · exact ⟨.inl (by omega), fun l hl => by rw [hn] at hl; cases hl⟩
    · refine ⟨.inr (by rw [ha]; rfl), fun l hl => ?_⟩
      rw [ha] at hl
      cases hl
      rw [size5]
      show wok h b (pre.length + s.len * 1) (bcells us).length ∧ _
      rw [Nat.mul_one]
      have hfit : pre.length + s.len + (bcells us).length ≤ (pre ++ bcells bs ++ rest).length := by
        rw [List.length_append, List.length_append, blen, ulen]
        omega
      refine ⟨wok_row hb hfit, ?_⟩
      obtain ⟨g1, g2, g3⟩ := putl_get (bcells us) h b (pre.length + s.len) _ 5 hb hfit
      refine hk _ _ ⟨by rw [List.length_append]; show _ = s.len + us.length; omega, hroom, .inr ⟨b, pre, rest.drop us.length, rfl, ?_, ?_⟩, ?_, fun i hi => r.new i (by rw [g2] at hi; exact hi)⟩ ⟨by rw [g2]; exact Nat.le_refl _, fun b' hb' hn => g3 b' (fun hx => hn ⟨_, ha, hx.symm⟩)⟩ fun l hl => by
        cases hl
        exact .inl ⟨_, ha, rfl⟩
      · rw [g1, both]
        congr 2
        have e1 : pre.length + s.len = (pre ++ bcells bs).length := by rw [List.length_append, blen]
        rw [e1, List.take_left, ulen, List.drop_append, List.drop_eq_nil_of_le (by omega), List.nil_append, Nat.add_sub_cancel_left, ← List.append_assoc]
      · rw [List.length_drop]
        show s.cap - (s.len + us.length) ≤ _
        omega
      · intro l hl
        cases hl
        exact r.far _ ha
  · rcases r.row with ⟨_, hc⟩ | ⟨b, pre, rest, ha, _⟩
    · have hu : us = [] := List.eq_nil_of_length_eq_zero (by omega)
      have hb0 : bs = [] := List.eq_nil_of_length_eq_zero (by omega)
      subst hu hb0
      refine hk _ _ ⟨by simp; omega, by show s.len + 0 ≤ s.cap; omega, .inl ⟨rfl, hc⟩, (fun l hl => by cases hl), r.new⟩ (Only.refl _ _) (fun l hl => by cases hl)
    · rw [ha] at hn; cases hn
  · refine hk _ _ ⟨by rw [List.length_append]; show _ = s.len + us.length; omega, hc, .inr ⟨h.size, [], zeros (ctx.ti 5).z (c - (s.len + us.length)), rfl, ?_, ?_⟩, ?_, ?_⟩ (Only.of_ext (Ext.push _ _)) ?_
    · rw [push_get, both, List.nil_append]
    · rw [zeros_length, zsize5, Nat.mul_one]
      exact Nat.le_refl _
    · intro l hl
      cases hl
      exact r.new _ (Nat.le_refl _)
    · intro i hi
      rw [Array.size_push] at hi
      exact r.new i (by omega)
    · intro l hl
      cases hl
      exact .inr (Nat.le_refl _)

theorem app2_byte {c : Int} {K : Sl → Heap → Prop} (r : Row2 Q h s bs) (hl : bs.length < 900000) (c0 : 0 ≤ c) (c1 : c < 256)
    (hk : ∀ s' h', Row2 Q h' s' (bs ++ [UInt8.ofNat c.toNat]) → Only (In s) h h' → (∀ l, s'.a = some l → (∃ l', s.a = some l' ∧ l'.b = l.b) ∨ h.size ≤ l.b) → K s' h') :
    ∃ new, slAt (h.push (row (TVs.cells [TV.int .u8 c]) 5)) (Sl.mk (some (Vc.Loc.mk h.size 0)) 1 1) 1 new ∧ (∀ v ∈ new, isOne v = true) ∧ vcAppend ctx 5 s 1 new (h.push (row (TVs.cells [TV.int .u8 c]) 5)) K := by
  have e : ((UInt8.ofNat c.toNat).toNat : Int) = c := by
    rw [UInt8.toNat_ofNat']
    omega
  have xp := Ext.push h (row (TVs.cells [TV.int .u8 c]) 5)
  refine ⟨bcells [UInt8.ofNat c.toNat], ⟨rfl, .inr ⟨_, rfl, fun j hj => ?_⟩⟩, bcells_one _, ?_⟩
  · have hj0 : j = 0 := by simpa using hj
    subst hj0
    have := at1_row (o := 0) (push_get h (row (TVs.cells [TV.int .u8 c]) 5)) (v := Value.int .u8 c) rfl
    unfold at1 at this
    rw [this]
    show some (Value.int .u8 c) = some (Value.int .u8 ((UInt8.ofNat c.toNat).toNat : Int))
    rw [e]
  · have r' : Row2 Q (h.push (row (TVs.cells [TV.int .u8 c]) 5)) s bs := r.only (Only.of_ext xp (S := fun _ => False)) (fun _ _ hx => hx)
    refine app2 (us := [UInt8.ofNat c.toNat]) r' (by simp; omega) fun s' h' r2 o2 b2 => hk s' h' r2 ((Only.of_ext xp).trans o2) fun l hl => ?_
    rcases b2 l hl with h1 | h1
    · exact .inl h1
    · exact .inr (by have := xp.size; omega)

/-- What is left behind 64 bytes. -/
theorem Row2.after {h' : Heap} (r : Row2 Q h s bs) (h64 : 64 ≤ bs.length) (o : Only (fun i => ¬ In s i) h h') (hn : ∀ i, h'.size ≤ i → Q i) : Row2 Q h' (cutSl s 64 s.len 1) (bs.drop 64) := by
  have rl := r.len
  have rc := r.cap
  refine ⟨by simp only [cutSl, List.length_drop]; omega, by simp only [cutSl]; omega, ?_, fun l hl => ?_, hn⟩
  · rcases r.row with ⟨_, hc⟩ | ⟨b, pre, rest, ha, hb, hr⟩
    · omega
    · have hb' : h'[b]? = some (Go.Vc.row (pre ++ bcells bs ++ rest) 5) := (o.same b (row_lt hb) (fun hx => hx ⟨_, ha, rfl⟩)).trans hb
      by_cases hc : s.cap = 64
      · refine .inr ⟨b, pre, bcells bs ++ rest, by simp only [cutSl]; rw [if_pos hc, ha], ?_, by simp only [cutSl]; omega⟩
        have : bs.drop 64 = [] := List.drop_eq_nil_of_le (by omega)
        rw [this, hb']
        simp
      · refine .inr ⟨b, pre ++ bcells (bs.take 64), rest, ?_, ?_, by simp only [cutSl]; omega⟩
        · simp only [cutSl]
          rw [if_neg hc, ha, List.length_append, List.length_map, List.length_take, Nat.min_eq_left h64, Nat.mul_one]
          rfl
        · rw [hb']
          congr 2
          have : bcells bs = bcells (bs.take 64) ++ bcells (bs.drop 64) := by rw [← List.map_append, List.take_append_drop]
          rw [this]
          simp
  · obtain ⟨l', h1, h2⟩ := cut_block hl
    rw [← h2]
    exact r.far l' h1

theorem foldP_append (T U : List UInt8) (w : Ws 8) : ∀ k, 64 * k ≤ T.length → foldP (T ++ U) w k = foldP T w k
  | 0, _ => rfl
  | k + 1, hk => by
    rw [foldP, foldP, foldP_append T U w k (by omega), List.drop_append_of_le_length (by omega), List.take_append_of_le_length (by rw [List.length_drop]; omega)]

/-- The state, behind k blocks of a text. -/
structure St2 (Q : Nat → Prop) (h : Heap) (b : Nat) (T : List UInt8) (k : Nat) (N : Int) (s : Sl) : Prop where
  var : Var 333 h b (.agg [.words .u32 8 (foldP T firstW k), .slice s, .int .u64 N])
  row : Row2 Q h s (T.drop (64 * k))
  fit : 64 * k ≤ T.length
  far : Q b
  apart : ∀ l, s.a = some l → l.b ≠ b

variable {b k : Nat} {T : List UInt8} {N : Int}

theorem St2.words (st : St2 Q h b T k N s) : atWords h b 0 .u32 8 (foldP T firstW k) := st.var.at.1
theorem St2.rest (st : St2 Q h b T k N s) : at1 h b 8 (slVal s) := st.var.at.2.1
theorem St2.count (st : St2 Q h b T k N s) : at1 h b 9 (.int .u64 N) := st.var.at.2.2

theorem St2.grown {h1 : Heap} {s' : Sl} {U : List UInt8} (st : St2 Q h b T k N s) (r1 : Row2 Q h1 s' (T.drop (64 * k) ++ U)) (o1 : Only (In s) h h1) (b1 : ∀ l, s'.a = some l → (∃ l', s.a = some l' ∧ l'.b = l.b) ∨ h.size ≤ l.b) {K : Heap → Prop}
    (hk : ∀ h2, St2 Q h2 b (T ++ U) k N s' → Only Q h h2 → h2.size = h1.size → K h2) : wok h1 b 8 1 ∧ Bind ((TV.slice s').put h1 b 8) K := by
  have hne : ∀ l, s'.a = some l → l.b ≠ b := fun l hl e => by
    rcases b1 l hl with ⟨l', h9, h10⟩ | h9
    · exact st.apart l' h9 (h10.trans e)
    · have := st.var.lt; omega
  have v1 := st.var.only o1 (fun ⟨l, hl, e⟩ => st.apart l hl e)
  refine field_in (i := 1) (t0 := .slice s) v1 rfl rfl rfl rfl fun h2 v2 (o2 : Only (· = b) h1 h2) s2 => hk h2 ⟨?_, ?_, ?_, st.far, hne⟩ ((st.row.cut2 o1).trans (o2.mono fun i hi => by subst hi; exact st.far)) s2
  · rw [foldP_append T U firstW k st.fit]
    exact v2
  · rw [List.drop_append_of_le_length st.fit]
    exact r1.only o2 hne
  · rw [List.length_append]; have := st.fit; omega

/-- A block is taken in. -/
theorem St2.step (st : St2 Q h b T k N s) (h64 : 64 ≤ s.len)
    (hk : ∀ h2 h3, Var 333 h2 b (.agg [.words .u32 8 (foldP T firstW (k + 1)), .slice s, .int .u64 N]) → Only (· = b) h h2 → (∀ K : Heap → Prop, (∀ h4, St2 Q h4 b T (k + 1) N (cutSl s 64 s.len 1) → Only Q h h4 → K h4) → wok h2 b 8 1 ∧ Bind ((TV.slice (cutSl s 64 s.len 1)).put h2 b 8) K) → h3 = h2 → R (TV.tup []).val h2) :
    CallsH Tryz.prog 292 (TVs.vals [.ptr (some ⟨b, 0⟩), .slice (cutSl s 0 64 1)]) h R := by
  have rl := st.row.len
  rw [List.length_drop] at rl
  have ec := cut_elems (i := 0) (j := 64) st.row.elems (by omega) h64 st.row.cap
  rw [List.drop_zero, Nat.sub_zero, ← List.map_take] at ec
  have hfit := st.fit
  refine take_takes h R b (foldP T firstW k) s (cutSl s 0 64 1) ((T.drop (64 * k)).take 64) N st.var ec (by rw [List.length_take, List.length_drop]; omega) (fun l hl => by
    obtain ⟨l', h1, h2⟩ := cut_block hl
    rw [← h2]
    exact st.apart l' h1) fun h2 v2 o2 => ?_
  refine hk h2 h2 v2 o2 (fun K hK => ?_) rfl
  refine field_in (i := 1) (t0 := .slice s) v2 rfl rfl rfl rfl fun h4 v4 (o4 : Only (· = b) h2 h4) s4 => hK h4 ⟨v4, ?_, by omega, st.far, fun l hl => ?_⟩ ((o2.mono fun i hi => by subst hi; exact st.far).trans (o4.mono fun i hi => by subst hi; exact st.far))
  · have : T.drop (64 * (k + 1)) = (T.drop (64 * k)).drop 64 := by rw [List.drop_drop]; congr 1
    rw [this]
    refine st.row.after (by rw [List.length_drop]; omega) ((o2.trans o4).mono fun i hi => ?_) fun i hi => st.row.new i (by have := o2.size; omega)
    rintro ⟨l, hl, e⟩
    exact st.apart l hl (e.trans hi)
  · obtain ⟨l', h1, h2⟩ := cut_block hl
    rw [← h2]
    exact st.apart l' h1

/-- Bytes more. -/
theorem add2_spec (st : St2 Q h b T k (T.length : Int) s) {text : List UInt8} (hl : T.length + text.length < 800000)
    (hr : ∀ h' s' k', St2 Q h' b (T ++ text) k' ((T ++ text).length : Int) s' → s'.len < 64 → Only Q h h' → R (TV.tup []).val h') :
    CallsH Tryz.prog 258 (TVs.vals [.ptr (some ⟨b, 0⟩), .str text]) h R := by
  apply sha_state_add_calls
  unfold sha_state_add_vc
  refine ⟨_, st.count, ?_⟩
  have hN : IntKind.wrap .u64 ((T.length : Int) + IntKind.wrap .u64 (text.length : Int)) = ((T ++ text).length : Int) := by
    rw [wrap_u64_small (n := (text.length : Int)) (by omega) (by omega), wrap_u64_small (by omega) (by omega), List.length_append]
    omega
  rw [hN]
  refine field_in (i := 2) (t0 := .int .u64 (T.length : Int)) st.var rfl rfl rfl rfl fun h1 v1 (o1 : Only (· = b) h h1) s1 => ?_
  have st1 : St2 Q h1 b T k ((T ++ text).length : Int) s := ⟨v1, st.row.only o1 st.apart, st.fit, st.far, st.apart⟩
  have f1 : Only Q h h1 := o1.mono fun i hi => by subst hi; exact st.far
  have dl : (T.drop (64 * k)).length ≤ T.length := by rw [List.length_drop]; omega
  refine ⟨s, st1.rest, app2 st1.row (by omega) fun s' h2 r2 o2 b2 => st1.grown r2 o2 b2 fun h3 st3 f3 s3 => ?_⟩
  refine ⟨fun _ hh => ∃ s4 k4, St2 Q hh b (T ++ text) k4 ((T ++ text).length : Int) s4 ∧ Only Q h hh, fun _ hh => lenAt hh b, ⟨s', k, st3, f1.trans f3⟩, ?_⟩
  rintro _ h4 ⟨s4, k4, st4, f4⟩
  refine ⟨s4, st4.rest, If.dec.2 ⟨fun h64 => ?_, fun h64 => hr h4 s4 k4 st4 (by omega) f4⟩⟩
  have hc := st4.row.cap
  refine ⟨s4, st4.rest, by decide, by omega, ?_⟩
  refine st4.step (by omega) fun h5 _ v5 o5 hstep _ => ⟨rfl, s4, v5.at.2.1, by decide, by omega, hstep _ fun h6 st6 f6 => ?_⟩
  refine ⟨⟨_, _, st6, f4.trans f6⟩, ?_⟩
  have g1 := lenAt_of st4.rest
  have g2 := lenAt_of st6.rest
  simp only [cutSl] at g2
  dsimp only
  omega

def rlx (x : Int) : Nat → List UInt8
  | 0 => []
  | m + 1 => rlx x m ++ [UInt8.ofNat (IntKind.wrap .u8 (Int.fdiv x ((2 : Int) ^ min (Int.toNat (IntKind.wrap .u64 (IntKind.wrap .i64 (8 * (7 - (m : Int)))))) (IntKind.bits .u64)))).toNat]
def lnx (x : Int) : Nat → List UInt8
  | 0 => []
  | i + 1 => lnx x i ++ [UInt8.ofNat (IntKind.wrap .u8 (Int.fdiv x (2 ^ min (Int.toNat (IntKind.wrap .i64 (56 - IntKind.wrap .i64 (8 * (i : Int))))) (IntKind.bits .u64)))).toNat]
theorem rlx_eq (n : Int) : ∀ m, rlens n m = rlx (IntKind.wrap .u64 (IntKind.wrap .u64 n * 8)) m
  | 0 => rfl
  | m + 1 => by rw [rlens, rlx, rlx_eq n m]
theorem lnx_eq (n : Int) : ∀ m, lens n m = lnx (IntKind.wrap .u64 (n * 8)) m
  | 0 => rfl
  | m + 1 => by rw [lens, lnx, lnx_eq n m]; rfl
theorem rlx_lnx (x : Int) : rlx x 8 = lnx x 8 := by kernel_rfl

theorem lens_rlens (n : Int) (h0 : 0 ≤ n) (h1 : n < 18446744073709551616) : rlens n 8 = lens n 8 := by
  rw [rlx_eq, lnx_eq, wrap_u64_small h0 h1, rlx_lnx]

set_option maxRecDepth 100000 in
set_option maxHeartbeats 1000000 in
theorem end2_spec (st : St2 Q h b T k (T.length : Int) s) (hl : T.length < 700000) (hr : ∀ h', Only Q h h' → R (TV.bytes 32 (docF T)).val h') : CallsH Tryz.prog 259 (TVs.vals [.ptr (some ⟨b, 0⟩)]) h R := by
  apply sha_state_end_calls
  unfold sha_state_end_vc
  have blt := st.var.lt
  have slt := st.row.lt
  refine newTV_in fun h1 v1 x1 s1 => ?_
  have st1 : St2 (fun i => Q i ∧ i ≠ h.size) h1 b T k (T.length : Int) s := ⟨st.var.ext x1, ⟨st.row.len, st.row.cap, (st.row.only (Only.of_ext x1 (S := fun _ => False)) (fun _ _ hx => hx)).row, fun l hl' => ⟨st.row.far l hl', by have := slt l hl'; omega⟩, fun i hi => ⟨st.row.new i (by omega), by omega⟩⟩, st.fit, ⟨st.far, by omega⟩, st.apart⟩
  have f1 : Only Q h h1 := Only.of_ext x1
  have hfit := st.fit
  have rl0 := st.row.len
  rw [List.length_drop] at rl0
  refine ⟨_, st1.count, s, st1.rest, ?_⟩
  refine app2_byte st1.row (by rw [List.length_drop]; omega) (by decide) (by decide) fun s2 h2 r2 o2 b2 => ?_
  have e128 : UInt8.ofNat (Int.toNat 128) = 128 := by decide
  rw [e128] at r2
  refine st1.grown r2 o2 b2 fun h3 st3 f3 s3 => ?_
  have hpk : padK T.length < 64 := by unfold padK; omega
  have lj : ∀ j, ((T ++ [128]) ++ List.replicate j (0 : UInt8)).length = T.length + 1 + j := fun j => by simp; omega
  refine ⟨fun _ hh => ∃ s' j, St2 (fun i => Q i ∧ i ≠ h.size) hh b ((T ++ [128]) ++ List.replicate j 0) k (T.length : Int) s' ∧ j ≤ padK T.length ∧ Only (fun i => Q i ∧ i ≠ h.size) h1 hh, fun _ hh => T.length + 100 - lenAt hh b, ⟨s2, 0, by simpa using st3, Nat.zero_le _, f3⟩, ?_⟩
  rintro _ h4 ⟨s4, j, st4, hj, f4⟩
  have l4 := st4.row.len
  rw [List.length_drop, lj] at l4
  have hmod : Int.tmod (s4.len : Int) 64 = ((s4.len % 64 : Nat) : Int) := by
    rw [Int.tmod_eq_emod_of_nonneg (by omega)]
    rfl
  refine ⟨s4, st4.rest, by decide, ?_⟩
  rw [hmod]
  refine If.split (fun hne => ?_) (fun heq => ?_)
  · have hne' : ¬ s4.len % 64 = 56 := fun e => by rw [e] at hne; simp at hne
    have hjp : j < padK T.length := by
      rcases Nat.lt_or_ge j (padK T.length) with h9 | h9
      · exact h9
      · exfalso
        apply hne'
        have : j = padK T.length := by omega
        unfold padK at this
        omega
    refine ⟨s4, st4.rest, ?_⟩
    refine app2_byte st4.row (by rw [List.length_drop, lj]; omega) (by decide) (by decide) fun s5 h5 r5 o5 b5 => ?_
    refine st4.grown r5 o5 b5 fun h6 st6 f6 s6 => ?_
    have e0 : UInt8.ofNat (Int.toNat 0) = 0 := by decide
    have er : ((T ++ [128]) ++ List.replicate j 0) ++ [UInt8.ofNat (Int.toNat 0)] = (T ++ [128]) ++ List.replicate (j + 1) 0 := by
      rw [e0, List.append_assoc, List.replicate_succ']
    rw [er] at st6
    have l6 := st6.row.len
    rw [List.length_drop, lj] at l6
    refine ⟨⟨s5, j + 1, st6, by omega, f4.trans f6⟩, ?_⟩
    have g1 := lenAt_of st4.rest
    have g2 := lenAt_of st6.rest
    dsimp only
    omega
  have heq' : s4.len % 64 = 56 := by simp at heq; omega
  have hjp : j = padK T.length := by unfold padK at hj ⊢; omega
  subst hjp
  have hbase : padF T = ((T ++ [128]) ++ List.replicate (padK T.length) 0) ++ lens (T.length : Int) 8 := by
    unfold padF
    rw [lens_rlens _ (by omega) (by omega)]
  have hbl := lj (padK T.length)
  generalize (T ++ [128]) ++ List.replicate (padK T.length) (0 : UInt8) = base at *
  refine ⟨fun i hh => 0 ≤ i ∧ i ≤ 8 ∧ ∃ s', St2 (fun i => Q i ∧ i ≠ h.size) hh b (base ++ lens (T.length : Int) i.toNat) k (T.length : Int) s' ∧ Only (fun i => Q i ∧ i ≠ h.size) h1 hh, fun i _ => ((8 : Int) - i).toNat, ⟨Int.le_refl 0, by decide, s4, by simpa [lens] using st4, f4⟩, ?_⟩
  rintro i h5 ⟨i0, i1, s5, st5, f5⟩
  have l5 := st5.row.len
  rw [List.length_drop, List.length_append, lens_length, hbl] at l5
  refine If.dec.2 ⟨fun hi => ?_, fun hi => ?_⟩
  · refine ⟨s5, st5.rest, ?_, Ext.push _ _, ?_⟩
    · rw [wrap_i64 (n := 8 * i) (by omega) (by omega), wrap_i64 (by omega) (by omega)]
      omega
    refine app2_byte st5.row (by rw [List.length_drop, List.length_append, lens_length, hbl]; omega) (wrap_u8_range _).1 (wrap_u8_range _).2 fun s6 h6 r6 o6 b6 => ?_
    refine st5.grown r6 o6 b6 fun h7 st7 f7 s7 => ?_
    rw [wrap_i64 (n := i + 1) (by omega) (by omega)]
    have hi1 : (i + 1).toNat = i.toNat + 1 := by omega
    refine ⟨⟨by omega, by omega, s6, ?_, f5.trans f7⟩, by first | omega | (dsimp only; omega)⟩
    rw [hi1]
    unfold lens lenB
    rw [show ((i.toNat : Nat) : Int) = i by omega, ← List.append_assoc]
    exact st7
  have hi2 : i.toNat = 8 := by omega
  rw [hi2, ← hbase] at st5
  have hpm := padF_mod T
  have hdoc : docF T = outF (foldP (padF T) firstW ((padF T).length / 64)) 8 := rfl
  rw [hdoc] at hr
  generalize padF T = P at *
  refine ⟨fun _ hh => ∃ s' k', St2 (fun i => Q i ∧ i ≠ h.size) hh b P k' (T.length : Int) s' ∧ Only (fun i => Q i ∧ i ≠ h.size) h1 hh, fun _ hh => lenAt hh b, ⟨s5, k, st5, f5⟩, ?_⟩
  rintro _ h6 ⟨s6, k6, st6, f6⟩
  have l6 := st6.row.len
  have hfit6 := st6.fit
  rw [List.length_drop] at l6
  refine ⟨s6, st6.rest, If.dec.2 ⟨fun hpos => ?_, fun hz => ?_⟩⟩
  · have h64 : 64 ≤ s6.len := by omega
    have hc := st6.row.cap
    refine ⟨s6, st6.rest, by decide, by omega, ?_⟩
    refine st6.step h64 fun h7 _ v7 o7 hstep _ => ⟨rfl, s6, v7.at.2.1, by decide, by omega, hstep _ fun h8 st8 f8 => ?_⟩
    refine ⟨⟨_, _, st8, f6.trans f8⟩, ?_⟩
    have g1 := lenAt_of st6.rest
    have g2 := lenAt_of st8.rest
    simp only [cutSl] at g2
    dsimp only
    omega
  have hk6 : k6 = P.length / 64 := by omega
  refine newTV_in fun h7 v7 x7 s7 => ?_
  refine ⟨_, (st6.var.ext x7).at.1, ?_⟩
  rw [hk6]
  have f6s := f6.size
  refine ⟨fun i hh => 0 ≤ i ∧ i ≤ 8 ∧ Var 52 hh h6.size (.bytes 32 (outF (foldP P firstW (P.length / 64)) i.toNat)) ∧ Only (· = h6.size) h7 hh, fun i _ => ((8 : Int) - i).toNat, ⟨Int.le_refl 0, by decide, v7, Only.refl _ _⟩, ?_⟩
  rintro i h8 ⟨i0, i1, v8, o8⟩
  refine If.dec.2 ⟨fun hi => ?_, fun hi => ?_⟩
  · rw [wrap_i64 (n := 4 * i) (by omega) (by omega), wrap_i64 (n := 4 * i + 1) (by omega) (by omega), wrap_i64 (n := 4 * i + 2) (by omega) (by omega), wrap_i64 (n := 4 * i + 3) (by omega) (by omega), wrap_i64 (n := i + 1) (by omega) (by omega)]
    refine ⟨i0, by omega, by decide, by decide, by decide, by omega, by omega, put_byte v8 (i := 4 * i.toNat) (by omega) (by omega) (wrap_u8_range _).1 (wrap_u8_range _).2 fun h9 v9 o9 s9 => ?_⟩
    refine ⟨by omega, by omega, put_byte v9 (i := 4 * i.toNat + 1) (by omega) (by omega) (wrap_u8_range _).1 (wrap_u8_range _).2 fun h10 v10 o10 s10 => ?_⟩
    refine ⟨by omega, by omega, put_byte v10 (i := 4 * i.toNat + 2) (by omega) (by omega) (wrap_u8_range _).1 (wrap_u8_range _).2 fun h11 v11 o11 s11 => ?_⟩
    refine ⟨by omega, by omega, put_byte v11 (i := 4 * i.toNat + 3) (by omega) (by omega) (wrap_u8_range _).1 (wrap_u8_range _).2 fun h12 v12 o12 s12 => ?_⟩
    have hi1 : (i + 1).toNat = i.toNat + 1 := by omega
    refine ⟨⟨by omega, by omega, ?_, o8.trans (o9.trans (o10.trans (o11.trans o12)))⟩, by first | omega | (dsimp only; omega)⟩
    rw [hi1]
    unfold outF out1 ob
    exact v12
  · have hi3 : i.toNat = 8 := by omega
    rw [hi3] at v8
    have vr : Var 52 h8 h.size (.bytes 32 (Bs.zero 32)) := ((v1.only f6 (fun h9 => h9.2 rfl)).ext x7).only o8 (by omega)
    refine ⟨_, v8.bytes, put_in vr (t := .bytes 32 (outF (foldP P firstW (P.length / 64)) 8)) bsz fun h9 v9 o9 s9 => ⟨_, v9.bytes, ?_⟩⟩
    refine hr _ (f1.trans ((f6.mono fun i hi => hi.1).trans ((Only.of_ext x7).trans ((o8.mono fun i hi => ?_).trans (o9.mono fun i hi => ?_)))))
    · subst hi; exact st.row.new _ (by omega)
    · subst hi; exact st.row.new _ (Nat.le_refl _)

theorem of2_spec {s : Sl} {ts : List (List UInt8)} (e : Elems 1 h s (ts.map TV.str)) (hl : ts.flatten.length < 700000) (hts2 : ts.length < 100000) (hr : ∀ h', Ext h h' → R (TV.bytes 32 (docF ts.flatten)).val h') : CallsH Tryz.prog 201 (TVs.vals [.slice s]) h R := by
  apply sha_Of_calls
  unfold sha_Of_vc
  refine newTV_in fun h1 v1 x1 s1 => ?_
  refine first_spec fun h2 x2 => ⟨_, rfl, newTV_in fun h3 v3 x3 s3 => ?_⟩
  have z1 := x1.size
  have z2 := x2.size
  have st3 : St2 (fun i => h.size < i) h3 h2.size [] 0 0 Sl.nil := ⟨v3, ⟨rfl, Nat.le_refl _, .inl ⟨rfl, rfl⟩, (fun l hl => by cases hl), fun i hi => by omega⟩, Nat.le_refl _, by omega, fun l hl => by cases hl⟩
  have x13 : Ext h h3 := (x1.trans x2).trans x3
  have v13 : Var 52 h3 h.size (.bytes 32 (Bs.zero 32)) := (v1.ext x2).ext x3
  have far : ∀ hh, Only (fun i => h.size < i) h3 hh → Ext h hh := fun hh o => Only.cut x13 o fun i hi => by omega
  have hn : ts.length = s.len := by have := e.len; rwa [List.length_map] at this
  refine ⟨fun i hh => 0 ≤ i ∧ i ≤ s.len ∧ (∃ s' k, St2 (fun i => h.size < i) hh h2.size (ts.take i.toNat).flatten k ((ts.take i.toNat).flatten.length : Int) s') ∧ Only (fun i => h.size < i) h3 hh, fun i _ => ((s.len : Int) - i).toNat, ⟨Int.le_refl 0, by omega, ⟨Sl.nil, 0, st3⟩, Only.refl _ _⟩, ?_⟩
  rintro i h4 ⟨i0, i1, ⟨s4, k4, st4⟩, o4⟩
  refine If.dec.2 ⟨fun hi => ?_, fun hi => ?_⟩
  · refine (e.ext (far h4 o4)).read i0 (by omega) fun l t hla ht ha => ?_
    rw [List.getElem?_map] at ht
    obtain ⟨x, hx, rfl⟩ := Option.map_eq_some_iff.1 ht
    refine ⟨x, ha, ?_⟩
    have hts := take_snoc hx
    have hle := flatten_take_le ts (i.toNat + 1)
    rw [hts, List.flatten_append, List.length_append] at hle
    have hxl : ([x] : List (List UInt8)).flatten = x := by simp
    rw [hxl] at hle
    refine add2_spec st4 (by omega) fun h5 s5 k5 st5 _ f5 => ⟨rfl, ?_⟩
    rw [wrap_i64 (n := i + 1) (by omega) (by omega)]
    have hi1 : (i + 1).toNat = i.toNat + 1 := by omega
    refine ⟨⟨by omega, by omega, ⟨s5, k5, ?_⟩, o4.trans f5⟩, by first | omega | (dsimp only; omega)⟩
    rw [hi1, hts, List.flatten_append, hxl]
    exact st5
  · have hi2 : i.toNat = ts.length := by omega
    rw [hi2, List.take_length] at st4
    refine end2_spec st4 hl fun h5 f5 => ⟨_, rfl, ?_⟩
    have v5 : Var 52 h5 h.size (.bytes 32 (Bs.zero 32)) := (v13.only o4 (Nat.lt_irrefl _)).only f5 (Nat.lt_irrefl _)
    refine put_in v5 (t := .bytes 32 (docF ts.flatten)) bsz fun h6 v6 o6 s6 => ⟨_, v6.bytes, ?_⟩
    exact hr h6 (Only.cut (far h5 (o4.trans f5)) o6 fun i hi => by omega)

end
end Go.Proofs.YtennbinbffdimaaGreat.Board
end

section
/- The document's lots, and the choice of the least one by one. -/
namespace Go.Proofs.YtennbinbffdimaaGreat.Board
open Go Go.Vc
set_option maxRecDepth 100000

/-! ### A number's bytes -/

section
variable {R : Value → Heap → Prop} {h : Heap}

end

/-! ### The least of those that are left -/

end Go.Proofs.YtennbinbffdimaaGreat.Board
end

section
/- A validator's lot: the digest of a word and six bytes; which of two seats comes first. -/
namespace Go.Proofs.YtennbinbffdimaaGreat.Board
open Go Go.Vc
section
variable {R : Value → Heap → Prop} {h : Heap}

/-! ### le.Put -/

def board : List UInt8 := (ByteArray.mk #[(98 : UInt8), (111 : UInt8), (97 : UInt8), (114 : UInt8), (100 : UInt8)]).data.toList

/-! ### Which of two seats comes first -/

/-- A validator's digest for a slot. -/
def lotF (slot who : Int) : Bs 32 := docF ((board ++ leF (IntKind.wrap .u64 slot) 4) ++ leF (IntKind.wrap .u64 who) 2)

theorem lot_spec {R : Value → Heap → Prop} {h : Heap} {slot who : Int} (hr : ∀ h', Ext h h' → R (TV.bytes 32 (lotF slot who)).val h') : CallsH Tryz.prog 314 (TVs.vals [.int .i64 slot, .int .i64 who]) h R := by
  apply board_lot_calls
  unfold board_lot_vc
  refine newTV_in fun h1 v1 x1 s1 => ?_
  have r1 : Row (fun i => h.size < i) h1 Sl.nil [] := ⟨Own.nil _ _ _, (fun l hl => by cases hl), fun i hi => by omega⟩
  refine put_spec_le (k := 4) r1 (by decide) (by decide) fun h2 s2 r2 o2 => ⟨_, rfl, ?_⟩
  have l4 := leF_length 4 (IntKind.wrap .u64 slot)
  have l2 := leF_length 2 (IntKind.wrap .u64 who)
  refine put_spec_le (k := 2) r2 (by rw [List.length_append]; simp only [List.length_nil]; omega) (by decide) fun h3 s3 r3 o3 => ⟨_, rfl, _, r3.str, ?_⟩
  have o13 := o2.trans o3
  have x13 : Ext h h3 := Only.cut x1 o13 fun i hi => by omega
  have v3 : Var 52 h3 h.size (.bytes 32 (Bs.zero 32)) := v1.only o13 (Nat.lt_irrefl _)
  have hflat : [board, ([] ++ leF (IntKind.wrap .u64 slot) 4) ++ leF (IntKind.wrap .u64 who) 2].flatten = (board ++ leF (IntKind.wrap .u64 slot) 4) ++ leF (IntKind.wrap .u64 who) 2 := by simp
  have xp := Ext.push h3 (row (TVs.cells [TV.str board, TV.str (([] ++ leF (IntKind.wrap .u64 slot) 4) ++ leF (IntKind.wrap .u64 who) 2)]) 9)
  refine of2_spec (ts := [board, ([] ++ leF (IntKind.wrap .u64 slot) 4) ++ leF (IntKind.wrap .u64 who) 2]) ?_ ?_ (by simp) fun h4 x4 => ⟨_, rfl, ?_⟩
  · exact (Own.new (T := 9) (sz := 1) h3 [TV.str board, TV.str (([] ++ leF (IntKind.wrap .u64 slot) 4) ++ leF (IntKind.wrap .u64 who) 2)] (fun t ht => by
      simp only [List.mem_cons, List.not_mem_nil, or_false] at ht
      rcases ht with rfl | rfl <;> rfl)).elems
  · have : board.length = 5 := by decide
    rw [hflat, List.length_append, List.length_append]
    omega
  · rw [hflat]
    refine put_in ((v3.ext xp).ext x4) (t := .bytes 32 (lotF slot who)) bsz fun h5 v5 o5 s5 => ⟨_, v5.bytes, ?_⟩
    exact hr h5 (Only.cut ((x13.trans xp).trans x4) o5 fun i hi => by omega)

structure Seat where
  lot : Bs 32
  who : Int

instance : Inhabited Seat := ⟨⟨Bs.zero 32, 0⟩⟩
def Seat.tv (s : Seat) : TV := .agg [.bytes 32 s.lot, .int .i64 s.who]

def befF (x y : Seat) : Int :=
  if Op.bytesLess x.lot.l y.lot.l = true then -1 else if Op.bytesLess y.lot.l x.lot.l = true then 1 else if x.who < y.who then -1 else if y.who < x.who then 1 else 0

theorem nan_spec {x : Int} (hr : R (TV.bool false).val h) : CallsS Tryz.prog 334 (TVs.vals [.int .i64 x]) h R := by
  apply cmp_isNaN_int__calls
  unfold cmp_isNaN_int__vc
  have : (!decide (x = x)) = false := by simp
  rw [this]
  exact hr

theorem cmp_spec {x y : Int} (hr : R (TV.int .i64 (if x < y then -1 else if y < x then 1 else 0)).val h) : CallsS Tryz.prog 336 (TVs.vals [.int .i64 x, .int .i64 y]) h R := by
  apply cmp_Compare_int__calls
  unfold cmp_Compare_int__vc
  refine nan_spec ⟨_, rfl, nan_spec ⟨_, rfl, ?_⟩⟩
  refine If.no (If.no (If.dec.2 ⟨fun h1 => ?_, fun h1 => If.dec.2 ⟨fun h2 => ?_, fun h2 => ?_⟩⟩))
  · rw [if_pos h1] at hr; exact hr
  · rw [if_neg h1, if_pos h2] at hr; exact hr
  · rw [if_neg h1, if_neg h2] at hr; exact hr

theorem before_spec {x y : Seat} (hr : ∀ h', Ext h h' → R (TV.int .i64 (befF x y)).val h') : CallsS Tryz.prog 316 (TVs.vals [x.tv, y.tv]) h R := by
  apply board_before_calls x.lot x.who y.lot y.who
  unfold board_before_vc
  refine newTV_in fun h1 v1 x1 s1 => newTV_in fun h2 v2 x2 s2 => ?_
  have v1' := v1.ext x2
  have x12 := x1.trans x2
  refine ⟨x.lot, v1'.at.1, y.lot, v2.at.1, less_specS fun h3 x3 => ⟨_, rfl, If.split (fun e => ?_) fun e => ?_⟩⟩
  · have := hr h3 (x12.trans x3)
    rwa [show befF x y = -1 from if_pos e] at this
  · have v13 := v1'.ext x3
    have v23 := v2.ext x3
    refine ⟨y.lot, v23.at.1, x.lot, v13.at.1, less_specS fun h4 x4 => ⟨_, rfl, If.split (fun e2 => ?_) fun e2 => ?_⟩⟩
    · have := hr h4 ((x12.trans x3).trans x4)
      rwa [show befF x y = 1 by unfold befF; rw [if_neg (by rw [e]; decide), if_pos e2]] at this
    · refine ⟨x.who, (v13.ext x4).at.2, y.who, (v23.ext x4).at.2, cmp_spec ⟨_, rfl, ?_⟩⟩
      have := hr h4 ((x12.trans x3).trans x4)
      rwa [show befF x y = if x.who < y.who then -1 else if y.who < x.who then 1 else 0 by unfold befF; rw [if_neg (by rw [e]; decide), if_neg (by rw [e2]; decide)]] at this

end
end Go.Proofs.YtennbinbffdimaaGreat.Board
end

section
/- slices.SortFunc over a row of structs in memory: the kit's contract, in terms of heaps. -/
namespace Go.Vc
open Go Go.Proofs Go.Shelf Go.RowKit Go.Lib Go.Sort

theorem one_cell' {v : Value} (h : isOne v = true) : v.oneCell' = true := by
  cases v <;> first | rfl | (simp [isOne] at h)

theorem grow_of {w w' : World} (hs : EnvS true w w') (e : Ext w.heap w'.heap) : ∃ q os, w' = Go.Sort.grow (w.drewN q) os := by
  refine ⟨w'.drawn - w.drawn, w'.heap.extract w.heap.size, ?_⟩
  obtain ⟨hp, tp, dr, os, op⟩ := w'
  obtain ⟨hp0, tp0, dr0, os0, op0⟩ := w
  have h1 : os = os0 := hs.os
  have h2 : tp = tp0 := hs.tape
  have h3 : op = op0 := hs.output
  have h4 : dr0 ≤ dr := hs.drawn rfl
  subst h1; subst h2; subst h3
  simp only [Go.Sort.grow, World.drewN]
  congr 1
  · apply Array.ext_getElem?
    intro i
    rw [Array.getElem?_append]
    have hz : hp0.size ≤ hp.size := e.size
    split
    · rename_i hi
      exact e.same i hi
    · rename_i hi
      rw [Array.getElem?_extract]
      split
      · rename_i hl
        congr 1
        omega
      · rename_i hl
        have : hp.size ≤ i := by
          rcases Nat.lt_or_ge i hp.size with h9 | h9
          · exfalso
            apply hl
            show i - hp0.size < min hp.size hp.size - hp0.size
            rw [Nat.min_self]
            omega
          · exact h9
        exact Array.getElem?_eq_none this
  · omega

section
variable {α : Type} [Inhabited α] {tv : α → TV} {k : Nat}

omit [Inhabited α] in
theorem map_size (hk : ∀ x, (tv x).size = k) (L : List α) : ∀ t ∈ L.map tv, t.size = k := fun t ht => by
  obtain ⟨x, _, rfl⟩ := List.mem_map.1 ht
  exact hk x

theorem flat_list (hk : ∀ x, (tv x).size = k) (L : List α) (j : Nat) (hj : j < L.length * k) : (TVs.cells (L.map tv))[j]? = some ((flatK (fun x => (tv x).cells) k L.toArray)[j]!) := by
  have k0 : 0 < k := Nat.pos_of_ne_zero (fun e => by rw [e, Nat.mul_zero] at hj; omega)
  rw [get_flatK _ _ _ _ (by simpa using hj)]
  have hd : j / k < L.length := (Nat.div_lt_iff_lt_mul k0).2 hj
  have hm : j % k < k := Nat.mod_lt _ k0
  have := TVs.cells_get (L.map tv) (j / k) (j % k) (tv L[j / k]) (map_size hk L) (by simp [hd]) hm
  rw [Nat.div_add_mod' j k] at this
  rw [this]
  have hl : j % k < (tv L[j / k]).cells.length := by rw [TV.cells_length, hk]; exact hm
  have e1 : (L.toArray)[j / k]! = L[j / k] := by simp [hd]
  rw [e1, List.getElem?_eq_getElem hl]
  simp [hl]

theorem holds_of {T : TypeId} {w : World} {L : List α} {b : Nat} {rest : List Value} (hk : ∀ x, (tv x).size = k) (hb : w.heap[b]? = some (row (TVs.cells (L.map tv) ++ rest) T)) :
    HoldsK (fun x => (tv x).cells) k w b 0 L.toArray := by
  intro j hj
  rw [size_flatK] at hj
  have hj' : j < L.length * k := by simpa using hj
  have hf := flat_list hk L j hj'
  have hl : j < (TVs.cells (L.map tv)).length := (List.getElem?_eq_some_iff.1 hf).1
  refine ⟨?_, ?_⟩
  · rw [cell?_eq]
    unfold cel
    rw [hb]
    simp only [row, Nat.zero_add]
    rw [List.getElem?_toArray, List.getElem?_append_left hl, hf]
    rfl
  · unfold World.frozen?
    rw [hb]
    simp [row]

theorem put_cells (hk : ∀ x, (tv x).size = k) (L L' : List α) (rest : List Value) (hl : L'.length = L.length) :
    putCells id 0 (flatK (fun x => (tv x).cells) k L'.toArray) (TVs.cells (L.map tv) ++ rest).toArray = (TVs.cells (L'.map tv) ++ rest).toArray := by
  have n1 := TVs.cells_uniform (L.map tv) (map_size hk L)
  have n2 := TVs.cells_uniform (L'.map tv) (map_size hk L')
  rw [List.length_map] at n1 n2
  apply Array.ext_getElem?
  intro i
  unfold putCells
  rw [Array.getElem?_mapIdx, List.getElem?_toArray, List.getElem?_toArray]
  simp only [Nat.zero_le, true_and, Nat.zero_add, Nat.sub_zero, size_flatK, id]
  have hsz : L'.toArray.size = L'.length := by simp
  rw [hsz]
  by_cases hi : i < L'.length * k
  · rw [List.getElem?_append_left (by rw [n1, ← hl]; exact hi), List.getElem?_append_left (by rw [n2]; exact hi), flat_list hk L' i hi, List.getElem?_eq_getElem (by rw [n1, ← hl]; exact hi)]
    simp [hi]
  · rw [List.getElem?_append_right (by rw [n1, ← hl]; omega), List.getElem?_append_right (by rw [n2]; omega), n1, n2, hl]
    have hi' : ¬ i < L.length * k := by rw [← hl]; exact hi
    simp [hi']

/-- slices.SortFunc over a row that stands for itself. -/
theorem sort_own {P : Program} {ρ : Ren} (Ls : SlLaysF0.n6 P ρ) {T : TypeId} (aE : ∀ w, (isAgg (ρ.t 24)).run P w = .ok true w) (zE : ∀ w, (Go.sizeOf (ρ.t 24)).run P w = .ok k w)
    (hk : ∀ x, (tv x).size = k) (hp : ∀ x, (tv x).plain = true) {cf : α → α → Int} (hO : SWO (ltOf cf)) {g : Nat} {cb : Array Value} (hent : EntP P g) {h : Heap}
    (hcmp : ∀ h' x y, CallsS P g ([.agg (tv x).cells.toArray, .agg (tv y).cells.toArray] ++ cb.toList) h' fun v h'' => v = .int .i64 (cf x y) ∧ Ext h' h'')
    {s : Sl} {L : List α} (o : Own T k h s (L.map tv)) (hlen : L.length < 1000000) {R : Value → Heap → Prop}
    (hr : ∀ (h' : Heap) (L' : List α), L'.Perm L → L'.Pairwise (fun x y => ltOf cf y x = false) → Own T k h' s (L'.map tv) → Only (In s) h h' → R (TV.tup []).val h') :
    CallsH P (ρ.f 6) [(TV.slice s).val, .func (.func g) #[] cb] h R := by
  have hl := o.len
  rw [List.length_map] at hl
  rcases o.row with hnil | ⟨b, rest, ha, hb, hrest⟩
  · intro w hw
    have h0 : L = [] := List.eq_nil_of_length_eq_zero (by rw [hl, hnil]; rfl)
    subst h0
    have := AnyF.slices_SortFunc_none Ls none 0 (.func (.func g) #[] cb) w
    rw [hnil]
    refine this.mono fun e w' => ?_
    rintro ⟨rfl, rfl⟩
    refine ⟨EnvS.refl _, _, rfl, ?_⟩
    rw [hw]
    exact hr h [] (List.Perm.refl _) List.Pairwise.nil o (Only.refl _ _)
  · intro w hw
    subst hw
    have hH := holds_of hk hb
    have hblk : b < w.heap.size := row_lt hb
    have hC : CmpLays P g cb (fun x => (tv x).cells) k cf b 0 L.toArray.size w := by
      intro m os dk _ x y
      have hx := hcmp (sortWorldK (fun x => (tv x).cells) k w b 0 m dk os).heap x y (sortWorldK (fun x => (tv x).cells) k w b 0 m dk os) rfl
      have ea : ([Value.agg (tv x).cells.toArray, Value.agg (tv y).cells.toArray] ++ cb.toList).toArray = #[Value.agg (tv x).cells.toArray, Value.agg (tv y).cells.toArray] ++ cb := by apply Array.toList_inj.1; simp
      rw [ea] at hx
      refine hx.mono fun e w' => ?_
      rintro ⟨hs, v, rfl, rfl, hx⟩
      exact ⟨rfl, grow_of hs hx⟩
    have hs := AnyQ.slices_SortFunc Ls k aE zE (fun x => (tv x).cells) (fun x => by rw [TV.cells_length, hk]) (fun x v hv => one_cell' (TV.plain_cells _ (hp x) v hv)) cf hO g cb b 0 s.cap L.toArray w (fun args w => hent args w) hC hH hblk (by simp; omega)
    have e1 : (TV.slice s).val = .slice (some ⟨b, 0, none⟩) L.toArray.size s.cap := by
      simp only [TV.val, slVal, ha, Option.map_some, Vc.Loc.addr, List.size_toArray, hl]
    rw [e1]
    refine hs.mono fun e w' => ?_
    rintro ⟨rfl, d', n, os, hp', hsrt, rfl⟩
    have hsz : d'.size = L.length := by have := hp'.1; simpa using this
    have hperm : d'.toList.Perm L := by
      have := hp'.2.2
      have e2 : d'.extract 0 L.toArray.size = d' := by rw [Array.extract_eq_self_of_le (by simp [hsz])]
      have e3 : L.toArray.extract 0 L.toArray.size = L.toArray := by rw [Array.extract_eq_self_of_le (Nat.le_refl _)]
      rw [e2, e3] at this
      exact this
    have hheap : (sortWorldK (fun x => (tv x).cells) k w b 0 n d' os).heap = (w.heap.modify b (onCells (putCells id 0 (flatK (fun x => (tv x).cells) k d')))) ++ os := rfl
    have hd : d' = d'.toList.toArray := by simp
    have hb' : (sortWorldK (fun x => (tv x).cells) k w b 0 n d' os).heap[b]? = some (row (TVs.cells (d'.toList.map tv) ++ rest) T) := by
      rw [hheap, Array.getElem?_append_left (by simpa using hblk), Array.getElem?_modify, if_pos rfl, hb]
      simp only [Option.map_some, onCells, row]
      have hpc := put_cells (k := k) (tv := tv) hk L d'.toList rest (by simp [hsz])
      rw [← hd] at hpc
      rw [hpc]
    refine ⟨⟨rfl, rfl, rfl, fun _ => Nat.le_add_right _ _⟩, _, rfl, ?_⟩
    refine hr _ d'.toList hperm ?_ ⟨map_size hk _, by simp [hsz, hl], o.cap, .inr ⟨b, rest, ha, hb', hrest⟩⟩ ⟨?_, fun i hi hn => ?_⟩
    · rw [List.pairwise_iff_getElem]
      intro i j hi hj hij
      have h1 : i < d'.size := by simpa using hi
      have h2 : j < d'.size := by simpa using hj
      have := hsrt i j (Nat.zero_le _) hij (by simpa [hsz] using h2)
      simpa [h1, h2] using this
    · rw [hheap]
      simp
    · rw [hheap, Array.getElem?_append_left (by simpa using hi), Array.getElem?_modify, if_neg (fun e => hn ⟨_, ha, e⟩)]
end

end Go.Vc
end

section
/-
  DERIVED: THE SHELF's CONTRACTS AT THIS DUMP, IN PLAIN WORDS (tools/lay-plain.mjs out of 'TryShelf.lean', which tools/lay-shelf.mjs wrote): THE SAME DECLARATIONS UNDER THE SAME NAMES: 'import', 'namespace', 'open', 'def', 'theorem' AND NOTHING ELSE: no command of the shelf's: FOR A HAND-IN. Each laying: the table of numbers ('.._ren') and one theorem, a field a fact of the dump's own or the kernel's comparison; each contract: ONE APPLICATION.
-/
namespace Go.Proofs
open Go.Shelf
def Tryz.sortIts_ren : Go.Shelf.Ren := ⟨fun | 6 => 254 | 15 => 273 | 14 => 291 | 28 => 310 | 29 => 311 | 20 => 317 | 21 => 318 | 22 => 319 | 23 => 320 | 24 => 321 | 25 => 322 | 26 => 323 | 27 => 324 | 46 => 337 | 47 => 330 | 48 => 331 | 49 => 338 | 50 => 339 | 57 => 350 | n => n, fun | 22 => 240 | 24 => 242 | 25 => 329 | 3 => 3 | 39 => 88 | 0 => 0 | 53 => 288 | 55 => 53 | 4 => 4 | 46 => 372 | 45 => 371 | 50 => 169 | 5 => 5 | 9 => 9 | 66 => 397 | 70 => 401 | 76 => 408 | 77 => 409 | n => n, fun | n => n⟩
theorem Tryz.sortIts : Go.Proofs.SlLaysF0.n6 Tryz.prog Tryz.sortIts_ren := {
  mixed := by kernel_rfl
  f6 := ⟨Tryz.f254.name, by decide, Tryz.func254.trans (congrArg some (by kernel_rfl))⟩
  f14 := ⟨Tryz.f291.name, by decide, Tryz.func291.trans (congrArg some (by kernel_rfl))⟩
  f15 := Tryz.func273.trans (congrArg some (by kernel_rfl))
  f20 := ⟨Tryz.f317.name, by decide, Tryz.func317.trans (congrArg some (by kernel_rfl))⟩
  f21 := ⟨Tryz.f318.name, by decide, Tryz.func318.trans (congrArg some (by kernel_rfl))⟩
  f22 := ⟨Tryz.f319.name, by decide, Tryz.func319.trans (congrArg some (by kernel_rfl))⟩
  f23 := ⟨Tryz.f320.name, by decide, Tryz.func320.trans (congrArg some (by kernel_rfl))⟩
  f24 := ⟨Tryz.f321.name, by decide, Tryz.func321.trans (congrArg some (by kernel_rfl))⟩
  f25 := ⟨Tryz.f322.name, by decide, Tryz.func322.trans (congrArg some (by kernel_rfl))⟩
  f26 := ⟨Tryz.f323.name, by decide, Tryz.func323.trans (congrArg some (by kernel_rfl))⟩
  f27 := ⟨Tryz.f324.name, by decide, Tryz.func324.trans (congrArg some (by kernel_rfl))⟩
  f28 := Tryz.func310.trans (congrArg some (by kernel_rfl))
  f29 := Tryz.func311.trans (congrArg some (by kernel_rfl))
  f46 := ⟨Tryz.f337.name, by decide, Tryz.func337.trans (congrArg some (by kernel_rfl))⟩
  f47 := Tryz.func330.trans (congrArg some (by kernel_rfl))
  f48 := Tryz.func331.trans (congrArg some (by kernel_rfl))
  f49 := ⟨Tryz.f338.name, by decide, Tryz.func338.trans (congrArg some (by kernel_rfl))⟩
  f50 := ⟨Tryz.f339.name, by decide, Tryz.func339.trans (congrArg some (by kernel_rfl))⟩
  f57 := ⟨Tryz.f350.name, by decide, Tryz.func350.trans (congrArg some (by kernel_rfl))⟩
  t0 := Tryz.underlying0
  a0 := Tryz.isAgg0
  z0 := Tryz.sizeOf0
  v0 := Tryz.zeroValue0
  t3 := Tryz.underlying3
  a3 := Tryz.isAgg3
  z3 := Tryz.sizeOf3
  v3 := Tryz.zeroValue3
  t4 := Tryz.underlying4
  a4 := Tryz.isAgg4
  z4 := Tryz.sizeOf4
  v4 := Tryz.zeroValue4
  t5 := Tryz.underlying5
  a5 := Tryz.isAgg5
  z5 := Tryz.sizeOf5
  v5 := Tryz.zeroValue5
  t9 := Tryz.underlying9
  a9 := Tryz.isAgg9
  z9 := Tryz.sizeOf9
  v9 := Tryz.zeroValue9
  t22 := Tryz.underlying240
  a22 := Tryz.isAgg240
  z22 := Tryz.sizeOf240
  v22 := Tryz.zeroValue240
  t25 := Tryz.underlying329
  a25 := Tryz.isAgg329
  z25 := Tryz.sizeOf329
  v25 := Tryz.zeroValue329
  t39 := Tryz.underlying88
  a39 := Tryz.isAgg88
  z39 := Tryz.sizeOf88
  v39 := Tryz.zeroValue88
  t45 := Tryz.underlying371
  a45 := Tryz.isAgg371
  z45 := Tryz.sizeOf371
  v45 := Tryz.zeroValue371
  t46 := Tryz.underlying372
  a46 := Tryz.isAgg372
  z46 := Tryz.sizeOf372
  v46 := Tryz.zeroValue372
  t50 := Tryz.underlying169
  a50 := Tryz.isAgg169
  z50 := Tryz.sizeOf169
  v50 := Tryz.zeroValue169
  t53 := Tryz.underlying288
  a53 := Tryz.isAgg288
  z53 := Tryz.sizeOf288
  v53 := Tryz.zeroValue288
  t55 := Tryz.underlying53
  a55 := Tryz.isAgg53
  z55 := Tryz.sizeOf53
  v55 := Tryz.zeroValue53
  t66 := Tryz.underlying397
  a66 := Tryz.isAgg397
  z66 := Tryz.sizeOf397
  v66 := Tryz.zeroValue397
  t70 := Tryz.underlying401
  a70 := Tryz.isAgg401
  z70 := Tryz.sizeOf401
  v70 := Tryz.zeroValue401
  t76 := Tryz.underlying408
  a76 := Tryz.isAgg408
  z76 := Tryz.sizeOf408
  v76 := Tryz.zeroValue408
  t77 := Tryz.underlying409
  a77 := Tryz.isAgg409
  z77 := Tryz.sizeOf409
  v77 := Tryz.zeroValue409 }
def Tryz.sortSts_ren : Go.Shelf.Ren := ⟨fun | 6 => 315 | 15 => 273 | 14 => 335 | 28 => 310 | 29 => 311 | 20 => 342 | 21 => 343 | 22 => 344 | 23 => 345 | 24 => 346 | 25 => 347 | 26 => 348 | 27 => 349 | 46 => 351 | 47 => 330 | 48 => 331 | 49 => 352 | 50 => 353 | 57 => 354 | n => n, fun | 22 => 382 | 24 => 385 | 25 => 387 | 3 => 3 | 39 => 88 | 0 => 0 | 53 => 288 | 55 => 53 | 4 => 4 | 46 => 372 | 45 => 371 | 50 => 169 | 5 => 5 | 9 => 9 | 66 => 397 | 70 => 401 | 76 => 408 | 77 => 409 | n => n, fun | n => n⟩
theorem Tryz.sortSts : Go.Proofs.SlLaysF0.n6 Tryz.prog Tryz.sortSts_ren := {
  mixed := by kernel_rfl
  f6 := ⟨Tryz.f315.name, by decide, Tryz.func315.trans (congrArg some (by kernel_rfl))⟩
  f14 := ⟨Tryz.f335.name, by decide, Tryz.func335.trans (congrArg some (by kernel_rfl))⟩
  f15 := Tryz.func273.trans (congrArg some (by kernel_rfl))
  f20 := ⟨Tryz.f342.name, by decide, Tryz.func342.trans (congrArg some (by kernel_rfl))⟩
  f21 := ⟨Tryz.f343.name, by decide, Tryz.func343.trans (congrArg some (by kernel_rfl))⟩
  f22 := ⟨Tryz.f344.name, by decide, Tryz.func344.trans (congrArg some (by kernel_rfl))⟩
  f23 := ⟨Tryz.f345.name, by decide, Tryz.func345.trans (congrArg some (by kernel_rfl))⟩
  f24 := ⟨Tryz.f346.name, by decide, Tryz.func346.trans (congrArg some (by kernel_rfl))⟩
  f25 := ⟨Tryz.f347.name, by decide, Tryz.func347.trans (congrArg some (by kernel_rfl))⟩
  f26 := ⟨Tryz.f348.name, by decide, Tryz.func348.trans (congrArg some (by kernel_rfl))⟩
  f27 := ⟨Tryz.f349.name, by decide, Tryz.func349.trans (congrArg some (by kernel_rfl))⟩
  f28 := Tryz.func310.trans (congrArg some (by kernel_rfl))
  f29 := Tryz.func311.trans (congrArg some (by kernel_rfl))
  f46 := ⟨Tryz.f351.name, by decide, Tryz.func351.trans (congrArg some (by kernel_rfl))⟩
  f47 := Tryz.func330.trans (congrArg some (by kernel_rfl))
  f48 := Tryz.func331.trans (congrArg some (by kernel_rfl))
  f49 := ⟨Tryz.f352.name, by decide, Tryz.func352.trans (congrArg some (by kernel_rfl))⟩
  f50 := ⟨Tryz.f353.name, by decide, Tryz.func353.trans (congrArg some (by kernel_rfl))⟩
  f57 := ⟨Tryz.f354.name, by decide, Tryz.func354.trans (congrArg some (by kernel_rfl))⟩
  t0 := Tryz.underlying0
  a0 := Tryz.isAgg0
  z0 := Tryz.sizeOf0
  v0 := Tryz.zeroValue0
  t3 := Tryz.underlying3
  a3 := Tryz.isAgg3
  z3 := Tryz.sizeOf3
  v3 := Tryz.zeroValue3
  t4 := Tryz.underlying4
  a4 := Tryz.isAgg4
  z4 := Tryz.sizeOf4
  v4 := Tryz.zeroValue4
  t5 := Tryz.underlying5
  a5 := Tryz.isAgg5
  z5 := Tryz.sizeOf5
  v5 := Tryz.zeroValue5
  t9 := Tryz.underlying9
  a9 := Tryz.isAgg9
  z9 := Tryz.sizeOf9
  v9 := Tryz.zeroValue9
  t22 := Tryz.underlying382
  a22 := Tryz.isAgg382
  z22 := Tryz.sizeOf382
  v22 := Tryz.zeroValue382
  t25 := Tryz.underlying387
  a25 := Tryz.isAgg387
  z25 := Tryz.sizeOf387
  v25 := Tryz.zeroValue387
  t39 := Tryz.underlying88
  a39 := Tryz.isAgg88
  z39 := Tryz.sizeOf88
  v39 := Tryz.zeroValue88
  t45 := Tryz.underlying371
  a45 := Tryz.isAgg371
  z45 := Tryz.sizeOf371
  v45 := Tryz.zeroValue371
  t46 := Tryz.underlying372
  a46 := Tryz.isAgg372
  z46 := Tryz.sizeOf372
  v46 := Tryz.zeroValue372
  t50 := Tryz.underlying169
  a50 := Tryz.isAgg169
  z50 := Tryz.sizeOf169
  v50 := Tryz.zeroValue169
  t53 := Tryz.underlying288
  a53 := Tryz.isAgg288
  z53 := Tryz.sizeOf288
  v53 := Tryz.zeroValue288
  t55 := Tryz.underlying53
  a55 := Tryz.isAgg53
  z55 := Tryz.sizeOf53
  v55 := Tryz.zeroValue53
  t66 := Tryz.underlying397
  a66 := Tryz.isAgg397
  z66 := Tryz.sizeOf397
  v66 := Tryz.zeroValue397
  t70 := Tryz.underlying401
  a70 := Tryz.isAgg401
  z70 := Tryz.sizeOf401
  v70 := Tryz.zeroValue401
  t76 := Tryz.underlying408
  a76 := Tryz.isAgg408
  z76 := Tryz.sizeOf408
  v76 := Tryz.zeroValue408
  t77 := Tryz.underlying409
  a77 := Tryz.isAgg409
  z77 := Tryz.sizeOf409
  v77 := Tryz.zeroValue409 }
end Go.Proofs
end

section
/- Members of a slot's committee: the seats in order, cut. -/
namespace Go.Proofs.YtennbinbffdimaaGreat.Board
open Go Go.Vc

/-! ### Seats in order -/

/-- One seat comes ahead of another. -/
def sb (x y : Seat) : Prop := Op.bytesLess x.lot.l y.lot.l = true ∨ (x.lot = y.lot ∧ x.who < y.who)

theorem befF_iff {x y : Seat} : befF x y < 0 ↔ sb x y := by
  unfold befF sb
  by_cases h1 : Op.bytesLess x.lot.l y.lot.l = true
  · rw [if_pos h1]; simp [h1]
  · rw [if_neg h1]
    by_cases h2 : Op.bytesLess y.lot.l x.lot.l = true
    · rw [if_pos h2]
      constructor
      · intro h; omega
      · rintro (h | ⟨h, _⟩)
        · exact absurd h h1
        · rw [h, less_irrefl] at h2; cases h2
    · rw [if_neg h2]
      have e : x.lot = y.lot := by
        apply Bs.ext'
        apply Classical.byContradiction
        intro hn
        rcases less_total _ _ hn with h | h
        · exact h1 h
        · exact h2 h
      by_cases h3 : x.who < y.who
      · rw [if_pos h3]; simp [e, h3]
      · rw [if_neg h3]
        split <;> simp [h1, h3]

theorem sb_irrefl (x : Seat) : ¬ sb x x := by
  rintro (h | ⟨_, h⟩)
  · rw [less_irrefl] at h; cases h
  · omega

theorem sb_trans {x y z : Seat} (h : sb x y) (k : sb y z) : sb x z := by
  rcases h with h | ⟨h, h1⟩ <;> rcases k with k | ⟨k, k1⟩
  · exact .inl (less_trans _ _ _ h k)
  · exact .inl (by rw [← k]; exact h)
  · exact .inl (by rw [h]; exact k)
  · exact .inr ⟨h.trans k, by omega⟩

theorem sb_total {x y : Seat} (h : x.who ≠ y.who) : sb x y ∨ sb y x := by
  by_cases e : x.lot = y.lot
  · rcases Int.lt_or_gt_of_ne h with h1 | h1
    · exact .inl (.inr ⟨e, h1⟩)
    · exact .inr (.inr ⟨e.symm, h1⟩)
  · rcases less_total x.lot.l y.lot.l (fun hx => e (Bs.ext' hx)) with h1 | h1
    · exact .inl (.inl h1)
    · exact .inr (.inl h1)

theorem sb_cases (x y : Seat) : sb x y ∨ sb y x ∨ x = y := by
  by_cases h : x.who = y.who
  · by_cases e : x.lot = y.lot
    · cases x; cases y; simp_all
    · rcases less_total x.lot.l y.lot.l (fun hx => e (Bs.ext' hx)) with h1 | h1
      · exact .inl (.inl h1)
      · exact .inr (.inl (.inl h1))
  · rcases sb_total h with h1 | h1
    · exact .inl h1
    · exact .inr (.inl h1)

theorem lt_sb {x y : Seat} : Go.Proofs.ltOf befF x y = true ↔ sb x y := by
  unfold Go.Proofs.ltOf
  rw [decide_eq_true_iff, befF_iff]

theorem lt_sb' {x y : Seat} : Go.Proofs.ltOf befF x y = false ↔ ¬ sb x y := by
  rw [← lt_sb]; simp

theorem swo : Go.Sort.SWO (Go.Proofs.ltOf befF) where
  irrefl x := by rw [lt_sb']; exact sb_irrefl x
  trans x y z h k := by rw [lt_sb] at *; exact sb_trans h k
  ntrans x y z h k := by
    rw [lt_sb'] at *
    intro hz
    rcases sb_cases x y with h1 | h1 | h1
    · exact h h1
    · exact k (sb_trans h1 hz)
    · subst h1; exact k hz

/-- The seats of so many validators. -/
def sts (slot : Int) (n : Nat) : List Seat := (List.range n).map fun (i : Nat) => ⟨lotF slot (i : Int), (i : Int)⟩

theorem sts_succ (slot : Int) (n : Nat) : sts slot (n + 1) = sts slot n ++ [⟨lotF slot (n : Int), (n : Int)⟩] := by
  unfold sts
  rw [List.range_succ, List.map_append]
  rfl

theorem sts_length (slot : Int) (n : Nat) : (sts slot n).length = n := by simp [sts]

noncomputable def leb (x y : Seat) : Bool := !Go.Proofs.ltOf befF y x
noncomputable def sorted (slot : Int) (n : Nat) : List Seat := (sts slot n).mergeSort leb

theorem leb_iff {x y : Seat} : leb x y = true ↔ ¬ sb y x := by
  unfold leb
  rw [Bool.not_eq_true', lt_sb']

theorem sorted_perm (slot : Int) (n : Nat) : (sorted slot n).Perm (sts slot n) := List.mergeSort_perm _ _

theorem sorted_pair (slot : Int) (n : Nat) : (sorted slot n).Pairwise fun x y => ¬ sb y x := by
  have := List.pairwise_mergeSort (le := leb) (fun a b c h k => by
    rw [leb_iff] at *
    exact lt_sb'.1 (swo.ntrans _ _ _ (lt_sb'.2 k) (lt_sb'.2 h))) (fun a b => by
    rw [Bool.or_eq_true, leb_iff, leb_iff]
    by_cases h : sb b a
    · right; intro h2; exact sb_irrefl _ (sb_trans h h2)
    · exact .inl h) (sts slot n)
  exact this.imp fun {x y} h => leb_iff.1 h

theorem sorted_unique {slot : Int} {n : Nat} {L : List Seat} (hp : L.Perm (sts slot n)) (hs : L.Pairwise fun x y => ¬ sb y x) : L = sorted slot n := by
  refine List.Perm.eq_of_pairwise (le := fun x y => ¬ sb y x) (fun a b _ _ h k => ?_) hs (sorted_pair slot n) (hp.trans (sorted_perm slot n).symm)
  rcases sb_cases a b with h1 | h1 | h1
  · exact absurd h1 k
  · exact absurd h1 h
  · exact h1

/-- The members of a slot's committee. -/
noncomputable def mem (n : Nat) (com slot : Int) : List Int :=
  if slot < 0 ∨ 1073741824 < slot then [] else ((sorted slot n).take (min (max com 0) (n : Int)).toNat).map Seat.who

theorem sorted_length (slot : Int) (n : Nat) : (sorted slot n).length = n := by rw [(sorted_perm slot n).length_eq, sts_length]

/-! ### The program -/

structure Cf where
  vals : Sl
  ep : Int
  com : Int
  no : Int
  orp : Int
  ear : Int
  quo : Int
  pe : Int
  by_ : Int
  win : Int
  ban : Int
  dec : Int

def Cf.tv (c : Cf) : TV := .agg [.slice c.vals, .int .i64 c.ep, .int .i64 c.com, .int .i64 c.no, .int .i64 c.orp, .int .i64 c.ear, .int .i64 c.quo, .int .i64 c.pe, .int .i64 c.by_, .int .i64 c.win, .int .i64 c.ban, .int .i64 c.dec]

section
variable {R : Value → Heap → Prop} {h : Heap}

abbrev seats (l : List Seat) : List TV := l.map Seat.tv

theorem Seat.size (s : Seat) : s.tv.size = 33 := by simp only [Seat.tv, TV.size, TVs.size]
theorem Seat.plain (s : Seat) : s.tv.plain = true := by rfl
theorem bytes50 : (ctx.ti 385).bytes = 40 := by kernel_rfl
theorem size50 : (ctx.ti 385).size = 33 := by kernel_rfl
theorem zsize50 : (ctx.ti 385).z.size = 33 := by kernel_rfl
theorem aE50 : ∀ w, (isAgg (Tryz.sortSts_ren.t 24)).run Tryz.prog w = .ok true w := fun w => by
  have hu : ∃ fs, Tryz.prog.underlying 385 = some (.struct fs) := by
    cases hd : (ctx.ti 385).d with
    | none => have : (ctx.ti 385).d.isSome = true := by kernel_rfl
              rw [hd] at this; cases this
    | some d =>
      have hd' := ctx_ok.d hd
      have hs : (match (ctx.ti 385).d with | some (.struct _) => true | _ => false) = true := by kernel_rfl
      rw [hd] at hs
      cases d <;> first | (exact ⟨_, hd'⟩) | cases hs
  obtain ⟨fs, hu⟩ := hu
  have := isAgg_run (P := Tryz.prog) (w := w) hu
  exact this

theorem zE50 : ∀ w, (sizeOf (Tryz.sortSts_ren.t 24)).run Tryz.prog w = .ok 33 w := fun w => by
  have := sizeRun (C := ctx) ctx_ok (t := 385) (by kernel_rfl) w
  rw [size50] at this
  exact this

theorem sort_spec {s : Sl} {L : List Seat} (o : Own 385 33 h s (seats L)) (hl : L.length < 1000)
    (hr : ∀ h' L', L'.Perm L → L'.Pairwise (fun x y => ¬ sb y x) → Own 385 33 h' s (seats L') → Only (In s) h h' → R (TV.tup []).val h') : CallsH Tryz.prog 315 (TVs.vals [.slice s, .fn (.func 316) [] []]) h R := by
  refine sort_own (tv := Seat.tv) (k := 33) (P := Tryz.prog) Tryz.sortSts (T := 385) aE50 zE50 Seat.size Seat.plain swo (g := 316) (cb := #[]) (ctx_ok.entP (by kernel_rfl)) (fun h' x y => ?_) o (by omega) (fun h' L' hp hs o' f => ?_)
  · exact before_spec (x := x) (y := y) fun h'' x'' => ⟨rfl, x''⟩
  · refine hr h' L' hp (hs.imp fun {x y} hx => ?_) o' f
    rwa [lt_sb'] at hx

theorem read_seat {s : Sl} {L : List Seat} {i : Int} (e : Elems 33 h s (seats L)) (i0 : 0 ≤ i) (i1 : i < L.length) {K : Bs 32 → Int → Prop} (hk : ∀ x, L[i.toNat]? = some x → K x.lot x.who) :
    0 ≤ i ∧ i < (s.len : Int) ∧ Nn s.a fun (l : Vc.Loc) => ∃ (b : Bs 32), ∃ (n : Int), (atBytes h l.b (l.o + i.toNat * 33) 32 b ∧ at1 h l.b (l.o + i.toNat * 33 + 32) (.int .i64 n)) ∧ K b n := by
  have hl := e.len
  rw [List.length_map] at hl
  refine e.read i0 (by omega) fun l t hla ht ha => ?_
  rw [List.getElem?_map] at ht
  obtain ⟨x, hx, rfl⟩ := Option.map_eq_some_iff.1 ht
  exact ⟨x.lot, x.who, ha, hk x hx⟩

theorem cut_elems33 {s : Sl} {ts : List TV} {i j : Nat} (e : Elems 33 h s ts) (hij : i ≤ j) (hj : j ≤ s.len) (hcap : s.len ≤ s.cap) : Elems 33 h (cutSl s i j 33) ((ts.drop i).take (j - i)) := by
  have hl := e.len
  refine ⟨by simp only [cutSl, List.length_take, List.length_drop]; omega, fun hn => ?_, fun l hla k t ht => ?_⟩
  · unfold cutSl at hn
    simp only at hn
    have : ts = [] ∨ i = j := by
      split at hn
      · right
        omega
      · left
        cases hs : s.a with
        | none => exact e.nil hs
        | some l => rw [hs] at hn; simp at hn
    rcases this with rfl | rfl
    · simp
    · simp
  · unfold cutSl at hla
    simp only at hla
    rw [List.getElem?_take] at ht
    split at ht
    · rename_i hk
      rw [List.getElem?_drop] at ht
      split at hla
      · omega
      · cases hs : s.a with
        | none => rw [hs] at hla; simp at hla
        | some l0 =>
          rw [hs] at hla
          simp only [Option.map_some, Option.some.injEq] at hla
          subst hla
          have := e.get l0 hs (i + k) t ht
          rw [Nat.add_mul, ← Nat.add_assoc] at this
          exact this
    · cases ht

theorem members_spec {c : Cf} {slot : Int} (hv : c.vals.len < 900) (hr : ∀ h' s', Own 3 1 h' s' (ints (mem c.vals.len c.com slot)) → Ext h h' → (∀ l, s'.a = some l → h.size ≤ l.b) → R (TV.slice s').val h') :
    CallsH Tryz.prog 279 (TVs.vals [c.tv, .int .i64 slot]) h R := by
  apply board_Members_calls c.vals c.ep c.com c.no c.orp c.ear c.quo c.pe c.by_ c.win c.ban c.dec slot
  unfold board_Members_vc
  refine newTV_in fun h1 v1 x1 s1 => ?_
  intro J hJ
  have none_ : slot < 0 ∨ 1073741824 < slot → R (TV.val (TV.slice Sl.nil)) h1 := fun hb => by
    refine hr h1 Sl.nil ?_ x1 (fun l hl => by cases hl)
    unfold mem
    rw [if_pos hb]
    exact Own.nil _ _ _
  refine If.dec.2 ⟨fun hb => none_ (.inl hb), fun hb => If.dec.2 ⟨fun hb2 => none_ (.inr hb2), fun hb2 => ?_⟩⟩
  have hmem : mem c.vals.len c.com slot = ((sorted slot c.vals.len).take (min (max c.com 0) (c.vals.len : Int)).toNat).map Seat.who := by
    unfold mem
    rw [if_neg (by omega)]
  refine hJ _ _ ?_
  have far : ∀ hh, Only (fun i => h.size < i) h1 hh → Ext h hh := fun hh o => Only.cut x1 o fun i hi => by omega
  have var : ∀ hh, Only (fun i => h.size < i) h1 hh → Var 24 hh h.size c.tv := fun hh o => v1.only o (Nat.lt_irrefl _)
  refine ⟨c.vals, v1.at1 rfl, ?_⟩
  refine ⟨fun σ hh => 0 ≤ σ.2 ∧ σ.2 ≤ c.vals.len ∧ Own 385 33 hh σ.1 (seats (sts slot σ.2.toNat)) ∧ (∀ l, σ.1.a = some l → h.size < l.b) ∧ Only (fun i => h.size < i) h1 hh, fun σ _ => ((c.vals.len : Int) - σ.2).toNat,
    ⟨Int.le_refl 0, by dsimp only; omega, Own.nil _ _ _, (fun l hl => by cases hl), Only.refl _ _⟩, ?_⟩
  rintro ⟨s, i⟩ h2 ⟨i0, i1, o2, b2, f2⟩
  dsimp only at i0 i1 o2 b2 ⊢
  have z2 := f2.size
  refine If.dec.2 ⟨fun hi => ?_, fun hi => ?_⟩
  · refine lot_spec fun h3 x3 => ⟨_, rfl, ?_⟩
    have o3 := o2.ext x3
    have hlen := o3.len
    rw [List.length_map, sts_length] at hlen
    refine append1 (C := ctx) (T := 385) (sz := 33) (x := (Seat.mk (lotF slot i) i).tv) size50 zsize50 (by rw [bytes50]; decide) (by rw [bytes50]; omega) o3 (Seat.size _) rfl fun s4 h4 o4 f4 b4 => ?_
    rw [wrap_i64 (n := i + 1) (by omega) (by omega)]
    have hi1 : (i + 1).toNat = i.toNat + 1 := by omega
    have z3 := x3.size
    refine ⟨⟨by omega, by omega, ?_, fun l hl => ?_, ?_⟩, by first | omega | (dsimp only; omega)⟩
    · rw [hi1, sts_succ]
      have hcast : ((i.toNat : Nat) : Int) = i := by omega
      rw [hcast]
      show Own 385 33 h4 s4 ((sts slot i.toNat ++ [Seat.mk (lotF slot i) i]).map Seat.tv)
      rw [List.map_append]
      exact o4
    · rcases b4 l hl with ⟨l', h9, h10⟩ | h9
      · rw [← h10]; exact b2 l' h9
      · omega
    · refine f2.trans ((Only.of_ext x3).trans (f4.mono fun j ⟨l, hl, e⟩ => ?_))
      rw [← e]; exact b2 l hl
  · have hi2 : i.toNat = c.vals.len := by omega
    rw [hi2] at o2
    have hslen := o2.len
    rw [List.length_map, sts_length] at hslen
    refine sort_spec o2 (by rw [sts_length]; omega) fun h3 L' hp hs o3 f3 => ⟨rfl, ?_⟩
    obtain rfl := sorted_unique hp hs
    have f3' : Only (fun i => h.size < i) h1 h3 := f2.trans (f3.mono fun j ⟨l, hl, e⟩ => by rw [← e]; exact b2 l hl)
    refine ⟨c.com, (var h3 f3').at1 rfl, ?_⟩
    have hm : mn (mx c.com 0) (s.len : Int) = min (max c.com 0) (c.vals.len : Int) := by rw [mx_eq, mn_eq, hslen]
    rw [hm]
    have hcap := o3.cap
    have hk0 : 0 ≤ min (max c.com 0) (c.vals.len : Int) := by omega
    have hk1 : min (max c.com 0) (c.vals.len : Int) ≤ (c.vals.len : Int) := by omega
    refine ⟨hk0, by omega, ?_⟩
    generalize hkk : (min (max c.com 0) (c.vals.len : Int)).toNat = k at *
    have hkn : k ≤ c.vals.len := by omega
    have e3 : Elems 33 h3 (cutSl s 0 k 33) (seats ((sorted slot c.vals.len).take k)) := by
      have := cut_elems33 (i := 0) (j := k) o3.elems (Nat.zero_le _) (by omega) hcap
      rw [List.drop_zero, Nat.sub_zero, ← List.map_take] at this
      exact this
    have hcl : (cutSl s 0 k 33).len = k := by simp [cutSl]
    have htl : ((sorted slot c.vals.len).take k).length = k := by rw [List.length_take, sorted_length]; omega
    rw [hcl]
    refine ⟨fun σ hh => 0 ≤ σ.2 ∧ σ.2 ≤ k ∧ Own 3 1 hh σ.1 (ints (((sorted slot c.vals.len).take σ.2.toNat).map Seat.who)) ∧ (∀ l, σ.1.a = some l → h3.size ≤ l.b) ∧ Ext h3 hh, fun σ _ => ((k : Int) - σ.2).toNat,
      ⟨Int.le_refl 0, by dsimp only; omega, Own.nil _ _ _, (fun l hl => by cases hl), Ext.refl _⟩, ?_⟩
    rintro ⟨t, j⟩ h4 ⟨j0, j1, o4, b4, x4⟩
    dsimp only at j0 j1 o4 b4 ⊢
    have z3 := f3'.size
    have z4 := x4.size
    refine If.dec.2 ⟨fun hj => ?_, fun hj => ?_⟩
    · have hr1 := read_seat (e3.ext x4) j0 (by rw [htl]; omega) (K := fun b n => Vc.Bind (newTV h4 (TV.agg [TV.bytes 32 (Bs.zero 32), TV.int IntKind.i64 0]) 385) fun h_5 =>
          wok h_5 h4.size 0 33 ∧ Vc.Bind (TV.put h_5 h4.size 0 (TV.agg [TV.bytes 32 b, TV.int IntKind.i64 n])) fun h_6 => ∃ (n : Int), at1 h_6 h4.size 32 (Value.int IntKind.i64 n) ∧
            ∃ (new : List Value), slAt (Array.push h_6 (row (TVs.cells [TV.int IntKind.i64 n]) 3)) (Sl.mk (some (Vc.Loc.mk (Array.size h_6) 0)) 1 1) 1 new ∧ (∀ (v : Value), v ∈ new → isOne v = true) ∧
              vcAppend ctx 3 t 1 new (Array.push h_6 (row (TVs.cells [TV.int IntKind.i64 n]) 3)) fun s_2 h => (0 ≤ (s_2, IntKind.wrap IntKind.i64 (j + 1)).snd ∧ (s_2, IntKind.wrap IntKind.i64 (j + 1)).snd ≤ k ∧ Own 3 1 h s_2 (ints (((sorted slot c.vals.len).take (IntKind.wrap IntKind.i64 (j + 1)).toNat).map Seat.who)) ∧ (∀ l, s_2.a = some l → h3.size ≤ l.b) ∧ Ext h3 h) ∧ ((k : Int) - IntKind.wrap IntKind.i64 (j + 1)).toNat < ((k : Int) - j).toNat) fun x hx => ?_
      · rw [hcl] at hr1
        exact hr1
      · refine newTV_in fun h5 v5 x5 s5 => put_in v5 (t := x.tv) (by simp only [Seat.tv, TV.size, TVs.size]) fun h6 v6 o6 s6 => ⟨x.who, v6.at1 (by
          have : x.tv.cells = (TV.bytes 32 x.lot).cells ++ [Value.int .i64 x.who] := by simp only [Seat.tv, TV.cells, TVs.cells, List.append_nil]
          rw [this, List.getElem?_append_right (by rw [TV.cells_length]; exact Nat.le_refl _), TV.cells_length]
          rfl), ?_⟩
        have x46 : Ext h4 h6 := Only.cut x5 o6 fun i hi => by omega
        have o5 := o4.ext x46
        have hlen := o5.len
        have htk : ((sorted slot c.vals.len).take j.toNat).length = j.toNat := by rw [List.length_take, sorted_length]; omega
        rw [List.length_map, List.length_map, htk] at hlen
        refine append1 (C := ctx) (T := 3) (sz := 1) (x := .int .i64 x.who) size3 zsize3 (by rw [bytes3]; decide) (by rw [bytes3]; omega) o5 rfl rfl fun s7 h7 o7 f7 b7 => ?_
        rw [wrap_i64 (n := j + 1) (by omega) (by omega)]
        have hj1 : (j + 1).toNat = j.toNat + 1 := by omega
        have hx' : (sorted slot c.vals.len)[j.toNat]? = some x := by
          rw [List.getElem?_take] at hx
          split at hx
          · exact hx
          · cases hx
        refine ⟨⟨by dsimp only; omega, by dsimp only; omega, ?_, fun l hl => ?_, ?_⟩, by omega⟩
        · rw [hj1, take_snoc hx']
          simp only [ints, List.map_append, List.map_cons, List.map_nil] at o7 ⊢
          exact o7
        · have z6 := x46.size
          rcases b7 l hl with ⟨l', h9, h10⟩ | h9
          · rw [← h10]; exact b4 l' h9
          · omega
        · refine Only.cut (x4.trans x46) f7 fun i ⟨l, hl, e⟩ => ?_
          rw [← e]; exact b4 l hl
    · have hj2 : j.toNat = k := by omega
      rw [hj2] at o4
      have x1' : Ext h h4 := (far h3 f3').trans x4
      have := hr h4 t (by rw [hmem]; exact o4) x1' (fun l hl => by have := b4 l hl; omega)
      exact this

end
end Go.Proofs.YtennbinbffdimaaGreat.Board
end

section
/- Place, Proposer, Pick, Same; whether a configuration can be. -/
namespace Go.Proofs.YtennbinbffdimaaGreat.Board
open Go Go.Vc

structure Vd where
  stake : Int
  key : List UInt8
instance : Inhabited Vd := ⟨⟨0, []⟩⟩
def Vd.tv (v : Vd) : TV := .agg [.int .i64 v.stake, .str v.key]
theorem Vd.size (v : Vd) : v.tv.size = 2 := by simp only [Vd.tv, TV.size, TVs.size]
abbrev vds (l : List Vd) : List TV := l.map Vd.tv
/-- Where a number stands in a row. -/
def idx : List Int → Int → Int → Int
  | [], _, _ => -1
  | x :: xs, v, i => if v = x then i else idx xs v (i + 1)

def firstOf : List Int → Int
  | [] => -1
  | x :: _ => x

/-- Of whom a row says yes. -/
def pk : List Int → List Bool → List Int
  | x :: xs, b :: bs => if b = true then x :: pk xs bs else pk xs bs
  | _, _ => []

theorem pk_snoc : ∀ (xs : List Int) (bs : List Bool) (x : Int) (b : Bool), xs.length = bs.length → pk (xs ++ [x]) (bs ++ [b]) = pk xs bs ++ (if b = true then [x] else [])
  | [], [], x, b, _ => by cases b <;> simp [pk]
  | [], _ :: _, _, _, h => by cases h
  | _ :: _, [], _, _, h => by cases h
  | y :: ys, c :: cs, x, b, h => by
    have ih := pk_snoc ys cs x b (by simpa using h)
    simp only [List.cons_append, pk]
    rw [ih]
    cases c <;> simp

section
variable {R : Value → Heap → Prop} {h : Heap} {c : Cf}

theorem index_spec {s : Sl} {l : List Int} {v : Int} (e : Elems 1 h s (ints l)) (hl : l.length < 100000) (hr : R (TV.int .i64 (idx l v 0)).val h) : CallsH Tryz.prog 280 (TVs.vals [.slice s, .int .i64 v]) h R := by
  apply slices_Index___int_int__calls
  unfold slices_Index___int_int__vc
  have el := ints_len e
  refine ⟨fun σ hh => 0 ≤ σ.2 ∧ σ.2 ≤ s.len ∧ hh = h ∧ idx l v 0 = idx (l.drop σ.2.toNat) v σ.2, fun σ _ => ((s.len : Int) - σ.2).toNat, ⟨Int.le_refl 0, by first | omega | (dsimp only; omega), rfl, rfl⟩, ?_⟩
  rintro ⟨f, i⟩ hh ⟨i0, i1, rfl, ht⟩
  dsimp only at i0 i1 ht ⊢
  refine If.dec.2 ⟨fun hi => ?_, fun hi => ?_⟩
  · refine read_int e i0 (by omega) fun x hx => ?_
    rw [drop_get hx, idx] at ht
    refine If.dec.2 ⟨fun hv => ?_, fun hv => ?_⟩
    · rw [if_pos hv] at ht
      rw [ht] at hr
      exact hr
    · rw [if_neg hv] at ht
      rw [wrap_i64 (n := i + 1) (by omega) (by omega)]
      have hi1 : (i + 1).toNat = i.toNat + 1 := by omega
      refine ⟨⟨by first | omega | (dsimp only; omega), by first | omega | (dsimp only; omega), rfl, ?_⟩, by first | omega | (dsimp only; omega)⟩
      try dsimp only
      rw [hi1]
      exact ht
  · have hi2 : l.drop i.toNat = [] := List.drop_eq_nil_of_le (by omega)
    rw [hi2, idx] at ht
    rw [ht] at hr
    exact hr

/-- A configuration's fields are read. -/
theorem mem_length (n : Nat) (com slot : Int) : (mem n com slot).length ≤ n := by
  unfold mem
  split
  · exact Nat.zero_le _
  · rw [List.length_map, List.length_take, sorted_length]
    omega

theorem place_spec {slot who : Int} (hv : c.vals.len < 900) (hr : ∀ h', Ext h h' → R (TV.int .i64 (idx (mem c.vals.len c.com slot) who 0)).val h') : CallsH Tryz.prog 235 (TVs.vals [c.tv, .int .i64 slot, .int .i64 who]) h R := by
  apply board_Place_calls c.vals c.ep c.com c.no c.orp c.ear c.quo c.pe c.by_ c.win c.ban c.dec slot who
  unfold board_Place_vc
  refine newTV_in fun h1 v1 x1 s1 => ?_
  refine ⟨c.vals, c.ep, c.com, c.no, c.orp, c.ear, c.quo, c.pe, c.by_, c.win, c.ban, c.dec, v1.at, ?_⟩
  refine members_spec (c := c) hv fun h2 s2 o2 x2 _ => ⟨_, rfl, ?_⟩
  have := mem_length c.vals.len c.com slot
  exact index_spec o2.elems (by omega) ⟨_, rfl, hr h2 (x1.trans x2)⟩

theorem proposer_spec {slot : Int} (hv : c.vals.len < 900) (hr : ∀ h', Ext h h' → R (TV.int .i64 (firstOf (mem c.vals.len c.com slot))).val h') : CallsH Tryz.prog 234 (TVs.vals [c.tv, .int .i64 slot]) h R := by
  apply board_Proposer_calls c.vals c.ep c.com c.no c.orp c.ear c.quo c.pe c.by_ c.win c.ban c.dec slot
  unfold board_Proposer_vc
  refine newTV_in fun h1 v1 x1 s1 => ?_
  refine ⟨c.vals, c.ep, c.com, c.no, c.orp, c.ear, c.quo, c.pe, c.by_, c.win, c.ban, c.dec, v1.at, ?_⟩
  refine members_spec (c := c) hv fun h2 s2 o2 x2 _ => ⟨_, rfl, ?_⟩
  have hr2 := hr h2 (x1.trans x2)
  have el := ints_len o2.elems
  generalize mem c.vals.len c.com slot = l at *
  refine If.dec.2 ⟨fun hi => read_int o2.elems (Int.le_refl 0) (by omega) fun x hx => ?_, fun hi => ?_⟩
  · cases l with
    | nil => cases hx
    | cons y ys =>
      injection hx with hx
      subst hx
      exact hr2
  · have : l = [] := List.eq_nil_of_length_eq_zero (by omega)
    subst this
    exact hr2

theorem pick_spec {slot : Int} {bits : Sl} {row : List Bool} (hv : c.vals.len < 900) (e : Elems 1 h bits (bools row))
    (hn : ∀ h', Ext h h' → (mem c.vals.len c.com slot = [] ∨ row.length ≠ (mem c.vals.len c.com slot).length) → R (TV.tup [.slice Sl.nil, .bool false]).val h')
    (hy : ∀ h' s', Own 3 1 h' s' (ints (pk (mem c.vals.len c.com slot) row)) → Ext h h' → mem c.vals.len c.com slot ≠ [] → row.length = (mem c.vals.len c.com slot).length → R (TV.tup [.slice s', .bool true]).val h') :
    CallsH Tryz.prog 233 (TVs.vals [c.tv, .int .i64 slot, .slice bits]) h R := by
  apply board_Pick_calls c.vals c.ep c.com c.no c.orp c.ear c.quo c.pe c.by_ c.win c.ban c.dec slot bits
  unfold board_Pick_vc
  refine newTV_in fun h1 v1 x1 s1 => ?_
  refine ⟨c.vals, c.ep, c.com, c.no, c.orp, c.ear, c.quo, c.pe, c.by_, c.win, c.ban, c.dec, v1.at, ?_⟩
  refine members_spec (c := c) hv fun h2 s2 o2 x2 _ => ⟨_, rfl, ?_⟩
  have x02 := x1.trans x2
  have el := ints_len o2.elems
  have ml := mem_length c.vals.len c.com slot
  generalize mem c.vals.len c.com slot = l at *
  have bl : row.length = bits.len := by have := e.len; rwa [List.length_map] at this
  intro J hJ
  refine If.dec.2 ⟨fun h0 => hn h2 x02 (.inl (List.eq_nil_of_length_eq_zero (by omega))), fun h0 => If.split (fun hb => ?_) fun hb => ?_⟩
  · refine hn h2 x02 (.inr fun hx => ?_)
    rw [bl, el] at hx
    simp [hx] at hb
  · have hbl : bits.len = s2.len := by
      have : ((bits.len : Nat) : Int) = ((s2.len : Nat) : Int) := by simpa using hb
      omega
    refine hJ _ _ ?_
    refine ⟨fun σ hh => 0 ≤ σ.2 ∧ σ.2 ≤ s2.len ∧ Own 3 1 hh σ.1 (ints (pk (l.take σ.2.toNat) (row.take σ.2.toNat))) ∧ (∀ p, σ.1.a = some p → h2.size ≤ p.b) ∧ Ext h2 hh ∧ σ.1.len ≤ σ.2.toNat, fun σ _ => ((s2.len : Int) - σ.2).toNat,
      ⟨Int.le_refl 0, by first | omega | (dsimp only; omega), Own.nil _ _ _, (fun p hp => by cases hp), Ext.refl _, Nat.zero_le _⟩, ?_⟩
    rintro ⟨t, i⟩ h3 ⟨i0, i1, o3, b3, x3, tl⟩
    dsimp only at i0 i1 o3 b3 tl ⊢
    refine If.dec.2 ⟨fun hi => ?_, fun hi => ?_⟩
    · refine read_int (o2.elems.ext x3) i0 (by omega) fun x hx => read_bool ((e.ext x02).ext x3) i0 (by omega) fun b hb2 => ?_
      have hi1 : (i + 1).toNat = i.toNat + 1 := by omega
      have hpk := pk_snoc (l.take i.toNat) (row.take i.toNat) x b (by rw [List.length_take, List.length_take]; omega)
      rw [← take_snoc hx, ← take_snoc hb2] at hpk
      rw [wrap_i64 (n := i + 1) (by omega) (by omega)]
      have z3 := x3.size
      cases b with
      | false =>
        refine If.no ⟨⟨by first | omega | (dsimp only; omega), by first | omega | (dsimp only; omega), ?_, b3, x3, by first | omega | (dsimp only; omega)⟩, by first | omega | (dsimp only; omega)⟩
        try dsimp only
        rw [hi1, hpk]
        simpa using o3
      | true =>
        have hlen := o3.len
        rw [List.length_map] at hlen
        refine If.yes (append1 (C := ctx) (T := 3) (sz := 1) (x := .int .i64 x) size3 zsize3 (by rw [bytes3]; decide) (by rw [bytes3]; omega) o3 rfl rfl fun s4 h4 o4 f4 b4 => ?_)
        have hlen4 := o4.len
        rw [List.length_append, List.length_map, List.length_singleton] at hlen4
        refine ⟨⟨by first | omega | (dsimp only; omega), by first | omega | (dsimp only; omega), ?_, fun p hp => ?_, ?_, by first | omega | (dsimp only; omega)⟩, by first | omega | (dsimp only; omega)⟩
        · try dsimp only
          rw [hi1, hpk]
          simp only [ints, if_true, List.map_append, List.map_cons, List.map_nil] at o4 ⊢
          exact o4
        · rcases b4 p hp with ⟨l', h9, h10⟩ | h9
          · rw [← h10]; exact b3 l' h9
          · omega
        · refine Only.cut x3 f4 fun j ⟨p, hp, ej⟩ => ?_
          rw [← ej]; exact b3 p hp
    · have hi2 : i.toNat = l.length := by omega
      have hi3 : row.length = l.length := by omega
      rw [hi2, List.take_length, ← hi3, List.take_length] at o3
      exact hy h3 t o3 (x02.trans x3) (fun hx => by subst hx; simp at el; omega) hi3

/-! ### Whether a configuration can be -/

theorem read_vd {s : Sl} {l : List Vd} {i : Int} (e : Elems 2 h s (vds l)) (i0 : 0 ≤ i) (i1 : i < l.length) {K : Int → List UInt8 → Prop} (hk : ∀ x, l[i.toNat]? = some x → K x.stake x.key) :
    0 ≤ i ∧ i < (s.len : Int) ∧ Nn s.a fun (p : Vc.Loc) => ∃ (n : Int), ∃ (k : List UInt8), (at1 h p.b (p.o + i.toNat * 2) (.int .i64 n) ∧ at1 h p.b (p.o + i.toNat * 2 + 1) (.string (ByteArray.mk k.toArray))) ∧ K n k := by
  have hl := e.len
  rw [List.length_map] at hl
  refine e.read i0 (by omega) fun p t hla ht ha => ?_
  rw [List.getElem?_map] at ht
  obtain ⟨x, hx, rfl⟩ := Option.map_eq_some_iff.1 ht
  exact ⟨x.stake, x.key, ha, hk x hx⟩

theorem great_spec {L : List Vd} (e : Elems 2 h c.vals (vds L)) (hy : ∀ h', Ext h h' → R (TV.bool true).val h') (hn : ∀ h', Ext h h' → c.vals.len ≤ 100 → R (TV.bool false).val h') : CallsH Tryz.prog 18 (TVs.vals [c.tv]) h R := by
  apply tollerref05_Great_calls c.vals c.ep c.com c.no c.orp c.ear c.quo c.pe c.by_ c.win c.ban c.dec
  unfold tollerref05_Great_vc
  refine newTV_in fun h1 v1 x1 s1 => ⟨c.vals, v1.at1 rfl, If.dec.2 ⟨fun hb => hy h1 x1, fun hb => ⟨c.vals, v1.at1 rfl, ?_⟩⟩⟩
  have el : L.length = c.vals.len := by have := e.len; rwa [List.length_map] at this
  refine ⟨fun σ hh => 0 ≤ σ.2 ∧ σ.2 ≤ c.vals.len ∧ Ext h hh, fun σ _ => ((c.vals.len : Int) - σ.2).toNat, ⟨Int.le_refl 0, by first | omega | (dsimp only; omega), x1⟩, ?_⟩
  rintro ⟨f, i⟩ h2 ⟨i0, i1, x2⟩
  dsimp only at i0 i1 ⊢
  refine If.dec.2 ⟨fun hi => ?_, fun hi => hn h2 x2 (by omega)⟩
  refine read_vd (e.ext x2) i0 (by omega) fun x hx => newTV_in fun h3 v3 x3 s3 => put_in v3 (t := x.tv) rfl fun h4 v4 o4 s4 => ?_
  have x4 : Ext h h4 := x2.trans (Only.cut x3 o4 fun i hi => by omega)
  refine ⟨x.key, v4.at1 rfl, If.dec.2 ⟨fun _ => hy h4 x4, fun _ => ?_⟩⟩
  rw [wrap_i64 (n := i + 1) (by omega) (by omega)]
  exact ⟨⟨by first | omega | (dsimp only; omega), by first | omega | (dsimp only; omega), x4⟩, by first | omega | (dsimp only; omega)⟩

theorem total_spec {s : Sl} {L : List Vd} (e : Elems 2 h s (vds L)) (hl : s.len < 100000) (hr : ∀ h' n b, Ext h h' → R (TV.tup [.int .i64 n, .bool b]).val h') : CallsH Tryz.prog 163 (TVs.vals [.slice s]) h R := by
  apply tollerref05_Total_calls
  unfold tollerref05_Total_vc
  have el : L.length = s.len := by have := e.len; rwa [List.length_map] at this
  refine ⟨fun σ hh => 0 ≤ σ.2.2.2 ∧ σ.2.2.2 ≤ s.len ∧ Ext h hh, fun σ _ => ((s.len : Int) - σ.2.2.2).toNat, ⟨Int.le_refl 0, by first | omega | (dsimp only; omega), Ext.refl _⟩, ?_⟩
  rintro ⟨a1, a2, a3, i⟩ h2 ⟨i0, i1, x2⟩
  dsimp only at i0 i1 ⊢
  refine If.dec.2 ⟨fun hi => ?_, fun hi => hr h2 _ _ x2⟩
  refine read_vd (e.ext x2) i0 (by omega) fun x hx => newTV_in fun h3 v3 x3 s3 => put_in v3 (t := x.tv) rfl fun h4 v4 o4 s4 => ?_
  have x4 : Ext h h4 := x2.trans (Only.cut x3 o4 fun i hi => by omega)
  refine ⟨x.stake, v4.at1 rfl, If.dec.2 ⟨fun _ => hr h4 _ _ x4, fun _ => ⟨x.key, v4.at1 rfl, If.dec.2 ⟨fun _ => hr h4 _ _ x4, fun _ => ⟨x.key, v4.at1 rfl, If.dec.2 ⟨fun _ => hr h4 _ _ x4, fun _ => ⟨x.stake, v4.at1 rfl, If.dec.2 ⟨fun _ => hr h4 _ _ x4, fun _ => ?_⟩⟩⟩⟩⟩⟩⟩⟩
  rw [wrap_i64 (n := i + 1) (by omega) (by omega)]
  exact ⟨⟨by first | omega | (dsimp only; omega), by first | omega | (dsimp only; omega), x4⟩, by first | omega | (dsimp only; omega)⟩

/-- The configuration's numbers, each with what it is at most. -/
def nums (c : Cf) : List Int := [c.ep, 32, c.com, mn 16 (c.vals.len : Int), c.no, 256, c.orp, 64, c.ear, 64, c.quo, 64, c.pe, 16, c.by_, 256, c.win, 64, c.ban, 1048576, c.dec, 1048576, (c.vals.len : Int), 64]

end
end Go.Proofs.YtennbinbffdimaaGreat.Board
end

section
/- Configurations and rows of numbers that come in. -/
namespace Go.Proofs.YtennbinbffdimaaGreat.Board
open Go Go.Vc

theorem wf_top {n : Int} (h : (Lit.int .i64 n).wf = true) : n < 9223372036854775808 := by
  have h : (decide (IntKind.min .i64 ≤ n) && decide (n ≤ IntKind.max .i64)) = true := h
  have h2 := of_decide_eq_true (Bool.and_eq_true_iff.1 h).2
  have h3 : IntKind.max .i64 = 9223372036854775807 := by rfl
  omega

section
variable {H : Type} {enc : TypeId × Value → H} {w : World} {base fuel : Nat} {spare : Nat → Bool} {held : Bool}

theorem cell_spot {P : Program} {r : Reach} {base : Nat} {t e : TypeId} (ht : P.underlying t = some (.slice e)) {a : Addr} {len cap : Nat} (h : Cell.okWide P w r base t (.slice (some a) len cap)) : a.spot = none := by
  unfold Cell.okWide at h
  rw [ht] at h
  simp only at h
  unfold Cell.ok at h
  rw [ht] at h
  exact h.2.2.2.1

set_option maxRecDepth 100000 in
theorem vd_in {cs : List Value} {x : DataW H × List MemPlace} (h : DataW.trod enc Tryz.prog w base spare held fuel 137 cs = some x) : ∃ v : Vd, cs = v.tv.cells ∧ v.stake < 9223372036854775808 := by
  have hd : ∃ f0 f1 : Field, Tryz.prog.underlying 137 = some (.struct #[f0, f1]) ∧ f0.type = 3 ∧ f0.offset = 0 ∧ f1.type = 9 ∧ f1.offset = 1 := ⟨_, _, Tryz.underlying137, rfl, rfl, rfl, rfl⟩
  obtain ⟨f0, f1, hu, e0, e1, e2, e3⟩ := hd
  obtain ⟨xs, n, _, rfl, hlen, hl, hf⟩ := DataW.trod_struct hu h
  have c3 : Tryz.prog.cellsOf 3 = 1 := by kernel_rfl
  have c9 : Tryz.prog.cellsOf 9 = 1 := by kernel_rfl
  have c41 : Tryz.prog.cellsOf 137 = 2 := by kernel_rfl
  match xs, hl with
  | [y0, y1], _ =>
    have t0 := hf 0 f0 rfl
    have t1 := hf 1 f1 rfl
    rw [e0, e1, c3] at t0
    rw [e2, e3, c9] at t1
    obtain ⟨n0, h0, w0, w1⟩ := DataW.trod_int Tryz.underlying3 t0
    obtain ⟨s, h1, _, _⟩ := DataW.trod_string Tryz.underlying9 t1
    rw [c41] at hlen
    match cs, hlen with
    | [v0, v1], _ =>
      simp only [List.drop_zero, List.take_succ_cons, List.take_zero, List.drop_succ_cons, List.cons.injEq, and_true] at h0 h1
      subst h0; subst h1
      exact ⟨⟨n0, s.data.toList⟩, by simp [Vd.tv, TV.cells, TVs.cells], by
        exact wf_top w1⟩

/-- A slice whose elements are known one by one. -/
theorem slice_in {α : Type} [Inhabited α] {Q : α → Prop} {tv : α → TV} {sz t e : Nat} (ht : Tryz.prog.underlying t = some (.slice e)) (he : Tryz.prog.cellsOf e = sz) (hsz : ∀ x, (tv x).size = sz)
    (hin : ∀ {fuel : Nat} {cs : List Value} {x : DataW H × List MemPlace}, DataW.trod enc Tryz.prog w base spare held fuel e cs = some x → ∃ v : α, cs = (tv v).cells ∧ Q v)
    {a : Option Addr} {len cap : Nat} {x : DataW H × List MemPlace} (hs : ∀ x, a = some x → x.spot = none) (h : DataW.trod enc Tryz.prog w base spare held fuel t [.slice a len cap] = some x) :
    ∃ (sl : Sl) (cs : List α), Value.slice a len cap = (TV.slice sl).val ∧ Elems sz w.heap sl (cs.map tv) ∧ ∀ c ∈ cs, Q c := by
  rcases Deep.open_slice ht h with ⟨hc, _⟩ | ⟨a', l', c', m, n, D, Pl, hc, _, hl, _, hm, _, hel⟩
  · simp only [List.cons.injEq, Value.slice.injEq, and_true] at hc
    obtain ⟨rfl, rfl, rfl⟩ := hc
    exact ⟨Sl.nil, [], rfl, Elems.nil_ sz _, fun c hc => by cases hc⟩
  · simp only [List.cons.injEq, Value.slice.injEq, and_true] at hc
    obtain ⟨rfl, rfl, rfl⟩ := hc
    have hsp := hs a' rfl
    have hlm : len ≤ m := by rw [hm]; split <;> omega
    have each : ∀ i, i < len → ∃ c : α, (tv c).at w.heap a'.block (a'.off + i * sz) ∧ Q c := by
      intro i hi
      obtain ⟨cs', h1, h2⟩ := hel i (by omega)
      rw [he] at h1
      obtain ⟨_, hlen, hcell⟩ := World.cells?_some h1
      obtain ⟨c, rfl, hq⟩ := hin h2
      refine ⟨c, ?_, hq⟩
      rw [TV.at_iff]
      intro j hj
      have hj5 : j < sz := by rw [hsz] at hj; exact hj
      have := hcell j hj5
      rw [Deep.add_add] at this
      have hc2 := cel_of_cell hsp (i := i * sz + j) (v := (tv c).cells[j]'(by rw [TV.cells_length]; exact hj)) (by
        rw [this]
        simp [TV.cells_length, hj])
      rw [List.getElem?_eq_getElem (by rw [TV.cells_length]; exact hj), ← hc2, Nat.add_assoc]
    obtain ⟨f, hf⟩ := Deep.choose_lt each
    refine ⟨⟨some ⟨a'.block, a'.off⟩, len, cap⟩, (List.range len).map f, ?_, ⟨?_, ?_, ?_⟩, fun c hc => by
      obtain ⟨k, hk, rfl⟩ := List.mem_map.1 hc
      exact (hf k (List.mem_range.1 hk)).2⟩
    · cases a'
      simp only at hsp
      subst hsp
      rfl
    · simp
    · intro hn; cases hn
    · rintro l ⟨rfl⟩ i t ht
      rw [List.getElem?_map, Option.map_eq_some_iff] at ht
      obtain ⟨c, hc, rfl⟩ := ht
      rw [List.getElem?_map, Option.map_eq_some_iff] at hc
      obtain ⟨k, hk, rfl⟩ := hc
      have hk' := List.getElem?_eq_some_iff.1 hk
      obtain ⟨hi, he⟩ := hk'
      simp only [List.length_range] at hi
      simp only [List.getElem_range] at he
      subst he
      exact (hf i hi).1

set_option maxRecDepth 100000 in
theorem cf_in {r : Reach} {base2 : Nat} {v : Value} {d : DataW H} {p : List MemPlace} (hv : Value.okWide Tryz.prog w r base2 24 v) (h : DataW.Trod enc Tryz.prog w base spare held 24 v d p) :
    ∃ c : Cf, (∃ L, Elems 2 w.heap c.vals (vds L) ∧ ∀ v ∈ L, v.stake < 9223372036854775808) ∧ v = c.tv.val := by
  have hd : ∃ f0 f1 f2 f3 f4 f5 f6 f7 f8 f9 f10 f11 : Field, Tryz.prog.underlying 24 = some (.struct #[f0, f1, f2, f3, f4, f5, f6, f7, f8, f9, f10, f11]) ∧ (f0.type = 22 ∧ f0.offset = 0) ∧ (f1.type = 3 ∧ f1.offset = 1) ∧ (f2.type = 3 ∧ f2.offset = 2) ∧
      (f3.type = 3 ∧ f3.offset = 3) ∧ (f4.type = 3 ∧ f4.offset = 4) ∧ (f5.type = 3 ∧ f5.offset = 5) ∧ (f6.type = 3 ∧ f6.offset = 6) ∧ (f7.type = 3 ∧ f7.offset = 7) ∧ (f8.type = 3 ∧ f8.offset = 8) ∧ (f9.type = 3 ∧ f9.offset = 9) ∧
      (f10.type = 3 ∧ f10.offset = 10) ∧ (f11.type = 3 ∧ f11.offset = 11) := ⟨_, _, _, _, _, _, _, _, _, _, _, _, Tryz.underlying24, ⟨rfl, rfl⟩, ⟨rfl, rfl⟩, ⟨rfl, rfl⟩, ⟨rfl, rfl⟩, ⟨rfl, rfl⟩, ⟨rfl, rfl⟩, ⟨rfl, rfl⟩, ⟨rfl, rfl⟩, ⟨rfl, rfl⟩, ⟨rfl, rfl⟩, ⟨rfl, rfl⟩, ⟨rfl, rfl⟩⟩
  obtain ⟨f0, f1, f2, f3, f4, f5, f6, f7, f8, f9, f10, f11, hu, e0, e1, e2, e3, e4, e5, e6, e7, e8, e9, e10, e11⟩ := hd
  have hct : Tryz.prog.cellTypes Tryz.prog.depth 24 = some [22, 3, 3, 3, 3, 3, 3, 3, 3, 3, 3, 3] := by kernel_rfl
  have c24 : Tryz.prog.cellsOf 24 = 12 := by kernel_rfl
  have c3 : Tryz.prog.cellsOf 3 = 1 := by kernel_rfl
  have c22 : Tryz.prog.cellsOf 22 = 1 := by kernel_rfl
  unfold Value.okWide at hv
  rw [hu] at hv
  simp only at hv
  obtain ⟨cs, rfl, hs, ts, hts, _, hcell⟩ := hv
  rw [hct] at hts
  obtain rfl := Option.some.inj hts
  obtain ⟨fuel, hf0⟩ := h
  have hf1 : DataW.trod enc Tryz.prog w base spare held fuel 24 cs.toList = some (d, p) := hf0
  obtain ⟨xs, n, _, _, hlen, hl, hf⟩ := DataW.trod_struct hu hf1
  rw [c24] at hlen
  match xs, hl with
  | [y0, y1, y2, y3, y4, y5, y6, y7, y8, y9, y10, y11], _ =>
    have t0 := hf 0 f0 rfl
    have t1 := hf 1 f1 rfl
    have t2 := hf 2 f2 rfl
    have t3 := hf 3 f3 rfl
    have t4 := hf 4 f4 rfl
    have t5 := hf 5 f5 rfl
    have t6 := hf 6 f6 rfl
    have t7 := hf 7 f7 rfl
    have t8 := hf 8 f8 rfl
    have t9 := hf 9 f9 rfl
    have t10 := hf 10 f10 rfl
    have t11 := hf 11 f11 rfl
    rw [e0.1, e0.2, c22] at t0
    rw [e1.1, e1.2, c3] at t1
    rw [e2.1, e2.2, c3] at t2
    rw [e3.1, e3.2, c3] at t3
    rw [e4.1, e4.2, c3] at t4
    rw [e5.1, e5.2, c3] at t5
    rw [e6.1, e6.2, c3] at t6
    rw [e7.1, e7.2, c3] at t7
    rw [e8.1, e8.2, c3] at t8
    rw [e9.1, e9.2, c3] at t9
    rw [e10.1, e10.2, c3] at t10
    rw [e11.1, e11.2, c3] at t11
    clear hf hf0 hf1
    obtain ⟨n1, h1, _, _⟩ := DataW.trod_int Tryz.underlying3 t1
    obtain ⟨n2, h2, _, _⟩ := DataW.trod_int Tryz.underlying3 t2
    obtain ⟨n3, h3, _, _⟩ := DataW.trod_int Tryz.underlying3 t3
    obtain ⟨n4, h4, _, _⟩ := DataW.trod_int Tryz.underlying3 t4
    obtain ⟨n5, h5, _, _⟩ := DataW.trod_int Tryz.underlying3 t5
    obtain ⟨n6, h6, _, _⟩ := DataW.trod_int Tryz.underlying3 t6
    obtain ⟨n7, h7, _, _⟩ := DataW.trod_int Tryz.underlying3 t7
    obtain ⟨n8, h8, _, _⟩ := DataW.trod_int Tryz.underlying3 t8
    obtain ⟨n9, h9, _, _⟩ := DataW.trod_int Tryz.underlying3 t9
    obtain ⟨n10, h10, _, _⟩ := DataW.trod_int Tryz.underlying3 t10
    obtain ⟨n11, h11, _, _⟩ := DataW.trod_int Tryz.underlying3 t11
    clear t1 t2 t3 t4 t5 t6 t7 t8 t9 t10 t11
    obtain ⟨cl⟩ := cs
    simp only at hlen hcell h1 h2 h3 h4 h5 h6 h7 h8 h9 h10 h11 t0
    match cl, hlen with
    | [v0, v1, v2, v3, v4, v5, v6, v7, v8, v9, v10, v11], _ =>
      simp only [List.drop_zero, List.take_succ_cons, List.take_zero, List.drop_succ_cons, List.cons.injEq, and_true] at h1 h2 h3 h4 h5 h6 h7 h8 h9 h10 h11 t0
      subst h1; subst h2; subst h3; subst h4; subst h5; subst h6; subst h7; subst h8; subst h9; subst h10; subst h11
      have hsl : ∃ a len cap, v0 = Value.slice a len cap := by
        rcases Deep.open_slice Tryz.underlying22 t0 with ⟨hc, _⟩ | ⟨a', l', c', m, n, D, Pl, hc, _⟩
        · exact ⟨_, _, _, by simpa using hc⟩
        · exact ⟨_, _, _, by simpa using hc⟩
      obtain ⟨a, len, cap, rfl⟩ := hsl
      obtain ⟨u, hu0, hok⟩ := hcell 0 _ rfl
      have hu22 : u = 22 := by
        have : some 22 = some u := hu0
        injection this with this
        exact this.symm
      subst hu22
      have hsp : ∀ x, a = some x → x.spot = none := fun x hx => by
        subst hx
        exact cell_spot Tryz.underlying22 hok
      obtain ⟨sl, L, e, hel, hq⟩ := slice_in (Q := fun v => v.stake < 9223372036854775808) (tv := Vd.tv) (sz := 2) Tryz.underlying22 (by kernel_rfl) Vd.size (fun {fuel cs x} h => vd_in h) hsp t0
      have e' : Value.slice a len cap = slVal sl := e
      rw [e']
      exact ⟨⟨sl, n1, n2, n3, n4, n5, n6, n7, n8, n9, n10, n11⟩, ⟨L, hel, hq⟩, rfl⟩

end

end Go.Proofs.YtennbinbffdimaaGreat.Board
end

section
/- What a configuration that can be is; its bytes; plain. -/
namespace Go.Proofs.YtennbinbffdimaaGreat.Gate
open Go Go.Vc
open Board (Vd Cf leF)

def inB (n most : Int) : Bool := decide (1 ≤ n) && decide (n ≤ most)
def okV (v : Vd) : Bool := decide (0 ≤ v.stake) && decide (v.stake < 4611686018427387904) && inB v.key.length 32

/-- All stakes together, behind so much, if they can be. -/
def totF : List Vd → Int → Option Int
  | [], s => some s
  | v :: L, s => if okV v = true ∧ s + v.stake < 4611686018427387904 then totF L (s + v.stake) else none

def goodC (c : Cf) (L : List Vd) : Bool :=
  (totF L 0).isSome && inB L.length 64 && (inB c.ep 32 && inB c.com (min 16 L.length) && inB c.no 256 && inB c.orp 64 && inB c.ear 64 && inB c.quo 64 && inB c.pe 16 && inB c.by_ 256 && inB c.win 64 && inB c.ban 1048576 && inB c.dec 1048576)

theorem inB_iff {n m : Int} : inB n m = true ↔ 1 ≤ n ∧ n ≤ m := by simp [inB]

/-- What a configuration that can be is good for. -/
structure Can (c : Cf) (L : List Vd) : Prop where
  tot : ∃ s, totF L 0 = some s
  len : 1 ≤ L.length ∧ L.length ≤ 64
  ep : 1 ≤ c.ep ∧ c.ep ≤ 32
  com : 1 ≤ c.com ∧ c.com ≤ 16 ∧ c.com ≤ L.length
  no : 1 ≤ c.no ∧ c.no ≤ 256
  orp : 1 ≤ c.orp ∧ c.orp ≤ 64
  ear : 1 ≤ c.ear ∧ c.ear ≤ 64
  quo : 1 ≤ c.quo ∧ c.quo ≤ 64
  pe : 1 ≤ c.pe ∧ c.pe ≤ 16
  by_ : 1 ≤ c.by_ ∧ c.by_ ≤ 256
  win : 1 ≤ c.win ∧ c.win ≤ 64
  ban : 1 ≤ c.ban ∧ c.ban ≤ 1048576
  dec : 1 ≤ c.dec ∧ c.dec ≤ 1048576

theorem good_can {c : Cf} {L : List Vd} : goodC c L = true ↔ Can c L := by
  unfold goodC
  simp only [Bool.and_eq_true, inB_iff, Option.isSome_iff_exists]
  constructor
  · rintro ⟨⟨h0, h1⟩, ⟨⟨⟨⟨⟨⟨⟨⟨⟨⟨h2, h3⟩, h4⟩, h5⟩, h6⟩, h7⟩, h8⟩, h9⟩, h10⟩, h11⟩, h12⟩⟩
    exact ⟨h0, by omega, h2, by omega, h4, h5, h6, h7, h8, h9, h10, h11, h12⟩
  · rintro ⟨h0, h1, h2, h3, h4, h5, h6, h7, h8, h9, h10, h11, h12⟩
    exact ⟨⟨h0, by omega, by omega⟩, ⟨⟨⟨⟨⟨⟨⟨⟨⟨⟨h2, by omega, by omega⟩, h4⟩, h5⟩, h6⟩, h7⟩, h8⟩, h9⟩, h10⟩, h11⟩, h12⟩⟩

theorem totF_ok : ∀ {L : List Vd} {s t : Int}, 0 ≤ s → s < 4611686018427387904 → totF L s = some t → (∀ v ∈ L, okV v = true) ∧ t = s + (L.map Vd.stake).sum ∧ t < 4611686018427387904
  | [], s, t, h0, h1, h => by cases h; exact ⟨fun v hv => (by cases hv), by simp, h1⟩
  | v :: L, s, t, h0, h1, h => by
    unfold totF at h
    split at h
    · rename_i hc
      have hv : 0 ≤ v.stake := by have := hc.1; simp only [okV, Bool.and_eq_true, decide_eq_true_eq] at this; exact this.1.1
      obtain ⟨a, b, c⟩ := totF_ok (by omega) hc.2 h
      refine ⟨fun x hx => ?_, by rw [b]; simp; omega, c⟩
      rcases List.mem_cons.1 hx with rfl | hx
      · exact hc.1
      · exact a x hx
    · cases h

def toller : List UInt8 := (ByteArray.mk #[(116 : UInt8), (111 : UInt8), (108 : UInt8), (108 : UInt8), (101 : UInt8), (114 : UInt8)]).data.toList
def le4 (n : Int) : List UInt8 := leF (IntKind.wrap .u64 n) 4
def bytesV (v : Vd) : List UInt8 := (leF (IntKind.wrap .u64 v.stake) 8 ++ leF (IntKind.wrap .u64 (v.key.length : Int)) 1) ++ v.key
/-- The numbers of a configuration, in order. -/
def numsC (c : Cf) (n : Nat) : List Int := [c.ep, c.com, c.no, c.orp, c.ear, c.quo, c.pe, c.by_, c.win, c.ban, c.dec, (n : Int)]
def bytesC (c : Cf) (L : List Vd) : List UInt8 := (numsC c L.length).flatMap le4 ++ L.flatMap bytesV
/-- The name of the first block. -/
def rootC (c : Cf) (L : List Vd) : Bs 32 := Board.docF (toller ++ bytesC c L)

end Go.Proofs.YtennbinbffdimaaGreat.Gate
end

section
/- Fields of elements that are written. -/
namespace Go.Vc
open Go

theorem list_cut {α : Type} (P C Q rest U : List α) (d n : Nat) (hd : d + n ≤ C.length) :
    (P ++ (C ++ Q) ++ rest).take (P.length + d) ++ U ++ (P ++ (C ++ Q) ++ rest).drop (P.length + d + n) = P ++ (C.take d ++ U ++ C.drop (d + n)) ++ Q ++ rest := by
  rw [Nat.add_assoc P.length d n, List.append_assoc P, List.take_length_add_append, List.drop_length_add_append, List.append_assoc C, List.take_append_of_le_length (by omega), List.drop_append_of_le_length (by omega)]
  simp only [List.append_assoc]

/-- A field of an element is written. -/
theorem Own.field_in {T : TypeId} {sz n d : Nat} {h : Heap} {s : Sl} {ts : List TV} {K : Heap → Prop} {u t t0 : TV} {i : Int} (o : Own T sz h s ts) (i0 : 0 ≤ i) (hg : ts[i.toNat]? = some t0) (hu : u.size = n)
    (hdn : d + n ≤ sz) (hc : t0.cells.take d ++ u.cells ++ t0.cells.drop (d + n) = t.cells)
    (hk : ∀ h1, Own T sz h1 s (ts.set i.toNat t) → Only (In s) h h1 → h1.size = h.size → K h1) :
    0 ≤ i ∧ i < (s.len : Int) ∧ Nn s.a fun l => wok h l.b (l.o + i.toNat * sz + d) n ∧ Bind (u.put h l.b (l.o + i.toNat * sz + d)) K := by
  have hi : i.toNat < ts.length := (List.getElem?_eq_some_iff.1 hg).1
  have hle := o.len
  have hlen := TVs.cells_uniform ts o.size
  have ht0 : t0.size = sz := o.size _ (List.mem_of_getElem? hg)
  have ht : t.size = sz := by
    rw [← TV.cells_length, ← hc, List.length_append, List.length_append, List.length_take, List.length_drop, TV.cells_length, TV.cells_length, ht0, hu]
    omega
  refine ⟨i0, by omega, ?_⟩
  rcases o.row with rfl | ⟨b, rest, ha, hb, hr⟩
  · simp only [Sl.nil] at hle
    omega
  · have hmul : i.toNat * sz + sz ≤ ts.length * sz := by
      have := Nat.mul_le_mul_right sz (show i.toNat + 1 ≤ ts.length by omega)
      rwa [Nat.succ_mul] at this
    have hl : i.toNat * sz + d + u.size ≤ (TVs.cells ts ++ rest).length := by rw [List.length_append, hlen, hu]; omega
    rw [ha]
    show wok h b (0 + i.toNat * sz + d) n ∧ Bind (u.put h b (0 + i.toNat * sz + d)) K
    rw [Nat.zero_add]
    refine ⟨wok_row hb (by rw [← hu]; exact hl), hk _ ?_ ((put_only hb hl).mono fun j hj => ⟨⟨b, 0⟩, ha, hj.symm⟩) (put_size hb hl)⟩
    have hp := put_row (t := u) hb hl
    refine ⟨fun v hv => ?_, by rw [List.length_set]; exact o.len, o.cap, .inr ⟨b, rest, ha, ?_, hr⟩⟩
    · rcases List.mem_or_eq_of_mem_set hv with h1 | rfl
      · exact o.size v h1
      · exact ht
    · have hA := cells_elem ts i.toNat t0 o.size ht0 hi
      have hself : ts.set i.toNat t0 = ts := by
        obtain ⟨h1, h2⟩ := List.getElem?_eq_some_iff.1 hg
        rw [← h2, List.set_getElem_self]
      rw [hself] at hA
      rw [hp, ← cells_elem ts i.toNat t o.size ht hi, ht, ← hc, ← hu]
      rw [ht0] at hA
      obtain ⟨P, hP⟩ : ∃ P, P = (TVs.cells ts).take (i.toNat * sz) := ⟨_, rfl⟩
      obtain ⟨Q, hQ⟩ : ∃ Q, Q = (TVs.cells ts).drop (i.toNat * sz + sz) := ⟨_, rfl⟩
      rw [← hP, ← hQ] at hA ⊢
      have hPl : P.length = i.toNat * sz := by rw [hP, List.length_take, hlen]; omega
      have := list_cut P t0.cells Q rest u.cells d u.size (by rw [TV.cells_length, ht0, hu]; exact hdn)
      rw [hPl] at this
      rw [← hA, List.append_assoc P, this]

theorem wf_u8 {n : Int} (h : (Lit.int .u8 n).wf = true) : 0 ≤ n ∧ n < 256 := by
  simp only [Lit.wf, Bool.and_eq_true, decide_eq_true_eq] at h
  have h0 : IntKind.u8.min ≤ n := h.1
  have h1 : n ≤ IntKind.u8.max := h.2
  have e0 : IntKind.u8.min = 0 := rfl
  have e1 : IntKind.u8.max = 255 := rfl
  omega

theorem wf_u64 {n : Int} (h : (Lit.int .u64 n).wf = true) : 0 ≤ n ∧ n < 18446744073709551616 := by
  simp only [Lit.wf, Bool.and_eq_true, decide_eq_true_eq] at h
  have h0 : IntKind.u64.min ≤ n := h.1
  have h1 : n ≤ IntKind.u64.max := h.2
  have e0 : IntKind.u64.min = 0 := rfl
  have e1 : IntKind.u64.max = 18446744073709551615 := rfl
  omega

/-- Bytes, as many as there are, the others 0. -/
def bsOf (n : Nat) (l : List UInt8) : Bs n := ⟨(l ++ List.replicate n 0).take n, by simp⟩

/-- Bytes are copied into a field of bytes that are 0. -/
theorem bytes_copy {T : TypeId} {h : Heap} {b i o n : Nat} {ts : List TV} {s : List UInt8} {K : Heap → Prop} (v : Var T h b (.agg ts)) (hi : ts[i]? = some (.bytes n (Bs.zero n))) (ho : TVs.size (ts.take i) = o) (hs : s.length ≤ n)
    (hk : ∀ h1, Var T h1 b (.agg (ts.set i (.bytes n (bsOf n s)))) → Only (· = b) h h1 → h1.size = h.size → K h1) :
    wok h b o (Nat.min s.length n) ∧ Bind (putl h b o ((s.take (Nat.min s.length n)).map fun (c : UInt8) => Value.int .u8 (c.toNat : Int))) K := by
  have hmin : Nat.min s.length n = s.length := Nat.min_eq_left hs
  rw [hmin, List.take_length]
  have hle := TVs.size_take_le ts i _ hi
  have hsz : (TV.bytes n (Bs.zero n)).size = n := by simp only [TV.size]
  rw [hsz] at hle
  have hl : o + (s.map fun (c : UInt8) => Value.int .u8 (c.toNat : Int)).length ≤ (TV.agg ts).cells.length := by rw [TV.cells_length, List.length_map]; simp only [TV.size]; omega
  have hg := putl_get (s.map fun (c : UInt8) => Value.int .u8 (c.toNat : Int)) h b o _ T v hl
  refine ⟨wok_row v (by rw [List.length_map] at hl; exact hl), hk _ ?_ ⟨by rw [hg.2.1]; exact Nat.le_refl _, fun b' _ hn => hg.2.2 b' hn⟩ hg.2.1⟩
  unfold Var
  rw [hg.1]
  congr 2
  have hc : (TV.agg ts).cells = TVs.cells ts := by simp only [TV.cells]
  have hc2 : (TV.agg (ts.set i (.bytes n (bsOf n s)))).cells = TVs.cells (ts.set i (.bytes n (bsOf n s))) := by simp only [TV.cells]
  rw [hc, hc2]
  have h0 := cells_field ts i o (.bytes n (Bs.zero n)) (.bytes n (Bs.zero n)) hi rfl ho
  have hself : ts.set i (.bytes n (Bs.zero n)) = ts := by
    obtain ⟨h1, h2⟩ := List.getElem?_eq_some_iff.1 hi
    rw [← h2, List.set_getElem_self]
  rw [hself] at h0
  have h1 := cells_field ts i o (.bytes n (bsOf n s)) (.bytes n (Bs.zero n)) hi (by simp only [TV.size]) ho
  rw [← h1]
  obtain ⟨P, hP⟩ : ∃ P, P = (TVs.cells ts).take o := ⟨_, rfl⟩
  have hsz2 : (TV.bytes n (bsOf n s)).size = n := by simp only [TV.size]
  rw [hsz] at h0
  rw [hsz2]
  obtain ⟨Q, hQ⟩ : ∃ Q, Q = (TVs.cells ts).drop (o + n) := ⟨_, rfl⟩
  rw [← hP, ← hQ] at h0 ⊢
  have hPl : P.length = o := by
    rw [hP, List.length_take, ← hc, TV.cells_length]
    simp only [TV.size]
    omega
  have hz : (TV.bytes n (Bs.zero n)).cells = List.replicate n (.int .u8 0) := by simp [TV.cells, Bs.zero]
  rw [hz] at h0
  have hcut := list_cut P (List.replicate n (.int .u8 0)) Q [] (s.map fun (c : UInt8) => Value.int .u8 (c.toNat : Int)) 0 s.length (by rw [List.length_replicate]; omega)
  rw [hPl, List.append_nil, List.append_nil, Nat.add_zero, ← List.append_assoc P, h0] at hcut
  rw [← hP] at hcut
  rw [List.length_map, hcut]
  congr 2
  have ht : (TV.bytes n (bsOf n s)).cells = (bsOf n s).l.map fun c => Value.int .u8 (c.toNat : Int) := by simp only [TV.cells]
  rw [ht]
  unfold bsOf
  simp only
  rw [List.take_append, List.take_of_length_le hs, List.map_append]
  simp [List.take_replicate, List.drop_replicate]

/-- A byte of a field of bytes is written. -/
theorem byte_field {T : TypeId} {h : Heap} {b i o p n k : Nat} {ts : List TV} {x : Bs n} {c : Int} {K : Heap → Prop} (v : Var T h b (.agg ts)) (hi : ts[i]? = some (.bytes n x)) (ho : TVs.size (ts.take i) = o) (hkn : k < n) (hp : p = o + k) (h0 : 0 ≤ c) (h1 : c < 256)
    (hk : ∀ h1, Var T h1 b (.agg (ts.set i (.bytes n (x.set k (UInt8.ofNat c.toNat))))) → Only (· = b) h h1 → h1.size = h.size → K h1) :
    wok h b p 1 ∧ Bind ((TV.int .u8 c).put h b p) K := by
  subst hp
  have hle := TVs.size_take_le ts i _ hi
  have hsz : ∀ y : Bs n, (TV.bytes n y).size = n := fun y => by simp only [TV.size]
  rw [hsz] at hle
  have hc : ∀ us : List TV, (TV.agg us).cells = TVs.cells us := fun us => by simp only [TV.cells]
  have hl : o + k + (TV.int .u8 c).size ≤ (TV.agg ts).cells.length := by rw [TV.cells_length]; simp only [TV.size]; omega
  refine ⟨wok_row v hl, hk _ ?_ (put_only v hl) (put_size v hl)⟩
  have hpr := put_row (t := .int .u8 c) v hl
  unfold Var
  rw [hpr, hc, hc]
  congr 2
  have hb : ∀ y : Bs n, (TV.bytes n y).cells = y.l.map fun c => Value.int .u8 (c.toNat : Int) := fun y => by simp only [TV.cells]
  have h1' := cells_field ts i o (.bytes n (x.set k (UInt8.ofNat c.toNat))) (.bytes n x) hi (by rw [hsz, hsz]) ho
  have h0' := cells_field ts i o (.bytes n x) (.bytes n x) hi rfl ho
  have hself : ts.set i (.bytes n x) = ts := by
    obtain ⟨g1, g2⟩ := List.getElem?_eq_some_iff.1 hi
    rw [← g2, List.set_getElem_self]
  rw [hself, hsz, hb] at h0'
  rw [← h1', hsz, hb]
  obtain ⟨P, hP⟩ : ∃ P, P = (TVs.cells ts).take o := ⟨_, rfl⟩
  obtain ⟨Q, hQ⟩ : ∃ Q, Q = (TVs.cells ts).drop (o + n) := ⟨_, rfl⟩
  rw [← hP, ← hQ] at h0' ⊢
  have hPl : P.length = o := by
    rw [hP, List.length_take, ← hc, TV.cells_length]
    simp only [TV.size]
    omega
  have hcut := list_cut P (x.l.map fun c => Value.int .u8 (c.toNat : Int)) Q [] [.int .u8 c] k 1 (by rw [List.length_map, x.h]; omega)
  rw [hPl, List.append_nil, List.append_nil, ← List.append_assoc P, h0'] at hcut
  have hcell : (TV.int IntKind.u8 c).cells = [.int .u8 c] := rfl
  rw [hcell]
  show List.take (o + k) _ ++ _ ++ List.drop (o + k + 1) _ = _
  rw [hcut]
  congr 2
  simp only [Bs.set, List.map_set]
  have e : ((UInt8.ofNat c.toNat).toNat : Int) = c := by
    rw [UInt8.toNat_ofNat']
    omega
  rw [e, List.set_eq_take_append_cons_drop, if_pos (by rw [List.length_map, x.h]; exact hkn)]
  simp

theorem bsOf_snoc {n i : Nat} {l : List UInt8} {c : UInt8} (hc : l[i]? = some c) (hi : i < n) : (bsOf n (l.take i)).set i c = bsOf n (l.take (i + 1)) := by
  apply Bs.ext'
  have hil := (List.getElem?_eq_some_iff.1 hc).1
  show (List.take n (l.take i ++ List.replicate n 0)).set i c = List.take n (l.take (i + 1) ++ List.replicate n 0)
  rw [List.take_add_one, hc]
  apply List.ext_getElem?
  intro j
  rw [List.getElem?_set, List.length_take, List.length_append, List.length_take, List.length_replicate, List.getElem?_take, List.getElem?_take]
  by_cases hij : i = j
  · subst hij
    rw [if_pos rfl, if_pos (by omega), if_pos hi, List.append_assoc, List.getElem?_append_right (by rw [List.length_take]; omega), List.length_take, Nat.min_eq_left (by omega), Nat.sub_self]
    rfl
  · rw [if_neg hij]
    by_cases hjn : j < n
    · rw [if_pos hjn, if_pos hjn]
      by_cases hji : j < i
      · rw [List.getElem?_append_left (by rw [List.length_take]; omega), List.append_assoc, List.getElem?_append_left (by rw [List.length_take]; omega)]
      · rw [List.getElem?_append_right (by rw [List.length_take]; omega), List.length_take, Nat.min_eq_left (by omega), List.getElem?_append_right (by rw [List.length_append, List.length_take]; simp; omega), List.length_append, List.length_take, Nat.min_eq_left (by omega)]
        simp only [Option.toList, List.length_singleton, List.getElem?_replicate]
        rw [if_pos (by omega), if_pos (by omega)]
    · rw [if_neg hjn, if_neg hjn]

theorem cut_prefix {sz : Nat} {h : Heap} {s : Sl} {ts : List TV} (e : Elems sz h s ts) {n : Nat} (hn : n ≤ ts.length) : Elems sz h (cutSl s 0 n sz) (ts.take n) := by
  have ha : (cutSl s 0 n sz).a = s.a := by
    unfold cutSl
    cases s.a with
    | none => simp
    | some l => simp
  refine ⟨by rw [List.length_take]; show _ = n - 0; omega, fun hx => ?_, fun l hl i t ht => ?_⟩
  · rw [ha] at hx
    rw [e.nil hx]
    simp
  · rw [ha] at hl
    rw [List.getElem?_take] at ht
    split at ht
    · exact e.get l hl i t ht
    · cases ht

end Go.Vc
end

section
/- A validator's vote. -/
namespace Go.Proofs.YtennbinbffdimaaGreat.Board
open Go Go.Vc

structure Vt where
  who : Int
  slot : Int
  target : Bs 32
def Vt.tv (v : Vt) : TV := .agg [.int .i64 v.who, .int .i64 v.slot, .bytes 32 v.target]

end Go.Proofs.YtennbinbffdimaaGreat.Board
end

section
/- Part of what stood: all but some blocks are holes. -/
namespace Go.Vc
open Go

open Classical in
/-- What stands in some blocks, and holes elsewhere. -/
noncomputable def keeps (S : Nat → Prop) (h : Heap) : Heap := h.mapIdx fun i o => if S i then o else hole

theorem keeps_in {S : Nat → Prop} {h : Heap} {b : Nat} (s : S b) : (keeps S h)[b]? = h[b]? := by
  unfold keeps
  rw [Array.getElem?_mapIdx]
  cases h[b]? with
  | none => rfl
  | some o => simp [s]

theorem keeps_out {S : Nat → Prop} {h : Heap} {b : Nat} {o : Obj} (s : ¬ S b) (hb : (keeps S h)[b]? = some o) : o = hole := by
  unfold keeps at hb
  rw [Array.getElem?_mapIdx] at hb
  cases hx : h[b]? with
  | none => rw [hx] at hb; cases hb
  | some x => rw [hx] at hb; simp [s] at hb; exact hb.symm

theorem keeps_size {S : Nat → Prop} {h : Heap} : (keeps S h).size = h.size := by simp [keeps]

theorem keeps_sub {S : Nat → Prop} {h h' : Heap} (e : ∀ b, S b → b < h.size → h'[b]? = h[b]?) : Sub (keeps S h) h' := ⟨fun b o hb hn => by
  by_cases s : S b
  · rw [keeps_in s] at hb
    rw [e b s (Array.getElem?_eq_some_iff.1 hb).1, hb]
  · exact absurd (keeps_out s hb) hn⟩

theorem keeps_only {S : Nat → Prop} {h : Heap} : Only (fun i => ¬ S i) h (keeps S h) := ⟨by rw [keeps_size]; exact Nat.le_refl _, fun b _ hn => keeps_in (Classical.not_not.1 hn)⟩
theorem keeps_of {S Q : Nat → Prop} {h h' : Heap} (o : Only Q h h') (q : ∀ i, S i → ¬ Q i) : Sub (keeps S h) h' := keeps_sub fun b s hb => o.same b hb (q b s)
theorem keeps_refl {S : Nat → Prop} {h : Heap} : Sub (keeps S h) h := keeps_sub fun _ _ _ => rfl
theorem Var.keeps {T : TypeId} {S : Nat → Prop} {h : Heap} {b : Nat} {t : TV} (v : Var T h b t) (s : S b) : Var T (keeps S h) b t := (keeps_in s).trans v
/-- One block alone. -/
theorem lone_sub {T : TypeId} {h h' : Heap} {b : Nat} {t : TV} (v : Var T h b t) (v' : Var T h' b t) : Sub (Vc.keeps (· = b) h) h' := keeps_sub fun i s _ => by subst s; exact v'.trans v.symm

end Go.Vc
end

section
/- Trees of numbers, plain: what stands below a place, sums over it, the best child, the head. -/
namespace Go.Proofs.YtennbinbffdimaaGreat.Gate
open Go Go.Vc

section
variable {n : Nat} {par : Nat → Nat}

/-- Every place but the first stands behind its parent. -/
def Up (n : Nat) (par : Nat → Nat) : Prop := ∀ i, 0 < i → i < n → par i < i

def kid (n : Nat) (par : Nat → Nat) (k i : Nat) : Bool := decide (0 < i ∧ i < n ∧ par i = k)
def kids (n : Nat) (par : Nat → Nat) (k : Nat) : List Nat := (List.range n).filter (kid n par k)

theorem mem_kids {k i : Nat} : i ∈ kids n par k ↔ 0 < i ∧ i < n ∧ par i = k := by
  simp only [kids, kid, List.mem_filter, List.mem_range, decide_eq_true_eq]
  exact ⟨fun h => h.2, fun h => ⟨h.2.1, h⟩⟩

/-- What a place weighs, with all below it. -/
def wt (n : Nat) (par : Nat → Nat) (own : Nat → Int) : Nat → Nat → Int
  | 0, _ => 0
  | f + 1, k => own k + ((kids n par k).map (wt n par own f)).sum

def sumW (n : Nat) (par : Nat → Nat) (own : Nat → Int) (k : Nat) : Int := wt n par own n k

def one (b : Bool) : Int := if b = true then 1 else 0

theorem sum_zero {α : Type} {l : List α} {f : α → Int} (h : ∀ x ∈ l, f x = 0) : (l.map f).sum = 0 := by
  induction l with
  | nil => rfl
  | cons x l ih =>
    simp only [List.map_cons, List.sum_cons]
    rw [h x (List.mem_cons_self ..), ih fun y hy => h y (List.mem_cons_of_mem _ hy)]
    rfl

theorem kids_nodup (k : Nat) : (kids n par k).Nodup := List.nodup_range.filter _

/-! ### The best of some, by a total order -/

/-- x comes ahead of y: it weighs more, or as much, and its name is greater. -/
def ahd (s : Nat → Int) (r : Nat → List UInt8) (x y : Nat) : Bool := decide (s y < s x) || (decide (s x = s y) && Op.bytesLess (r y) (r x))

def bestStep (s : Nat → Int) (r : Nat → List UInt8) (b : Option Nat) (x : Nat) : Option Nat := match b with
  | none => some x
  | some y => if ahd s r x y = true then some x else some y
def bestL (s : Nat → Int) (r : Nat → List UInt8) (l : List Nat) : Option Nat := l.foldl (bestStep s r) none

/-- The one that comes ahead of all others. -/
def IsBest (s : Nat → Int) (r : Nat → List UInt8) (l : List Nat) : Option Nat → Prop
  | none => l = []
  | some b => b ∈ l ∧ ∀ x ∈ l, x ≠ b → ahd s r b x = true

end
end Go.Proofs.YtennbinbffdimaaGreat.Gate
end

section
/- Items: their order, rows in order, heaps; plain lists, no program in sight. -/
namespace Go.Proofs.YtennbinbffdimaaGreat.Pool
open Go Go.Vc

instance decBs {n : Nat} : DecidableEq (Bs n) := fun a b => decidable_of_iff (a.l = b.l) ⟨fun e => Bs.ext' e, fun e => by rw [e]⟩

structure It where
  slot : Int
  root : Bs 32
  peer : Int
  fr : Bs 32
  text : List UInt8

def It.tv (x : It) : TV := .agg [.int .i64 x.slot, .bytes 32 x.root, .int .i64 x.peer, .bytes 32 x.fr, .str x.text]
def It.zero : It := ⟨0, Bs.zero 32, 0, Bs.zero 32, []⟩
instance : Inhabited It := ⟨It.zero⟩

theorem It.size (x : It) : x.tv.size = 67 := rfl
theorem It.plain (x : It) : x.tv.plain = true := rfl

/-! ### Names in order -/

theorem less_irrefl : ∀ a : List UInt8, Op.bytesLess a a = false
  | [] => rfl
  | x :: xs => by simp [Op.bytesLess, less_irrefl xs, UInt8.lt_irrefl]

theorem less_trans : ∀ a b c : List UInt8, Op.bytesLess a b = true → Op.bytesLess b c = true → Op.bytesLess a c = true
  | [], [], _, h, _ => by cases h
  | _ :: _, [], _, h, _ => by cases h
  | _, _ :: _, [], _, k => by cases k
  | [], _ :: _, _ :: _, _, _ => rfl
  | x :: xs, y :: ys, z :: zs, h, k => by
    simp only [Op.bytesLess, Bool.or_eq_true, Bool.and_eq_true, decide_eq_true_eq, beq_iff_eq] at h k ⊢
    rw [UInt8.lt_iff_toNat_lt] at h k ⊢
    rcases h with h | ⟨h, h1⟩
    · rcases k with k | ⟨k, k1⟩
      · left; omega
      · left; rw [← k]; exact h
    · rcases k with k | ⟨k, k1⟩
      · left; rw [h]; exact k
      · right; exact ⟨h.trans k, less_trans xs ys zs h1 k1⟩

theorem less_total : ∀ a b : List UInt8, a ≠ b → Op.bytesLess a b = true ∨ Op.bytesLess b a = true
  | [], [], h => absurd rfl h
  | [], y :: ys, _ => .inl rfl
  | x :: xs, [], _ => .inr rfl
  | x :: xs, y :: ys, h => by
    simp only [Op.bytesLess, Bool.or_eq_true, Bool.and_eq_true, decide_eq_true_eq, beq_iff_eq]
    rw [UInt8.lt_iff_toNat_lt, UInt8.lt_iff_toNat_lt]
    by_cases e : x = y
    · subst e
      rcases less_total xs ys (fun hx => h (by rw [hx])) with h1 | h1
      · exact .inl (.inr ⟨rfl, h1⟩)
      · exact .inr (.inr ⟨rfl, h1⟩)
    · have : x.toNat ≠ y.toNat := fun hx => e (UInt8.toNat_inj.1 hx)
      rcases Nat.lt_or_ge x.toNat y.toNat with h1 | h1
      · exact .inl (.inl h1)
      · exact .inr (.inl (by omega))

/-! ### Items in order -/

/-- An item comes ahead of another one. -/
def bf (x y : It) : Bool := decide (x.slot < y.slot) || (decide (x.slot = y.slot) && Op.bytesLess x.root.l y.root.l)

theorem bf_iff {x y : It} : bf x y = true ↔ x.slot < y.slot ∨ (x.slot = y.slot ∧ Op.bytesLess x.root.l y.root.l = true) := by
  unfold bf
  simp

theorem bf_irrefl (x : It) : bf x x = false := by
  unfold bf
  simp [less_irrefl]

theorem bf_trans {x y z : It} (h : bf x y = true) (k : bf y z = true) : bf x z = true := by
  rw [bf_iff] at *
  rcases h with h | ⟨h, h1⟩ <;> rcases k with k | ⟨k, k1⟩
  · left; omega
  · left; omega
  · left; omega
  · exact .inr ⟨by omega, less_trans _ _ _ h1 k1⟩

theorem bf_asymm {x y : It} (h : bf x y = true) : bf y x = false := by
  cases hb : bf y x with
  | false => rfl
  | true => have := bf_trans h hb; rw [bf_irrefl] at this; cases this

theorem bf_total {x y : It} (h : ¬ (x.slot = y.slot ∧ x.root = y.root)) : bf x y = true ∨ bf y x = true := by
  rw [bf_iff, bf_iff]
  rcases Int.lt_or_gt_of_ne (a := x.slot) (b := y.slot) with h1
  by_cases e : x.slot = y.slot
  · have hr : x.root.l ≠ y.root.l := fun hx => h ⟨e, Bs.ext' hx⟩
    rcases less_total _ _ hr with h2 | h2
    · exact .inl (.inr ⟨e, h2⟩)
    · exact .inr (.inr ⟨e.symm, h2⟩)
  · rcases h1 e with h2 | h2
    · exact .inl (.inl h2)
    · exact .inr (.inl h2)

/-- What isn't ahead of what isn't ahead. -/
theorem nb_trans {x y z : It} (h : bf x y = false) (k : bf y z = false) : bf x z = false := by
  cases hb : bf x z with
  | false => rfl
  | true =>
    exfalso
    by_cases e : x.slot = y.slot ∧ x.root = y.root
    · have : bf y z = bf x z := by unfold bf; rw [e.1, e.2]
      rw [this, hb] at k
      cases k
    · rcases bf_total e with h1 | h1
      · rw [h1] at h; cases h
      · have := bf_trans h1 hb
        rw [this] at k; cases k

/-! ### Rows in order -/

def Srt (S : List It) : Prop := S.Pairwise fun x y => bf x y = true

def insIt (x : It) : List It → List It
  | [] => [x]
  | y :: ys => if bf x y = true then x :: y :: ys else y :: insIt x ys

theorem insIt_perm (x : It) : ∀ S, (insIt x S).Perm (x :: S)
  | [] => List.Perm.refl _
  | y :: ys => by
    unfold insIt
    split
    · exact List.Perm.refl _
    · exact ((insIt_perm x ys).cons y).trans (List.Perm.swap x y ys)

theorem insIt_srt {x : It} : ∀ {S : List It}, Srt S → (∀ y ∈ S, x.root ≠ y.root) → Srt (insIt x S)
  | [], _, _ => by simp [insIt, Srt]
  | y :: ys, h, hx => by
    unfold insIt
    have hy := List.pairwise_cons.1 h
    split
    · rename_i hb
      refine List.pairwise_cons.2 ⟨fun z hz => ?_, h⟩
      rcases List.mem_cons.1 hz with rfl | hz
      · exact hb
      · exact bf_trans hb (hy.1 z hz)
    · rename_i hb
      have hyx : bf y x = true := by
        rcases bf_total (x := x) (y := y) (fun e => hx y (List.mem_cons_self ..) e.2) with h1 | h1
        · exact absurd h1 hb
        · exact h1
      refine List.pairwise_cons.2 ⟨fun z hz => ?_, insIt_srt hy.2 (fun z hz => hx z (List.mem_cons_of_mem _ hz))⟩
      rcases List.mem_cons.1 ((insIt_perm x ys).mem_iff.1 hz) with rfl | hz
      · exact hyx
      · exact hy.1 z hz

/-- There is but one row in order of the same items. -/
theorem srt_unique : ∀ {S T : List It}, Srt S → Srt T → S.Perm T → S = T
  | [], T, _, _, hp => hp.nil_eq
  | x :: S, [], _, _, hp => by have := hp.length_eq; simp at this
  | x :: S, y :: T, hs, ht, hp => by
    have h1 := List.pairwise_cons.1 hs
    have h2 := List.pairwise_cons.1 ht
    have e : x = y := by
      rcases List.mem_cons.1 (hp.mem_iff.1 (List.mem_cons_self (a := x) (l := S))) with e | e
      · exact e
      · rcases List.mem_cons.1 (hp.mem_iff.2 (List.mem_cons_self (a := y) (l := T))) with e' | e'
        · exact e'.symm
        · have a := h2.1 x e
          have b := h1.1 y e'
          rw [bf_asymm a] at b
          cases b
    subst e
    rw [srt_unique h1.2 h2.2 (List.Perm.cons_inv hp)]

/-! ### Heaps: the one that comes last at the top -/

def hget (L : List It) (i : Nat) : It := L.getD i It.zero

/-- No parent from lo on is ahead of its child. -/
def HeapFrom (lo : Nat) (L : List It) : Prop := ∀ k, 0 < k → k < L.length → lo ≤ (k - 1) / 2 → bf (hget L ((k - 1) / 2)) (hget L k) = false

theorem heap_top {L : List It} (h : HeapFrom 0 L) : ∀ (n k : Nat), k ≤ n → k < L.length → bf (hget L 0) (hget L k) = false
  | n, 0, _, _ => bf_irrefl _
  | 0, k + 1, hn, _ => by omega
  | n + 1, k + 1, hn, hk => by
    have h1 := h (k + 1) (by omega) hk (Nat.zero_le _)
    have h2 := heap_top h n ((k + 1 - 1) / 2) (by omega) (by omega)
    exact nb_trans h2 h1

theorem hget_mem {L : List It} {i : Nat} (h : i < L.length) : hget L i ∈ L := by
  unfold hget
  rw [List.getD_eq_getElem?_getD, List.getElem?_eq_getElem h]
  exact List.getElem_mem h

theorem hget_some {L : List It} {i : Nat} (h : i < L.length) : L[i]? = some (hget L i) := by
  unfold hget
  rw [List.getD_eq_getElem?_getD, List.getElem?_eq_getElem h]
  rfl

theorem hget_of {L : List It} {i : Nat} {x : It} (h : L[i]? = some x) : hget L i = x := by
  unfold hget
  rw [List.getD_eq_getElem?_getD, h]
  rfl

/-- What stands at the top is the last of all in order. -/
theorem heap_last {L S : List It} (h : HeapFrom 0 L) (hp : L.Perm S) (hs : Srt S) (h0 : 0 < L.length) : S.getLast? = some (hget L 0) := by
  have hl := hp.length_eq
  have hne : S ≠ [] := fun e => by rw [e, List.length_nil] at hl; omega
  rw [List.getLast?_eq_some_getLast hne]
  congr 1
  have hm : S.getLast hne ∈ L := hp.mem_iff.2 (List.getLast_mem hne)
  obtain ⟨i, hi, he⟩ := List.mem_iff_getElem.1 hm
  have hnb := heap_top h i i (Nat.le_refl _) hi
  rw [hget_of (List.getElem?_eq_some_iff.2 ⟨hi, he⟩)] at hnb
  have hm0 : hget L 0 ∈ S := hp.mem_iff.1 (hget_mem h0)
  obtain ⟨j, hj, hej⟩ := List.mem_iff_getElem.1 hm0
  by_cases e : j = S.length - 1
  · rw [List.getLast_eq_getElem, ← hej]
    congr 1
    exact e.symm
  · have := List.pairwise_iff_getElem.1 hs j (S.length - 1) hj (by omega) (by omega)
    rw [hej, ← List.getLast_eq_getElem hne] at this
    rw [this] at hnb
    cases hnb

/-- Two items change places. -/
def sw (L : List It) (i j : Nat) : List It := (L.set i (hget L j)).set j (hget L i)

theorem sw_length (L : List It) (i j : Nat) : (sw L i j).length = L.length := by simp [sw]

theorem sw_get {L : List It} {i j k : Nat} (hi : i < L.length) (hj : j < L.length) (hk : k < L.length) : hget (sw L i j) k = if k = j then hget L i else if k = i then hget L j else hget L k := by
  have e : (sw L i j)[k]? = some (if k = j then hget L i else if k = i then hget L j else hget L k) := by
    unfold sw
    rw [List.getElem?_set, List.getElem?_set]
    by_cases h1 : j = k
    · subst h1
      simp [hj]
    · rw [if_neg h1, if_neg (show ¬ k = j from fun e => h1 e.symm)]
      by_cases h2 : i = k
      · subst h2
        simp [hi]
      · rw [if_neg h2, if_neg (show ¬ k = i from fun e => h2 e.symm)]
        exact hget_some hk
  exact hget_of e

theorem sw_perm {L : List It} {i j : Nat} (hi : i < L.length) (hj : j < L.length) : (sw L i j).Perm L := by
  unfold sw
  have h1 : hget L i = L[i] := hget_of (List.getElem?_eq_getElem hi)
  have h2 : hget L j = L[j] := hget_of (List.getElem?_eq_getElem hj)
  rw [h1, h2]
  exact List.set_set_perm hi hj

/-- A heap, but that j may come behind its parent. -/
def UpInv (L : List It) (j : Nat) : Prop :=
  (∀ k, 0 < k → k < L.length → k ≠ j → bf (hget L ((k - 1) / 2)) (hget L k) = false) ∧
  (∀ k, 0 < k → k < L.length → (k - 1) / 2 = j → 0 < j → bf (hget L ((j - 1) / 2)) (hget L k) = false)

theorem up_done {L : List It} {j : Nat} (h : UpInv L j) (hj : j < L.length) (hd : j = 0 ∨ bf (hget L ((j - 1) / 2)) (hget L j) = false) : HeapFrom 0 L := by
  intro k hk hl _
  by_cases e : k = j
  · subst e
    rcases hd with hd | hd
    · omega
    · exact hd
  · exact h.1 k hk hl e

theorem up_step {L : List It} {j : Nat} (h : UpInv L j) (h0 : 0 < j) (hj : j < L.length) (hb : bf (hget L ((j - 1) / 2)) (hget L j) = true) : UpInv (sw L ((j - 1) / 2) j) ((j - 1) / 2) := by
  have hp : (j - 1) / 2 < j := by omega
  have hpl : (j - 1) / 2 < L.length := by omega
  generalize hpd : (j - 1) / 2 = p at *
  have g := fun k (hk : k < L.length) => sw_get (k := k) hpl hj hk
  refine ⟨fun k hk hl hne => ?_, fun k hk hl hpar hp0 => ?_⟩
  · rw [sw_length] at hl
    rw [g k hl, g _ (by omega)]
    by_cases e1 : k = j
    · subst e1
      rw [if_pos rfl, hpd, if_neg (by omega), if_pos rfl]
      exact bf_asymm hb
    · rw [if_neg e1, if_neg hne]
      by_cases e2 : (k - 1) / 2 = j
      · rw [if_pos e2]
        have := h.2 k hk hl e2 h0
        rwa [hpd] at this
      · rw [if_neg e2]
        by_cases e3 : (k - 1) / 2 = p
        · rw [if_pos e3]
          have := h.1 k hk hl e1
          rw [e3] at this
          exact nb_trans (bf_asymm hb) this
        · rw [if_neg e3]
          exact h.1 k hk hl e1
  · rw [sw_length] at hl
    have hpp : (p - 1) / 2 < p := by omega
    rw [g k hl, g _ (by omega), if_neg (show ¬ (p - 1) / 2 = j by omega), if_neg (show ¬ (p - 1) / 2 = p by omega)]
    have hpar2 := h.1 p hp0 hpl (by omega)
    by_cases e1 : k = j
    · rw [if_pos e1]
      exact hpar2
    · rw [if_neg e1, if_neg (show ¬ k = p by omega)]
      have := h.1 k hk hl e1
      rw [hpar] at this
      exact nb_trans hpar2 this

/-- A heap from lo on, but that i may be ahead of its children. -/
def DownInv (lo : Nat) (L : List It) (i : Nat) : Prop :=
  (∀ k, 0 < k → k < L.length → lo ≤ (k - 1) / 2 → (k - 1) / 2 ≠ i → bf (hget L ((k - 1) / 2)) (hget L k) = false) ∧
  (∀ k, 0 < k → k < L.length → (k - 1) / 2 = i → 0 < i → lo ≤ (i - 1) / 2 → bf (hget L ((i - 1) / 2)) (hget L k) = false)

theorem down_done {lo : Nat} {L : List It} {i : Nat} (h : DownInv lo L i) (hd : ∀ k, 0 < k → k < L.length → (k - 1) / 2 = i → bf (hget L i) (hget L k) = false) : HeapFrom lo L := by
  intro k hk hl hlo
  by_cases e : (k - 1) / 2 = i
  · rw [e]; exact hd k hk hl e
  · exact h.1 k hk hl hlo e

theorem down_step {lo : Nat} {L : List It} {i j : Nat} (h : DownInv lo L i) (hj : j < L.length) (hi : (j - 1) / 2 = i) (h0 : 0 < j) (hlo : lo ≤ i) (hb : bf (hget L i) (hget L j) = true)
    (hsib : ∀ k, 0 < k → k < L.length → (k - 1) / 2 = i → bf (hget L j) (hget L k) = false) : DownInv lo (sw L i j) j := by
  have hij : i < j := by omega
  have hil : i < L.length := by omega
  have g := fun k (hk : k < L.length) => sw_get (k := k) hil hj hk
  refine ⟨fun k hk hl hlok hne => ?_, fun k hk hl hpar _ hlo2 => ?_⟩
  · rw [sw_length] at hl
    rw [g k hl, g _ (by omega), if_neg hne]
    by_cases e1 : (k - 1) / 2 = i
    · rw [if_pos e1]
      by_cases e2 : k = j
      · rw [if_pos e2]
        exact bf_asymm hb
      · rw [if_neg e2, if_neg (show ¬ k = i by omega)]
        exact hsib k hk hl e1
    · rw [if_neg e1]
      by_cases e2 : k = j
      · exact absurd (e2 ▸ hi) e1
      · rw [if_neg e2]
        by_cases e3 : k = i
        · rw [if_pos e3]
          subst e3
          exact h.2 j h0 hj hi hk hlok
        · rw [if_neg e3]
          exact h.1 k hk hl hlok e1
  · rw [sw_length] at hl
    rw [hi, g k hl, g i hil, if_neg (show ¬ i = j by omega), if_pos rfl, if_neg (show ¬ k = j by omega), if_neg (show ¬ k = i by omega)]
    have := h.1 k hk hl (by omega) (by omega)
    rw [hpar] at this
    exact this

end Go.Proofs.YtennbinbffdimaaGreat.Pool
end

section
/- Trees of numbers, plain: the best child, the head; how the program reckons them. -/
namespace Go.Proofs.YtennbinbffdimaaGreat.Gate
open Go Go.Vc

open Pool (less_irrefl less_trans less_total)

section
variable {n : Nat} {par : Nat → Nat} {s : Nat → Int} {r : Nat → List UInt8}

theorem ahd_iff {x y : Nat} : ahd s r x y = true ↔ s y < s x ∨ (s x = s y ∧ Op.bytesLess (r y) (r x) = true) := by
  simp [ahd]

theorem ahd_trans {x y z : Nat} (h1 : ahd s r x y = true) (h2 : ahd s r y z = true) : ahd s r x z = true := by
  rw [ahd_iff] at *
  rcases h1 with h1 | ⟨h1, h1'⟩ <;> rcases h2 with h2 | ⟨h2, h2'⟩
  · left; omega
  · left; omega
  · left; omega
  · right; exact ⟨by omega, less_trans _ _ _ h2' h1'⟩

theorem ahd_asymm {x y : Nat} (h1 : ahd s r x y = true) : ahd s r y x = false := by
  cases h : ahd s r y x with
  | false => rfl
  | true =>
    have := ahd_trans h1 h
    rw [ahd_iff] at this
    rcases this with h | ⟨_, h⟩
    · omega
    · rw [less_irrefl] at h; cases h

theorem ahd_total {x y : Nat} (h : r x ≠ r y) : ahd s r x y = true ∨ ahd s r y x = true := by
  simp only [ahd_iff]
  rcases Int.lt_trichotomy (s x) (s y) with h1 | h1 | h1
  · exact .inr (.inl h1)
  · rcases less_total _ _ h with h2 | h2
    · exact .inr (.inr ⟨h1.symm, h2⟩)
    · exact .inl (.inr ⟨h1, h2⟩)
  · exact .inl (.inl h1)

theorem best_step {l : List Nat} {b : Option Nat} {x : Nat} (B : IsBest s r l b) (hx : ∀ y ∈ l, r x ≠ r y) : IsBest s r (l ++ [x]) (bestStep s r b x) := by
  cases b with
  | none =>
    have hl : l = [] := B
    subst hl
    exact ⟨by simp, fun y hy hn => by simp at hy; exact absurd hy hn⟩
  | some b =>
    obtain ⟨h1, h2⟩ := B
    unfold bestStep
    simp only
    split
    · rename_i h
      refine ⟨by simp, fun y hy hn => ?_⟩
      rcases List.mem_append.1 hy with hy | hy
      · by_cases hyb : y = b
        · rw [hyb]; exact h
        · exact ahd_trans h (h2 y hy hyb)
      · exact absurd (List.mem_singleton.1 hy) hn
    · rename_i h
      refine ⟨List.mem_append_left _ h1, fun y hy hn => ?_⟩
      rcases List.mem_append.1 hy with hy | hy
      · exact h2 y hy hn
      · rw [List.mem_singleton.1 hy] at hn ⊢
        exact (ahd_total (hx b h1)).resolve_left h

theorem best_unique {l l' : List Nat} {b b' : Option Nat} (hl : ∀ x, x ∈ l ↔ x ∈ l') (B : IsBest s r l b) (B' : IsBest s r l' b') : b = b' := by
  cases b with
  | none =>
    cases b' with
    | none => rfl
    | some x => have := (hl x).2 B'.1; rw [show l = [] from B] at this; cases this
  | some x =>
    cases b' with
    | none => have := (hl x).1 B.1; rw [show l' = [] from B'] at this; cases this
    | some y =>
      by_cases h : x = y
      · rw [h]
      · exfalso
        have h1 := B.2 y ((hl y).2 B'.1) (fun e => h e.symm)
        have h2 := B'.2 x ((hl x).1 B.1) h
        rw [ahd_asymm h1] at h2
        cases h2

/-- Names that tell places apart. -/
def Names (n : Nat) (r : Nat → List UInt8) : Prop := ∀ i j, i < n → j < n → r i = r j → i = j

theorem best_fold (hr : Names n r) : ∀ (l k : List Nat), (k ++ l).Nodup → (∀ x ∈ k ++ l, x < n) → ∀ b, IsBest s r k b → IsBest s r (k ++ l) (l.foldl (bestStep s r) b)
  | [], k, _, _, b, B => by simpa using B
  | x :: l, k, hn, hlt, b, B => by
    have hx : ∀ y ∈ k, r x ≠ r y := fun y hy he => by
      have hxy := hr x y (hlt x (by simp)) (hlt y (by simp [hy])) he
      have := (List.nodup_append.1 hn).2.2 y hy x (List.mem_cons_self ..)
      exact this hxy.symm
    have := best_fold hr l (k ++ [x]) (by simpa using hn) (by simpa using hlt) _ (best_step B hx)
    simpa using this

theorem bestL_is (hr : Names n r) {l : List Nat} (hn : l.Nodup) (hlt : ∀ x ∈ l, x < n) : IsBest s r l (bestL s r l) :=
  best_fold hr l [] hn hlt none rfl

/-- A place's best child. -/
def bestK (n : Nat) (par : Nat → Nat) (s : Nat → Int) (r : Nat → List UInt8) (k : Nat) : Option Nat := bestL s r (kids n par k)

theorem bestK_is (hr : Names n r) (k : Nat) : IsBest s r (kids n par k) (bestK n par s r k) := bestL_is hr (kids_nodup k) fun _ hx => (mem_kids.1 hx).2.1

theorem bestK_up (up : Up n par) (hr : Names n r) {k b : Nat} (h : bestK n par s r k = some b) : k < b ∧ b < n ∧ par b = k := by
  have := bestK_is (par := par) (s := s) hr k
  rw [h] at this
  obtain ⟨h0, h1, h2⟩ := mem_kids.1 this.1
  have := up b h0 h1
  omega

/-- From a place always the best child. -/
def headP (n : Nat) (par : Nat → Nat) (s : Nat → Int) (r : Nat → List UInt8) : Nat → Nat → Nat
  | 0, k => k
  | f + 1, k => match bestK n par s r k with
    | none => k
    | some b => headP n par s r f b

theorem head_fuel (up : Up n par) (hr : Names n r) : ∀ f g k, n - k ≤ f + 1 → n - k ≤ g + 1 → k < n → headP n par s r f k = headP n par s r g k
  | 0, 0, _, _, _, _ => rfl
  | 0, g + 1, k, h, _, hk => by
    have hb : bestK n par s r k = none := by
      cases hb : bestK n par s r k with
      | none => rfl
      | some b => have := bestK_up up hr hb; omega
    simp only [headP, hb]
  | f + 1, 0, k, _, h, hk => by
    have hb : bestK n par s r k = none := by
      cases hb : bestK n par s r k with
      | none => rfl
      | some b => have := bestK_up up hr hb; omega
    simp only [headP, hb]
  | f + 1, g + 1, k, hf, hg, hk => by
    unfold headP
    cases hb : bestK n par s r k with
    | none => rfl
    | some b =>
      have := bestK_up up hr hb
      exact head_fuel up hr f g b (by omega) (by omega) this.2.1

def leafP (n : Nat) (par : Nat → Nat) (s : Nat → Int) (r : Nat → List UInt8) (k : Nat) : Nat := headP n par s r n k

theorem leaf_step (up : Up n par) (hr : Names n r) {k : Nat} (hk : k < n) : leafP n par s r k = match bestK n par s r k with
    | none => k
    | some b => leafP n par s r b := by
  unfold leafP
  obtain ⟨m, rfl⟩ : ∃ m, n = m + 1 := ⟨n - 1, by omega⟩
  conv => lhs; unfold headP
  cases hb : bestK (m + 1) par s r k with
  | none => rfl
  | some b =>
    have := bestK_up up hr hb
    exact head_fuel up hr m (m + 1) b (by omega) (by omega) this.2.1

/-! ### How the program ranks: from the last place on -/

/-- The kids of a place from i on. -/
def kidsFrom (n : Nat) (par : Nat → Nat) (k i : Nat) : List Nat := (kids n par k).filter fun x => decide (i ≤ x)

theorem mem_kidsFrom {k i x : Nat} : x ∈ kidsFrom n par k i ↔ x ∈ kids n par k ∧ i ≤ x := by
  simp [kidsFrom]

/-- The best children so far, when the places from i on were looked at. -/
def Ranked (n : Nat) (par : Nat → Nat) (s : Nat → Int) (r : Nat → List UInt8) (i : Nat) (best : Nat → Option Nat) : Prop := ∀ k, k < n → IsBest s r (kidsFrom n par k i) (best k)

theorem ranked_end (best : Nat → Option Nat) (h : ∀ k, best k = none) : Ranked n par s r n best := fun k _ => by
  rw [h k]
  show kidsFrom n par k n = []
  refine List.eq_nil_iff_forall_not_mem.2 fun x hx => ?_
  have := mem_kidsFrom.1 hx
  have := (mem_kids.1 this.1).2.1
  omega

theorem isBest_congr {l l' : List Nat} {b : Option Nat} (hl : ∀ x, x ∈ l ↔ x ∈ l') (B : IsBest s r l b) : IsBest s r l' b := by
  cases b with
  | none =>
    have hb : l = [] := B
    refine List.eq_nil_iff_forall_not_mem.2 fun x hx => ?_
    have := (hl x).2 hx
    rw [hb] at this
    cases this
  | some b => exact ⟨(hl b).1 B.1, fun x hx => B.2 x ((hl x).2 hx)⟩

theorem ranked_step (hr : Names n r) {i : Nat} {best : Nat → Option Nat} (hi : i < n) (h0 : 0 < i) (B : Ranked n par s r (i + 1) best) :
    Ranked n par s r i fun k => if k = par i then bestStep s r (best k) i else best k := fun k hk => by
  dsimp only
  have B := B k hk
  by_cases hp : k = par i
  · rw [if_pos hp]
    refine isBest_congr (fun x => ?_) (best_step (x := i) B fun y hy he => ?_)
    · simp only [List.mem_append, mem_kidsFrom, List.mem_singleton, mem_kids]
      constructor
      · rintro (⟨h1, h2⟩ | rfl)
        · exact ⟨h1, by omega⟩
        · exact ⟨⟨h0, hi, hp.symm⟩, Nat.le_refl _⟩
      · rintro ⟨h1, h2⟩
        by_cases hx : x = i
        · exact .inr hx
        · exact .inl ⟨h1, by omega⟩
    · obtain ⟨h1, h2⟩ := mem_kidsFrom.1 hy
      have := hr i y hi (mem_kids.1 h1).2.1 he
      omega
  · rw [if_neg hp]
    refine isBest_congr (fun x => ?_) B
    simp only [mem_kidsFrom, mem_kids]
    constructor
    · rintro ⟨h1, h2⟩; exact ⟨h1, by omega⟩
    · rintro ⟨h1, h2⟩
      refine ⟨h1, ?_⟩
      have : x ≠ i := fun e => hp (by rw [← e]; exact h1.2.2.symm)
      omega

theorem ranked_all (hr : Names n r) {i : Nat} (hi : i ≤ 1) {best : Nat → Option Nat} (B : Ranked n par s r i best) {k : Nat} (hk : k < n) : best k = bestK n par s r k := by
  refine best_unique (fun x => ?_) (B k hk) (bestK_is hr k)
  simp only [mem_kidsFrom, mem_kids]
  constructor
  · exact fun h => h.1
  · exact fun h => ⟨h, by omega⟩

end
end Go.Proofs.YtennbinbffdimaaGreat.Gate
end

section
/- Maps in memory, whatever their keys and values are: what is found, laid, struck. -/
namespace Go.Vc
open Go

section
variable {K V : Type} [DecidableEq K]

def getL (k : K) : List (K × V) → Option V
  | [] => none
  | e :: es => if k = e.1 then some e.2 else getL k es
def putL (k : K) (v : V) : List (K × V) → List (K × V)
  | [] => [(k, v)]
  | e :: es => if k = e.1 then (e.1, v) :: es else e :: putL k v es

/-- How keys and values lie in a map. -/
structure Emb (C : Ctx) (d : TypeDesc) (κ : K → TV) : Prop where
  eq : ∀ a b, keyEq (κ a) (κ b) = decide (a = b)
  like : ∀ a, keyLike C d (κ a) = true

def encG (κ : K → TV) (ν : V → TV) (es : List (K × V × Nat)) : List (TV × TV × Nat) := es.map fun e => (κ e.1, ν e.2.1, e.2.2)
def absG (es : List (K × V × Nat)) : List (K × V) := es.map fun e => (e.1, e.2.1)
def StampsG (es : List (K × V × Nat)) (c : Nat) : Prop := (∀ e ∈ es, e.2.2 < c) ∧ (es.map (·.2.2)).Nodup

/-- A map in memory. -/
def MapG (κ : K → TV) (ν : V → TV) (h : Heap) (r : Nat) (L : List (K × V)) : Prop := ∃ es c, h[r]? = some (mapO (encG κ ν es) c) ∧ absG es = L ∧ StampsG es c

variable {κ : K → TV} {ν : V → TV} {C : Ctx} {d : TypeDesc} {h h' : Heap} {r : Nat} {L : List (K × V)}

omit [DecidableEq K] in
theorem MapG.ext (m : MapG κ ν h r L) (e : Ext h h') : MapG κ ν h' r L := by
  obtain ⟨es, c, h1, h2⟩ := m
  exact ⟨es, c, by rw [e.same r (Array.getElem?_eq_some_iff.1 h1).1, h1], h2⟩
omit [DecidableEq K] in
theorem MapG.only {S : Nat → Prop} (m : MapG κ ν h r L) (o : Only S h h') (hs : ¬ S r) : MapG κ ν h' r L := by
  obtain ⟨es, c, h1, h2⟩ := m
  exact ⟨es, c, by rw [o.same r (Array.getElem?_eq_some_iff.1 h1).1 hs, h1], h2⟩
omit [DecidableEq K] in
theorem MapG.lt (m : MapG κ ν h r L) : r < h.size := by
  obtain ⟨es, c, h1, h2⟩ := m
  exact (Array.getElem?_eq_some_iff.1 h1).1
omit [DecidableEq K] in
theorem MapG.new (h : Heap) : MapG κ ν (h.push (mapO [] 0)) h.size [] := ⟨[], 0, by simp [encG], rfl, (fun e he => by cases he), List.nodup_nil⟩
omit [DecidableEq K] in
theorem MapG.ne {T : TypeId} {b : Nat} {t : TV} (m : MapG κ ν h r L) (v : Var T h b t) : b ≠ r := by
  rintro rfl
  obtain ⟨es, c, h1, _⟩ := m
  unfold Var at v
  rw [h1] at v
  cases v

theorem like_encG (E : Emb C d κ) (es : List (K × V × Nat)) : AllLike C d (encG κ ν es) := by
  intro e he
  obtain ⟨x, _, rfl⟩ := List.mem_map.1 he
  exact E.like _

theorem find_encG (E : Emb C d κ) (k : K) : ∀ es : List (K × V × Nat), findE (κ k) (encG κ ν es) = (getL k (absG es)).map ν
  | [] => rfl
  | e :: es => by
    have ih := find_encG E k es
    unfold encG absG at ih ⊢
    simp only [List.map_cons, findE, getL, E.eq, decide_eq_true_eq]
    by_cases h : k = e.1
    · rw [if_pos h, if_pos h]; rfl
    · rw [if_neg h, if_neg h]; exact ih

theorem has_encG (E : Emb C d κ) (k : K) (es : List (K × V × Nat)) : hasE (κ k) (encG κ ν es) = (getL k (absG es)).isSome := by
  unfold hasE
  rw [find_encG E]
  simp

theorem or_encG (E : Emb C d κ) (k : K) (es : List (K × V × Nat)) (v0 : V) : orE (findE (κ k) (encG κ ν es)) (ν v0) = ν ((getL k (absG es)).getD v0) := by
  unfold orE
  rw [find_encG E]
  cases getL k (absG es) <;> rfl

theorem put_encG (E : Emb C d κ) (k : K) (v : V) {c : Nat} {es : List (K × V × Nat)} (hs : StampsG es c) :
    ∃ es', putE (κ k) (ν v) c (encG κ ν es) = encG κ ν es' ∧ absG es' = putL k v (absG es) ∧ StampsG es' (clockE (κ k) c (encG κ ν es)) := by
  have key : ∀ es : List (K × V × Nat), (∃ e', putE (κ k) (ν v) c (encG κ ν es) = encG κ ν e' ∧ absG e' = putL k v (absG es) ∧
      ((getL k (absG es) = none ∧ e'.map (·.2.2) = es.map (·.2.2) ++ [c]) ∨ (getL k (absG es) ≠ none ∧ e'.map (·.2.2) = es.map (·.2.2)))) := by
    intro es
    induction es with
    | nil => exact ⟨[(k, v, c)], rfl, rfl, .inl ⟨rfl, rfl⟩⟩
    | cons e es ih =>
      obtain ⟨e', h1, h2, h3⟩ := ih
      have d1 : encG κ ν (e :: es) = (κ e.1, ν e.2.1, e.2.2) :: encG κ ν es := rfl
      have d2 : absG (e :: es) = (e.1, e.2.1) :: absG es := rfl
      rw [d1, d2]
      simp only [putE, putL, getL, E.eq, decide_eq_true_eq]
      by_cases h : k = e.1
      · rw [if_pos h, if_pos h, if_pos h]
        exact ⟨(e.1, v, e.2.2) :: es, rfl, rfl, .inr ⟨by simp, rfl⟩⟩
      · rw [if_neg h, if_neg h, if_neg h, h1, ← h2]
        refine ⟨e :: e', rfl, rfl, ?_⟩
        rcases h3 with ⟨h3, h4⟩ | ⟨h3, h4⟩
        · exact .inl ⟨h3, by simp [h4]⟩
        · exact .inr ⟨h3, by simp [h4]⟩
  obtain ⟨e', h1, h2, h3⟩ := key es
  refine ⟨e', h1, h2, ?_⟩
  have hc : clockE (κ k) c (encG κ ν es) = match getL k (absG es) with | some _ => c | none => c + 1 := by
    unfold clockE
    rw [find_encG E]
    cases getL k (absG es) <;> rfl
  rw [hc]
  have hmem : ∀ e ∈ e', e.2.2 ∈ e'.map (·.2.2) := fun e he => List.mem_map.2 ⟨e, he, rfl⟩
  have hold : ∀ x ∈ es.map (·.2.2), x < c := fun x hx => by
    obtain ⟨e, he, rfl⟩ := List.mem_map.1 hx
    exact hs.1 e he
  rcases h3 with ⟨h3, h4⟩ | ⟨h3, h4⟩
  · rw [h3]
    refine ⟨fun e he => ?_, ?_⟩
    · have := hmem e he
      rw [h4] at this
      rcases List.mem_append.1 this with h | h
      · exact Nat.lt_succ_of_lt (hold _ h)
      · rw [List.mem_singleton.1 h]; exact Nat.lt_succ_self _
    · rw [h4]
      refine List.nodup_append.2 ⟨hs.2, by simp, fun a ha b hb => ?_⟩
      rw [List.mem_singleton.1 hb]
      have := hold a ha
      omega
  · cases hg : getL k (absG es) with
    | none => exact absurd hg h3
    | some v =>
      refine ⟨fun e he => ?_, by rw [h4]; exact hs.2⟩
      have := hmem e he
      rw [h4] at this
      exact hold _ this

/-- A pair is laid into a map. -/
theorem MapG.put (E : Emb C d κ) (m : MapG κ ν h r L) (k : K) (v : V) {P : Heap → Prop} (hk : ∀ h1, MapG κ ν h1 r (putL k v L) → Only (· = r) h h1 → h1.size = h.size → P h1) :
    ∃ es c, h[r]? = some (mapO es c) ∧ AllLike C d es ∧ Bind (h.setIfInBounds r (mapO (putE (κ k) (ν v) c es) (clockE (κ k) c es))) P := by
  obtain ⟨es, c, hb, rfl, hs⟩ := m
  refine ⟨_, c, hb, like_encG E es, ?_⟩
  obtain ⟨es', h1, h2, h3⟩ := put_encG (ν := ν) E k v hs
  have hlt := (Array.getElem?_eq_some_iff.1 hb).1
  refine hk _ ⟨es', _, ?_, h2, h3⟩ ⟨by simp, fun b _ hn => ?_⟩ (by simp)
  · rw [h1, Array.getElem?_setIfInBounds, if_pos rfl, if_pos hlt]
  · rw [Array.getElem?_setIfInBounds, if_neg (fun hx => hn hx.symm)]

/-- A key is looked up. -/
theorem MapG.look (E : Emb C d κ) (m : MapG κ ν h r L) (k : K) (v0 : V) : ∃ es c, h[r]? = some (mapO es c) ∧ AllLike C d es ∧ orE (findE (κ k) es) (ν v0) = ν ((getL k L).getD v0) ∧ hasE (κ k) es = (getL k L).isSome := by
  obtain ⟨es, c, hb, rfl, hs⟩ := m
  exact ⟨_, c, hb, like_encG E es, or_encG E k es v0, has_encG E k es⟩

omit [DecidableEq K] in
theorem MapG.len (m : MapG κ ν h r L) {P : Nat → Prop} (hp : P L.length) : ∃ es c, h[r]? = some (mapO es c) ∧ P es.length := by
  obtain ⟨es, c, hb, rfl, hs⟩ := m
  exact ⟨_, c, hb, by simpa [encG, absG] using hp⟩

end

/-! ### Lists of pairs -/
section
variable {K V : Type} [DecidableEq K] {L : List (K × V)}

def keysL (L : List (K × V)) : List K := L.map (·.1)

theorem getL_none {k : K} : getL k L = none ↔ k ∉ keysL L := by
  induction L with
  | nil => simp [getL, keysL]
  | cons e es ih =>
    unfold getL
    by_cases h : k = e.1
    · rw [if_pos h]
      simp [keysL, h]
    · rw [if_neg h, ih]
      simp [keysL, h]

end
end Go.Vc
end

section
/- Blocks, each behind its parent, as a list. -/
namespace Go.Proofs.YtennbinbffdimaaGreat.Gate
open Go Go.Vc

/-- A block: its name, its slot, its parent's place. -/
structure Nd where
  root : Bs 32
  slot : Int
  par : Int
def Nd.tv (x : Nd) : TV := .agg [.bytes 32 x.root, .int .i64 x.slot, .int .i64 x.par]
def Nd.zero : Nd := ⟨Bs.zero 32, 0, -1⟩

theorem dec_bs {n : Nat} (a b : Bs n) : decide (a.l = b.l) = decide (a = b) := decide_eq_decide.2 ⟨Bs.ext', fun h => by rw [h]⟩

/-- A block's place. -/
def findR (r : Bs 32) : List Nd → Option Nat
  | [] => none
  | x :: l => if r = x.root then some 0 else (findR r l).map (· + 1)
def place (r : Bs 32) (L : List Nd) : Int := match findR r L with
  | some i => (i : Int)
  | none => -1

/-- The places by names. -/
def locs (L : List Nd) (k : Nat) : List (Bs 32 × Int) := match L with
  | [] => []
  | x :: l => (x.root, (k : Int)) :: locs l (k + 1)

theorem getL_locs (r : Bs 32) : ∀ (L : List Nd) (k : Nat), getL r (locs L k) = (findR r L).map fun i => ((k + i : Nat) : Int)
  | [], _ => rfl
  | x :: l, k => by
    unfold locs getL findR
    by_cases h : r = x.root
    · rw [if_pos h, if_pos h]; rfl
    · rw [if_neg h, if_neg h, getL_locs r l (k + 1)]
      cases findR r l <;> simp [Nat.add_assoc, Nat.add_comm 1]

theorem find_at {i : Nat} {x : Nd} : ∀ {L : List Nd}, (L.map Nd.root).Nodup → L[i]? = some x → findR x.root L = some i
  | [], _, h => by simp at h
  | y :: l, hn, h => by
    obtain ⟨h1, h2⟩ := List.nodup_cons.1 hn
    unfold findR
    cases i with
    | zero =>
      have : y = x := by simpa using h
      rw [if_pos (by rw [this])]
    | succ j =>
      have hj : l[j]? = some x := by simpa using h
      have hne : x.root ≠ y.root := fun e => h1 (by rw [← e]; exact List.mem_map.2 ⟨x, List.mem_of_getElem? hj, rfl⟩)
      rw [if_neg hne, find_at h2 hj]
      rfl

/-- What holds of every tree's blocks. -/
structure TOk (L : List Nd) (most : Int) : Prop where
  ne : L ≠ []
  first : ∀ x, L[0]? = some x → x.par = -1
  up : ∀ (i : Nat) (x : Nd), L[i]? = some x → 0 < i → 0 ≤ x.par ∧ x.par < i
  nodup : (L.map Nd.root).Nodup
  slots : ∀ x ∈ L, 0 ≤ x.slot ∧ x.slot ≤ 1073741824
  later : ∀ (i : Nat) (x y : Nd), L[i]? = some x → 0 < i → L[x.par.toNat]? = some y → y.slot < x.slot
  len : (L.length : Int) ≤ most
  most : 1 ≤ most ∧ most ≤ 256

/-- The block at a place. -/
def nodeAt (L : List Nd) (i : Int) : Option Nd := if 0 ≤ i then L[i.toNat]? else none

theorem TOk.len1 {L : List Nd} {most : Int} (o : TOk L most) : 0 < L.length := List.length_pos_iff.2 o.ne

/-- Parents' places. -/
def parN (L : List Nd) (i : Nat) : Nat := ((L[i]?).map fun x => x.par.toNat).getD 0
def rootN (L : List Nd) (i : Nat) : List UInt8 := ((L[i]?).map fun x => x.root.l).getD []

theorem parN_at {L : List Nd} {i : Nat} {x : Nd} (h : L[i]? = some x) : parN L i = x.par.toNat := by unfold parN; rw [h]; rfl
theorem rootN_at {L : List Nd} {i : Nat} {x : Nd} (h : L[i]? = some x) : rootN L i = x.root.l := by unfold rootN; rw [h]; rfl

theorem TOk.tree {L : List Nd} {most : Int} (o : TOk L most) : Up L.length (parN L) := fun i h0 hi => by
  have hx : L[i]? = some L[i] := List.getElem?_eq_getElem hi
  have := o.up i _ hx h0
  rw [parN_at hx]
  omega

theorem TOk.names {L : List Nd} {most : Int} (o : TOk L most) : Names L.length (rootN L) := fun i j hi hj h => by
  have hx : L[i]? = some L[i] := List.getElem?_eq_getElem hi
  have hy : L[j]? = some L[j] := List.getElem?_eq_getElem hj
  rw [rootN_at hx, rootN_at hy] at h
  have h1 := find_at o.nodup hx
  have h2 := find_at o.nodup hy
  rw [Bs.ext' h, h2] at h1
  exact (Option.some.inj h1).symm

end Go.Proofs.YtennbinbffdimaaGreat.Gate
end

section
/- Validators' latest votes, and what blocks weigh by them, plain. -/
namespace Go.Proofs.YtennbinbffdimaaGreat.Gate
open Go Go.Vc

open Board (Vt)

/-- The latest votes, who doesn't count, and what was voted for first in an epoch. -/
structure Tb where
  slots : Int
  latest : List (Option Vt)
  out : List Bool
  first : List ((Int × Int) × Bs 32)

structure TbOk (t : Tb) (n : Nat) : Prop where
  slots : 1 ≤ t.slots ∧ t.slots ≤ 32
  nn : 1 ≤ n ∧ n ≤ 64
  llen : t.latest.length = n
  olen : t.out.length = n
  lat : ∀ (i : Nat) (v : Vt), t.latest[i]? = some (some v) → v.who = i ∧ 0 ≤ v.slot ∧ v.slot ≤ 1073741824
  one : (keysL t.first).Nodup
  fst : ∀ e ∈ t.first, 0 ≤ e.1.1 ∧ e.1.1 < n ∧ 0 ≤ e.1.2 ∧ e.1.2 ≤ 1073741824

def newTb (n : Nat) (slots : Int) : Tb := ⟨slots, List.replicate n none, List.replicate n false, []⟩

theorem newTb_ok {n : Nat} {slots : Int} (h : 1 ≤ slots ∧ slots ≤ 32) (hn : 1 ≤ n ∧ n ≤ 64) : TbOk (newTb n slots) n :=
  ⟨h, hn, by simp [newTb], by simp [newTb], fun i v hv => by
    have := List.mem_of_getElem? hv
    simp [newTb, List.mem_replicate] at this, List.nodup_nil, fun e he => by cases he⟩

def latestOf (t : Tb) (who : Int) : Option Vt := if 0 ≤ who then (t.latest.getD who.toNat none) else none
def outOf (t : Tb) (who : Int) : Bool := t.out.getD who.toNat false
def epochOf (t : Tb) (slot : Int) : Int := Int.tdiv slot t.slots

/-- What becomes of a vote: the code, and the table behind it. -/
def takeT (t : Tb) (v : Vt) : Int × Tb :=
  if ¬ (0 ≤ v.who ∧ v.who < t.latest.length ∧ 0 ≤ v.slot ∧ v.slot ≤ 1073741824) then (5, t)
  else if outOf t v.who = true then (4, t)
  else match getL (v.who, epochOf t v.slot) t.first with
    | some r => if r = v.target then (1, t) else (2, { t with out := t.out.set v.who.toNat true })
    | none => match latestOf t v.who with
      | some l => if epochOf t v.slot < epochOf t l.slot then (3, { t with first := t.first ++ [((v.who, epochOf t v.slot), v.target)] })
        else (0, { t with latest := t.latest.set v.who.toNat (some v), first := t.first ++ [((v.who, epochOf t v.slot), v.target)] })
      | none => (0, { t with latest := t.latest.set v.who.toNat (some v), first := t.first ++ [((v.who, epochOf t v.slot), v.target)] })

theorem epoch_le {t : Tb} {n : Nat} (o : TbOk t n) {s : Int} (h0 : 0 ≤ s) (h1 : s ≤ 1073741824) : 0 ≤ epochOf t s ∧ epochOf t s ≤ 1073741824 := by
  unfold epochOf
  have := o.slots
  rw [Int.tdiv_eq_ediv_of_nonneg h0]
  exact ⟨Int.ediv_nonneg h0 (by omega), Int.le_trans (Int.ediv_le_self _ h0) h1⟩

theorem first_more {t : Tb} {n : Nat} (o : TbOk t n) {k : Int × Int} {r : Bs 32} (hg : getL k t.first = none) : (keysL (t.first ++ [(k, r)])).Nodup := by
  have := getL_none.1 hg
  unfold keysL at this ⊢
  rw [List.map_append, List.nodup_append]
  refine ⟨o.one, by simp, fun a ha b hb => ?_⟩
  have : b = k := by simpa using hb
  rw [this]
  rintro rfl
  exact (getL_none.1 hg) ha

theorem TbOk.take {t : Tb} {n : Nat} (o : TbOk t n) (v : Vt) : TbOk (takeT t v).2 n := by
  unfold takeT
  split
  · exact o
  · rename_i h
    have h := Decidable.not_not.1 h
    have hl := o.llen
    have he := epoch_le o h.2.2.1 h.2.2.2
    have more : ∀ e ∈ t.first ++ [((v.who, epochOf t v.slot), v.target)], 0 ≤ e.1.1 ∧ e.1.1 < n ∧ 0 ≤ e.1.2 ∧ e.1.2 ≤ 1073741824 := fun e hm => by
      rcases List.mem_append.1 hm with hm | hm
      · exact o.fst e hm
      · rw [List.mem_singleton.1 hm]; exact ⟨h.1, by simp only; omega, he⟩
    have lat : ∀ (i : Nat) (x : Vt), (t.latest.set v.who.toNat (some v))[i]? = some (some x) → x.who = i ∧ 0 ≤ x.slot ∧ x.slot ≤ 1073741824 := fun i x hx => by
      rw [List.getElem?_set] at hx
      split at hx
      · rename_i hi
        split at hx
        · cases hx; exact ⟨by omega, h.2.2⟩
        · cases hx
      · exact o.lat i x hx
    split
    · exact o
    · split
      · split
        · exact o
        · exact ⟨o.slots, o.nn, o.llen, by simp [o.olen], o.lat, o.one, o.fst⟩
      · rename_i hg
        split
        · split
          · exact ⟨o.slots, o.nn, o.llen, o.olen, o.lat, first_more o hg, more⟩
          · exact ⟨o.slots, o.nn, by simp [o.llen], o.olen, lat, first_more o hg, more⟩
        · exact ⟨o.slots, o.nn, by simp [o.llen], o.olen, lat, first_more o hg, more⟩

/-! ### What votes weigh -/

def stakeN (st : List Int) (i : Nat) : Int := st.getD i 0

/-- What a validator's vote for a block weighs. -/
def stakeT (t : Tb) (st : List Int) (i : Nat) (r : Bs 32) : Int :=
  if t.out.getD i false = true then 0 else match t.latest.getD i none with
    | some v => if v.target = r then stakeN st i else 0
    | none => 0

/-- What all votes for a block weigh. -/
def allT (t : Tb) (st : List Int) (r : Bs 32) : Int := ((List.range st.length).map fun i => stakeT t st i r).sum

end Go.Proofs.YtennbinbffdimaaGreat.Gate
end

section
/- What a gate is, plain. -/
namespace Go.Proofs.YtennbinbffdimaaGreat.Gate
open Go Go.Vc
open Board (Vd Cf)
open Pool (It)

/-- A gate, but for its configuration. -/
structure St where
  N : List Nd
  tb : Tb
  kids : List It
  wait : List It
  sc : List (Int × Int)
  gone : Int
  now : Int
  left : Int

def stakes (V : List Vd) : List Int := V.map Vd.stake
/-- Own weights by place, from votes. -/
def ownOf (st : List Int) (t : Tb) (N : List Nd) (i : Nat) : Int := ((N[i]?).map fun x => allT t st x.root).getD 0

theorem allT_new (n : Nat) (sl : Int) (st : List Int) (r : Bs 32) : allT (newTb n sl) st r = 0 := by
  unfold allT
  have : ∀ i, stakeT (newTb n sl) st i r = 0 := fun i => by
    unfold stakeT newTb
    simp only [List.getD_eq_getElem?_getD, List.getElem?_replicate]
    by_cases hi : i < n
    · simp [hi]
    · simp [hi]
  simp only [this]
  generalize List.range st.length = l
  induction l with
  | nil => rfl
  | cons x xs ih => rw [List.map_cons, List.sum_cons, ih]; rfl

theorem ownOf_new (n : Nat) (sl : Int) (st : List Int) (N : List Nd) : ownOf st (newTb n sl) N = fun _ => 0 := by
  funext i
  unfold ownOf
  cases N[i]? with
  | none => rfl
  | some x => exact allT_new n sl st x.root

/-- A new gate. -/
def newSt (c : Cf) (V : List Vd) : St := ⟨[⟨rootC c V, 0, -1⟩], newTb V.length c.ep, [], [], [], 0, 0, 0⟩

theorem can_keys {c : Cf} {V : List Vd} (k : Can c V) : ∀ v ∈ V, 1 ≤ v.key.length ∧ v.key.length ≤ 32 := fun v hv => by
  obtain ⟨s, hs⟩ := k.tot
  have := (totF_ok (Int.le_refl 0) (by decide) hs).1 v hv
  unfold okV inB at this
  simp only [Bool.and_eq_true, decide_eq_true_eq] at this
  omega

end Go.Proofs.YtennbinbffdimaaGreat.Gate
end

section
/- Numbers of functions and types. -/
namespace Go.Proofs.YtennbinbffdimaaGreat
open Go
abbrev F.early_Early_Has : FuncId := 371
abbrev F.early_Early_Len : FuncId := 84
abbrev F.early_New : FuncId := 77
abbrev F.gate_Gate_Book : FuncId := 32
abbrev F.gate_Gate_Deliver : FuncId := 20
abbrev F.gate_Gate_Early : FuncId := 51
abbrev F.gate_Gate_Orphans : FuncId := 36
abbrev F.gate_Gate_Peers : FuncId := 52
abbrev F.gate_Gate_asked : FuncId := 205
abbrev F.gate_Gate_check : FuncId := 148
abbrev F.gate_Gate_final : FuncId := 116
abbrev F.gate_Gate_judge : FuncId := 80
abbrev F.gate_Gate_known : FuncId := 207
abbrev F.gate_New : FuncId := 19
abbrev F.gate_points : FuncId := 82
abbrev F.genesis_Bytes : FuncId := 202
abbrev F.genesis_Good : FuncId := 74
abbrev F.genesis_Root : FuncId := 142
abbrev F.genesis_Total : FuncId := 138
abbrev F.genesis_in : FuncId := 139
abbrev F.genesis_validator : FuncId := 199
abbrev F.orphans_New : FuncId := 76
abbrev F.orphans_Orphans_Has : FuncId := 37
abbrev F.orphans_Orphans_Len : FuncId := 83
abbrev F.peers_New : FuncId := 78
abbrev F.prune_Tree : FuncId := 244
abbrev F.sha_Less : FuncId := 198
abbrev F.size_Bound : FuncId := 38
abbrev F.size_Most : FuncId := 23
abbrev F.size_Of : FuncId := 21
abbrev F.size_Parts_Total : FuncId := 24
abbrev F.size_Parts_Within : FuncId := 22
abbrev F.size_sum : FuncId := 166
abbrev F.table_New : FuncId := 144
abbrev F.table_Table_Counts : FuncId := 71
abbrev F.table_Table_Marks : FuncId := 86
abbrev F.table_Table_Take : FuncId := 172
abbrev F.table_Table_Vote : FuncId := 70
abbrev F.table_Table_is : FuncId := 135
abbrev F.tollerlaw22_SizePeers : FuncId := 3
abbrev F.tollerlaw22_alive : FuncId := 17
abbrev F.tollerref05_Bytes : FuncId := 157
abbrev F.tollerref05_Good : FuncId := 96
abbrev F.tollerref05_Root : FuncId := 89
abbrev F.tollerref05_Total : FuncId := 163
abbrev F.tollerref10_New : FuncId := 160
abbrev F.tollerref10_Tree_Add : FuncId := 249
abbrev F.tollerref10_Tree_Place : FuncId := 73
abbrev F.tollerref10_Tree_Up : FuncId := 285
abbrev F.tollerref11_New : FuncId := 181
abbrev F.tollerref11_Weights_Best : FuncId := 251
abbrev F.tollerref11_Weights_Head : FuncId := 194
abbrev F.tollerref11_Weights_Kids : FuncId := 289
abbrev F.tollerref11_Weights_OwnOf : FuncId := 247
abbrev F.tollerref11_Weights_Sum : FuncId := 290
abbrev F.tollerref11_Weights_place : FuncId := 286
abbrev F.tollerref13_Table_Forget : FuncId := 113
abbrev F.tollerref13_Table_Is : FuncId := 243
abbrev F.tollerref13_Table_Take : FuncId := 177
abbrev F.tollerref14_Book_Take : FuncId := 112
abbrev F.tollerref14_Book_Weights : FuncId := 193
abbrev F.tree_New : FuncId := 141
abbrev F.tree_Tree_Add : FuncId := 283
abbrev F.tree_Tree_Len : FuncId := 57
abbrev F.tree_Tree_Node : FuncId := 34
abbrev F.tree_Tree_Place : FuncId := 35
abbrev F.tree_Tree_Room : FuncId := 210
abbrev F.tree_Tree_Roots : FuncId := 125
abbrev F.votes_Book_Add : FuncId := 266
abbrev F.votes_Book_Table : FuncId := 69
abbrev F.votes_Book_Take : FuncId := 105
abbrev F.votes_Book_Tree : FuncId := 33
abbrev F.votes_Book_all : FuncId := 297
abbrev F.votes_Book_put : FuncId := 173
abbrev F.votes_Book_stake : FuncId := 171
abbrev F.votes_New : FuncId := 75
abbrev F.weigh_New : FuncId := 143
abbrev F.weigh_Weights_Apply : FuncId := 236
abbrev F.weigh_Weights_Head : FuncId := 190
abbrev F.weigh_Weights_Own : FuncId := 245
abbrev F.weigh_Weights_Weight : FuncId := 122
abbrev F.weigh_Weights_ahead : FuncId := 261
abbrev F.weigh_Weights_grow : FuncId := 203
abbrev F.weigh_Weights_next : FuncId := 281
abbrev F.weigh_Weights_of : FuncId := 191
abbrev F.weigh_Weights_rank : FuncId := 204
abbrev T.api_Validator : TypeId := 137
abbrev T.api_Vote : TypeId := 124
abbrev T.clock_Clock : TypeId := 217
abbrev T.early_Early : TypeId := 212
abbrev T.gate_Gate : TypeId := 147
abbrev T.gate_parts : TypeId := 143
abbrev T.orphans_Orphans : TypeId := 172
abbrev T.p_api_Vote : TypeId := 198
abbrev T.p_early_Early : TypeId := 97
abbrev T.p_orphans_Orphans : TypeId := 84
abbrev T.size_Parts : TypeId := 34
abbrev T.table_Table : TypeId := 202
abbrev T.tollerref10_Tree : TypeId := 130
abbrev T.tollerref11_Weights : TypeId := 263
abbrev T.tollerref13_Table : TypeId := 192
abbrev T.tollerref14_Book : TypeId := 134
abbrev T.tree_Node : TypeId := 69
abbrev T.tree_Tree : TypeId := 168
abbrev T.votes_Book : TypeId := 164
abbrev T.weigh_Weights : TypeId := 270
end Go.Proofs.YtennbinbffdimaaGreat
end

section
/- The program's tree, in memory. -/
namespace Go.Proofs.YtennbinbffdimaaGreat.Gate
open Go Go.Vc

abbrev kR (r : Bs 32) : TV := .bytes 32 r
abbrev vI (n : Int) : TV := .int .i64 n
abbrev nds (L : List Nd) : List TV := L.map Nd.tv

theorem u8_5 : (ctx.ti 5).d = some (.int .u8) := by kernel_rfl
theorem emb_r : Emb ctx (.array 32 5) kR := ⟨fun a b => by simp only [keyEq]; exact dec_bs a b, fun a => by simp [keyLike, u8_5, isU8]⟩

theorem Nd.size (x : Nd) : x.tv.size = 34 := by simp only [Nd.tv, TV.size, TVs.size]
theorem Nd.plain (x : Nd) : x.tv.plain = true := by simp only [Nd.tv, TV.plain, TVs.plain, Bool.and_self]
theorem nds_size (L : List Nd) : ∀ t ∈ nds L, t.size = 34 := fun t ht => by obtain ⟨x, _, rfl⟩ := List.mem_map.1 ht; exact x.size

section
variable {R : Value → Heap → Prop} {h h' : Heap} {b r : Nat} {A : Sl} {L : List Nd} {most : Int}

/-- A tree in memory. -/
structure TrP (h : Heap) (b r : Nat) (A : Sl) (L : List Nd) (most : Int) : Prop where
  var : Var T.tree_Tree h b (.agg [.slice A, .map (some r), .int .i64 most])
  own : Own T.tree_Node 34 h A (nds L)
  map : MapG kR vI h r (locs L 0)
  ok : TOk L most
  ne : ¬ In A b ∧ ¬ In A r

/-- Its blocks. -/
def TrMine (b r : Nat) (A : Sl) (i : Nat) : Prop := i = b ∨ i = r ∨ In A i

theorem TrP.only {S : Nat → Prop} (p : TrP h b r A L most) (o : Only S h h') (hs : ∀ i, TrMine b r A i → ¬ S i) : TrP h' b r A L most :=
  ⟨p.var.only o (hs b (.inl rfl)), p.own.only o fun l hl => hs l.b (.inr (.inr ⟨l, hl, rfl⟩)), p.map.only o (hs r (.inr (.inl rfl))), p.ok, p.ne⟩
theorem TrP.ext (p : TrP h b r A L most) (x : Ext h h') : TrP h' b r A L most := p.only (S := fun _ => False) (.of_ext x) fun _ _ hf => hf
theorem TrP.lt (p : TrP h b r A L most) {i : Nat} (hi : TrMine b r A i) : i < h.size := by
  rcases hi with rfl | rfl | ⟨l, hl, rfl⟩
  · exact p.var.lt
  · exact p.map.lt
  · exact p.own.lt l hl
theorem TrP.len (p : TrP h b r A L most) : L.length = A.len := by have := p.own.len; rwa [List.length_map] at this

theorem Place_spec (p : TrP h b r A L most) {k : Bs 32} (hr : ∀ h', Ext h h' → R (TV.int .i64 (place k L)).val h') : CallsH Tryz.prog F.tree_Tree_Place (TVs.vals [.ptr (some ⟨b, 0⟩), .bytes 32 k]) h R := by
  apply tree_Tree_Place_calls
  unfold tree_Tree_Place_vc
  refine newTV_in fun h1 v1 x1 s1 => If.no ⟨some r, (p.var.ext x1).at1 rfl, k, v1.bytes, ?_⟩
  obtain ⟨es, c, hb, hl, ho, hh⟩ := (p.map.ext x1).look emb_r k 0
  refine ⟨es, c, hb, hl, _, ho, ?_⟩
  have hr := hr h1 x1
  rw [hh]
  rw [getL_locs]
  unfold place at hr
  cases hf : findR k L with
  | none => rw [hf] at hr; exact If.no hr
  | some i => rw [hf] at hr; refine If.yes ?_; simpa using hr

theorem Len_spec (p : TrP h b r A L most) (hr : R (TV.int .i64 (L.length : Int)).val h) : CallsH Tryz.prog F.tree_Tree_Len (TVs.vals [.ptr (some ⟨b, 0⟩)]) h R := by
  apply tree_Tree_Len_calls
  refine If.no ⟨A, p.var.at1 rfl, ?_⟩
  rw [← p.len]
  exact hr

/-- The block at a place, or none. -/
def nodeR (L : List Nd) (i : Int) : Nd × Bool := match nodeAt L i with
  | some x => (x, true)
  | none => (Nd.zero, false)

theorem nd_at {T : TypeId} {b : Nat} {x : Nd} (v : Var T h b x.tv) {K : Bs 32 → Int → Int → Prop} (hk : K x.root x.slot x.par) :
    ∃ (k : Bs 32), ∃ (n m : Int), (atBytes h b 0 32 k ∧ at1 h b 32 (.int .i64 n) ∧ at1 h b 33 (.int .i64 m)) ∧ K k n m := ⟨_, _, _, v.at, hk⟩

theorem nil_node (b : Heap) {q : Nat} (x : Ext h b) (v : Var T.tree_Node b q (TV.agg [.bytes 32 (Bs.zero 32), .int .i64 0, .int .i64 0])) (hq : h.size ≤ q) (hr : ∀ h', Ext h h' → R (TV.tup [Nd.zero.tv, .bool false]).val h') :
    wok b q 0 34 ∧ Bind (TV.put b q 0 (.agg [.bytes 32 (Bs.zero 32), .int .i64 0, .int .i64 (-1)])) fun h_2 => ∃ (k : Bs 32), ∃ (n m : Int), (atBytes h_2 q 0 32 k ∧ at1 h_2 q 32 (.int .i64 n) ∧ at1 h_2 q 33 (.int .i64 m)) ∧ R (TV.val (.tup [.agg [.bytes 32 k, .int .i64 n, .int .i64 m], .bool false])) h_2 :=
  put_in v (t := Nd.zero.tv) rfl fun h2 v2 f2 _ => nd_at v2 (hr h2 (Only.cut x f2 fun i hi => by omega))

theorem Node_spec (p : TrP h b r A L most) {i : Int} (hr : ∀ h', Ext h h' → R (TV.tup [(nodeR L i).1.tv, .bool (nodeR L i).2]).val h') : CallsH Tryz.prog F.tree_Tree_Node (TVs.vals [.ptr (some ⟨b, 0⟩), .int .i64 i]) h R := by
  apply tree_Tree_Node_calls
  unfold tree_Tree_Node_vc
  have hl := p.len
  refine newTV_in fun h1 v1 x1 s1 => If.no (If.dec.2 ⟨fun hi => ?_, fun hi => ⟨A, (p.var.ext x1).at1 rfl, If.dec.2 ⟨fun hi2 => ?_, fun hi2 => ⟨A, (p.var.ext x1).at1 rfl, ?_⟩⟩⟩⟩)
  · refine nil_node h1 x1 v1 (Nat.le_refl _) fun h' x => ?_
    have := hr h' x
    unfold nodeR nodeAt at this
    rw [if_neg (by omega)] at this
    exact this
  · refine nil_node h1 x1 v1 (Nat.le_refl _) fun h' x => ?_
    have := hr h' x
    unfold nodeR nodeAt at this
    rw [if_pos (by omega), List.getElem?_eq_none (by omega)] at this
    exact this
  · refine (p.own.ext x1).elems.read (by omega) (by omega) fun l t ha hg hat => ?_
    rw [List.getElem?_map] at hg
    obtain ⟨x, hx, rfl⟩ := Option.map_eq_some_iff.1 hg
    refine ⟨x.root, x.slot, x.par, hat, put_in v1 (t := x.tv) rfl fun h2 v2 f2 _ => nd_at v2 ?_⟩
    have := hr h2 (Only.cut x1 f2 fun i hi => by omega)
    unfold nodeR nodeAt at this
    rw [if_pos (by omega), hx] at this
    exact this

end
end Go.Proofs.YtennbinbffdimaaGreat.Gate
end

section
/- The program's tree: a block more. -/
namespace Go.Vc
open Go

/-- What is written is of M; what is there behind it is of M, or new. -/
structure Step (M : Nat → Prop) (h : Heap) (M' : Nat → Prop) (h' : Heap) : Prop where
  only : Only M h h'
  new : ∀ i, M' i → M i ∨ h.size ≤ i

theorem Step.of_ext {M : Nat → Prop} {h h' : Heap} (x : Ext h h') : Step M h M h' := ⟨.of_ext x, fun _ hi => .inl hi⟩
theorem Step.trans {M M' M'' : Nat → Prop} {h h' h'' : Heap} (a : Step M h M' h') (b : Step M' h' M'' h'') : Step M h M'' h'' :=
  ⟨⟨Nat.le_trans a.only.size b.only.size, fun i hi hn => by
    rw [b.only.same i (Nat.lt_of_lt_of_le hi a.only.size) (fun hx => by rcases a.new i hx with h1 | h1; exact hn h1; omega), a.only.same i hi hn]⟩, fun i hi => by
    rcases b.new i hi with h1 | h1
    · exact a.new i h1
    · have := a.only.size; exact .inr (by omega)⟩
theorem Step.mono {M N M' : Nat → Prop} {h h' : Heap} (a : Step M h M' h') (hs : ∀ i, M i → N i) : Step N h M' h' := ⟨a.only.mono hs, fun i hi => (a.new i hi).imp (hs i) id⟩
/-- Local things of a call don't count. -/
theorem Step.cut {M M' : Nat → Prop} {h h1 h' : Heap} (x : Ext h h1) (a : Step M h1 M' h') : Step M h M' h' := (Step.of_ext x).trans a

end Go.Vc
namespace Go.Proofs.YtennbinbffdimaaGreat.Gate
open Go Go.Vc

section
variable {R : Value → Heap → Prop} {h h' : Heap} {b r : Nat} {A : Sl} {L : List Nd} {most : Int}

end
end Go.Proofs.YtennbinbffdimaaGreat.Gate
end

section
/- Parts of memory that have nothing in common. -/
namespace Go.Proofs.YtennbinbffdimaaGreat.Gate
open Go Go.Vc

structure Sep (h : Heap) (F : Nat → Nat → Prop) : Prop where
  dis : ∀ j k i, F j i → F k i → j = k
  lt : ∀ j i, F j i → i < h.size
def upd (F : Nat → Nat → Prop) (j : Nat) (S : Nat → Prop) : Nat → Nat → Prop := fun k => if k = j then S else F k
def All (F : Nat → Nat → Prop) (i : Nat) : Prop := ∃ k, F k i

section
variable {h h' : Heap} {F : Nat → Nat → Prop} {S S' : Nat → Prop} {j k : Nat}

theorem upd_same : upd F j S j = S := if_pos rfl
theorem upd_ne (hk : k ≠ j) : upd F j S k = F k := if_neg hk

theorem Sep.off (s : Sep h F) (hk : k ≠ j) : ∀ i, F k i → ¬ F j i := fun _ h1 h2 => hk (s.dis _ _ _ h1 h2)
theorem Sep.ext (s : Sep h F) (x : Ext h h') : Sep h' F := ⟨s.dis, fun j i hi => by have := s.lt j i hi; have := x.size; omega⟩
theorem Sep.step (s : Sep h F) (st : Step (F j) h S' h') (lt : ∀ i, S' i → i < h'.size) : Sep h' (upd F j S') := by
  have new : ∀ k i, k ≠ j → F k i → ¬ S' i := fun k i hk h1 h2 => by
    rcases st.new i h2 with h3 | h3
    · exact hk (s.dis _ _ _ h1 h3)
    · have := s.lt k i h1; omega
  refine ⟨fun a b i ha hb => ?_, fun a i ha => ?_⟩
  · by_cases e1 : a = j
    · by_cases e2 : b = j
      · rw [e1, e2]
      · rw [e1, upd_same] at ha
        rw [upd_ne e2] at hb
        exact absurd ha (new b i e2 hb)
    · by_cases e2 : b = j
      · rw [e2, upd_same] at hb
        rw [upd_ne e1] at ha
        exact absurd hb (new a i e1 ha)
      · rw [upd_ne e1] at ha
        rw [upd_ne e2] at hb
        exact s.dis _ _ _ ha hb
  · by_cases e1 : a = j
    · rw [e1, upd_same] at ha
      exact lt i ha
    · rw [upd_ne e1] at ha
      have := s.lt a i ha
      have := st.only.size
      omega

theorem Step.all (st : Step (F j) h S' h') : Step (All F) h (All (upd F j S')) h' :=
  ⟨st.only.mono fun i hi => ⟨j, hi⟩, fun i ⟨k, hk⟩ => by
    by_cases e : k = j
    · rw [e, upd_same] at hk
      exact (st.new i hk).imp (fun x => ⟨j, x⟩) id
    · rw [upd_ne e] at hk
      exact .inl ⟨k, hk⟩⟩

/-- Parts that were made one behind the other. -/
theorem Sep.made {lo : Nat → Nat} (hl : ∀ j i, F j i → lo j ≤ i ∧ i < lo (j + 1)) (mono : ∀ j, lo j ≤ lo (j + 1)) (top : ∀ j, lo j ≤ h.size) : Sep h F := by
  have up : ∀ a d, lo a ≤ lo (a + d) := fun a d => by
    induction d with
    | zero => exact Nat.le_refl _
    | succ d ih => exact Nat.le_trans ih (mono _)
  refine ⟨fun a b i ha hb => ?_, fun j i hi => by have := (hl j i hi).2; have := top (j + 1); omega⟩
  have h1 := hl a i ha
  have h2 := hl b i hb
  rcases Nat.lt_trichotomy a b with hlt | he | hlt
  · have := up (a + 1) (b - (a + 1))
    rw [show a + 1 + (b - (a + 1)) = b by omega] at this
    omega
  · exact he
  · have := up (b + 1) (a - (b + 1))
    rw [show b + 1 + (a - (b + 1)) = a by omega] at this
    omega

end
end Go.Proofs.YtennbinbffdimaaGreat.Gate
end

section
/- Two slices get one element more each, in whatever order. -/
namespace Go.Vc
open Go

section
variable {C : Ctx} {T : TypeId} {sz : Nat} {h h0 : Heap} {s1 s2 : Sl} {ts1 ts2 : List TV} {x y : TV} {K : Sl → Sl → Heap → Prop}

/-- One slice of its own gets what lies in a row of one. -/
theorem app_one {K : Sl → Heap → Prop} {q : Nat} (hsz : (C.ti T).size = sz) (hz : (C.ti T).z.size = sz) (hpos : 0 < (C.ti T).bytes) (hs0 : 0 < sz) (hb : (s1.len + 1) * (C.ti T).bytes ≤ 70368744177664)
    (o : Own T sz h s1 ts1) (v : h[q]? = some (row (TVs.cells [x]) T)) (hx : x.size = sz) (hp : x.plain = true)
    (hk : ∀ s' h', Own T sz h' s' (ts1 ++ [x]) → Only (In s1) h h' → (∀ i, In s' i → In s1 i ∨ h.size ≤ i) → K s' h') :
    ∃ new, slAt h (Sl.mk (some (Loc.mk q 0)) 1 1) sz new ∧ (∀ v ∈ new, isOne v = true) ∧ vcAppend C T s1 1 new h K := by
  have one : ∀ t ∈ [x], t.size = sz := fun t ht => by rw [List.mem_singleton.1 ht]; exact hx
  have onep : ∀ t ∈ [x], t.plain = true := fun t ht => by rw [List.mem_singleton.1 ht]; exact hp
  have e : Elems sz h (Sl.mk (some (Loc.mk q 0)) 1 1) [x] := by
    have : Own T sz h (Sl.mk (some (Loc.mk q 0)) 1 1) [x] := ⟨one, rfl, Nat.le_refl _, .inr ⟨q, [], rfl, by simpa using v, by simp⟩⟩
    exact this.elems
  exact appendN (s := Sl.mk (some (Loc.mk q 0)) 1 1) hsz hz hpos hs0 hb o e one onep fun t' h' o' _ f' n' => hk t' h' o' f' fun i ⟨l, hl, hi⟩ => by
    rcases n' l hl with ⟨l', h1, h2⟩ | h1
    · exact .inl ⟨l', h1, by omega⟩
    · exact .inr (by omega)

theorem two_app (hsz : (C.ti T).size = sz) (hz : (C.ti T).z.size = sz) (hpos : 0 < (C.ti T).bytes) (hs0 : 0 < sz) (hb1 : (s1.len + 1) * (C.ti T).bytes ≤ 70368744177664) (hb2 : (s2.len + 1) * (C.ti T).bytes ≤ 70368744177664)
    (o1 : Own T sz h s1 ts1) (o2 : Own T sz h s2 ts2) (ap : ∀ i, In s1 i → ¬ In s2 i) (hx : x.size = sz) (hxp : x.plain = true) (hy : y.size = sz) (hyp : y.plain = true)
    (hsub : ∀ h', Only (fun i => In s1 i ∨ In s2 i) h h' → Sub h0 h')
    (hk : ∀ s1' s2' h', Own T sz h' s1' (ts1 ++ [x]) → Own T sz h' s2' (ts2 ++ [y]) → Only (fun i => In s1 i ∨ In s2 i) h h' → (∀ i, In s1' i → In s1 i ∨ h.size ≤ i) → (∀ i, In s2' i → In s2 i ∨ h.size ≤ i) → (∀ i, In s1' i → ¬ In s2' i) → K s1' s2' h') :
    (Sub h0 (Array.push h (row (TVs.cells [x]) T)) ∧
      (∃ new, slAt (Array.push h (row (TVs.cells [x]) T)) (Sl.mk (some (Loc.mk h.size 0)) 1 1) sz new ∧ (∀ v ∈ new, isOne v = true) ∧ vcAppend C T s1 1 new (Array.push h (row (TVs.cells [x]) T)) fun s h => Sub h0 h ∧ Sub h0 (Array.push h (row (TVs.cells [y]) T)) ∧
        ∃ new, slAt (Array.push h (row (TVs.cells [y]) T)) (Sl.mk (some (Loc.mk h.size 0)) 1 1) sz new ∧ (∀ v ∈ new, isOne v = true) ∧ vcAppend C T s2 1 new (Array.push h (row (TVs.cells [y]) T)) fun s_2 h => K s s_2 h) ∧
      Sub h0 (Array.push (Array.push h (row (TVs.cells [x]) T)) (row (TVs.cells [y]) T)) ∧
      ∃ new, slAt (Array.push (Array.push h (row (TVs.cells [x]) T)) (row (TVs.cells [y]) T)) (Sl.mk (some (Loc.mk h.size 0)) 1 1) sz new ∧ (∀ v ∈ new, isOne v = true) ∧ vcAppend C T s1 1 new (Array.push (Array.push h (row (TVs.cells [x]) T)) (row (TVs.cells [y]) T)) fun s h_1 => Sub h0 h_1 ∧
        ∃ new, slAt h_1 (Sl.mk (some (Loc.mk (Array.size (Array.push h (row (TVs.cells [x]) T))) 0)) 1 1) sz new ∧ (∀ v ∈ new, isOne v = true) ∧ vcAppend C T s2 1 new h_1 fun s_2 h => K s s_2 h) ∧
    Sub h0 (Array.push h (row (TVs.cells [y]) T)) ∧ Sub h0 (Array.push (Array.push h (row (TVs.cells [y]) T)) (row (TVs.cells [x]) T)) ∧
      ∃ new, slAt (Array.push (Array.push h (row (TVs.cells [y]) T)) (row (TVs.cells [x]) T)) (Sl.mk (some (Loc.mk (Array.size (Array.push h (row (TVs.cells [y]) T))) 0)) 1 1) sz new ∧ (∀ v ∈ new, isOne v = true) ∧ vcAppend C T s1 1 new (Array.push (Array.push h (row (TVs.cells [y]) T)) (row (TVs.cells [x]) T)) fun s h_1 => Sub h0 h_1 ∧
        ∃ new, slAt h_1 (Sl.mk (some (Loc.mk h.size 0)) 1 1) sz new ∧ (∀ v ∈ new, isOne v = true) ∧ vcAppend C T s2 1 new h_1 fun s_2 h => K s s_2 h := by
  have lt1 : ∀ i, In s1 i → i < h.size := fun i ⟨l, hl, hi⟩ => by have := o1.lt l hl; omega
  have lt2 : ∀ i, In s2 i → i < h.size := fun i ⟨l, hl, hi⟩ => by have := o2.lt l hl; omega
  have sub : ∀ h', Ext h h' → Sub h0 h' := fun h' e => hsub h' (.of_ext e)
  -- both rows stand, then the first slice, then the second one
  have both : ∀ {g : Heap} {p q : Nat}, Ext h g → g[p]? = some (row (TVs.cells [x]) T) → g[q]? = some (row (TVs.cells [y]) T) → h.size ≤ q →
      ∃ new, slAt g (Sl.mk (some (Loc.mk p 0)) 1 1) sz new ∧ (∀ v ∈ new, isOne v = true) ∧ vcAppend C T s1 1 new g fun s h_1 => Sub h0 h_1 ∧
        ∃ new, slAt h_1 (Sl.mk (some (Loc.mk q 0)) 1 1) sz new ∧ (∀ v ∈ new, isOne v = true) ∧ vcAppend C T s2 1 new h_1 fun s_2 h => K s s_2 h := by
    intro g p q xg vp vq hq
    have zg := xg.size
    refine app_one hsz hz hpos hs0 hb1 (o1.ext xg) vp hx hxp fun s g1 os f1 n1 => ?_
    have zg1 := f1.size
    have f01 : Only (fun i => In s1 i ∨ In s2 i) h g1 := (Only.of_ext xg).trans (f1.mono fun i hi => .inl hi)
    have o2' : Own T sz g1 s2 ts2 := (o2.ext xg).only f1 fun l hl hi => ap _ hi ⟨l, hl, rfl⟩
    have vq' : g1[q]? = some (row (TVs.cells [y]) T) := by rw [f1.same q (row_lt vq) (fun hi => by have := lt1 q hi; omega), vq]
    refine ⟨hsub g1 f01, app_one hsz hz hpos hs0 hb2 o2' vq' hy hyp fun s' g2 os' f2 n2 => ?_⟩
    have d1 : ∀ i, In s i → ¬ In s2 i := fun i hi hj => by
      rcases n1 i hi with h1 | h1
      · exact ap i h1 hj
      · have := lt2 i hj; omega
    refine hk s s' g2 (os.only f2 fun l hl hi => d1 _ ⟨l, hl, rfl⟩ hi) os' (f01.trans (f2.mono fun i hi => .inr hi)) (fun i hi => (n1 i hi).imp id (fun h => by omega)) (fun i hi => (n2 i hi).imp id (fun h => by omega)) fun i hi hj => ?_
    rcases n2 i hj with h1 | h1
    · exact d1 i hi h1
    · obtain ⟨l, hl, he⟩ := hi
      have := os.lt l hl
      omega
  have x1 := Ext.push h (row (TVs.cells [x]) T)
  have y1 := Ext.push h (row (TVs.cells [y]) T)
  have x2 := Ext.push (Array.push h (row (TVs.cells [x]) T)) (row (TVs.cells [y]) T)
  have y2 := Ext.push (Array.push h (row (TVs.cells [y]) T)) (row (TVs.cells [x]) T)
  refine ⟨⟨sub _ x1, ?_, sub _ (x1.trans x2), both (x1.trans x2) ?_ (push_get _ _) x1.size⟩, sub _ y1, sub _ (y1.trans y2), both (y1.trans y2) (push_get _ _) ?_ (Nat.le_refl _)⟩
  · have zg := x1.size
    refine app_one hsz hz hpos hs0 hb1 (o1.ext x1) (push_get _ _) hx hxp fun s g1 os f1 n1 => ?_
    have zg1 := f1.size
    have f01 : Only (fun i => In s1 i ∨ In s2 i) h g1 := (Only.of_ext x1).trans (f1.mono fun i hi => .inl hi)
    have o2' : Own T sz g1 s2 ts2 := (o2.ext x1).only f1 fun l hl hi => ap _ hi ⟨l, hl, rfl⟩
    have y3 := Ext.push g1 (row (TVs.cells [y]) T)
    have zy := y3.size
    refine ⟨hsub g1 f01, hsub _ (f01.trans (.of_ext y3)), app_one hsz hz hpos hs0 hb2 (o2'.ext y3) (push_get _ _) hy hyp fun s' g2 os' f2 n2 => ?_⟩
    have d1 : ∀ i, In s i → ¬ In s2 i := fun i hi hj => by
      rcases n1 i hi with h1 | h1
      · exact ap i h1 hj
      · have := lt2 i hj; omega
    refine hk s s' g2 ((os.ext y3).only f2 fun l hl hi => d1 _ ⟨l, hl, rfl⟩ hi) os' ((f01.trans (.of_ext y3)).trans (f2.mono fun i hi => .inr hi)) (fun i hi => (n1 i hi).imp id (fun h => by omega)) (fun i hi => (n2 i hi).imp id (fun h => by omega)) fun i hi hj => ?_
    rcases n2 i hj with h1 | h1
    · exact d1 i hi h1
    · obtain ⟨l, hl, he⟩ := hi
      have := os.lt l hl
      omega
  · exact (x2.same _ (by simp)).trans (push_get _ _)
  · exact (y2.same _ (by simp)).trans (push_get _ _)

end
end Go.Vc
end

section
/- The program's tree: a new one. -/
namespace Go.Proofs.YtennbinbffdimaaGreat.Gate
open Go Go.Vc

section
variable {R : Value → Heap → Prop} {h h' : Heap} {b r : Nat} {A : Sl} {L : List Nd} {most : Int}

def TreeCan (slot most : Int) : Prop := 1 ≤ most ∧ most ≤ 256 ∧ 0 ≤ slot ∧ slot ≤ 1073741824

theorem first_ok {root : Bs 32} {slot : Int} (hc : TreeCan slot most) : TOk [⟨root, slot, -1⟩] most := by
  have one : ∀ (i : Nat) (x : Nd), ([⟨root, slot, -1⟩] : List Nd)[i]? = some x → i = 0 ∧ x = ⟨root, slot, -1⟩ := fun i x hx => by
    cases i with
    | zero => exact ⟨rfl, by simpa using hx.symm⟩
    | succ i => simp at hx
  unfold TreeCan at hc
  exact ⟨by simp, fun x hx => by rw [(one 0 x hx).2], fun i x hx h0 => by have := (one i x hx).1; omega, by simp, fun x hx => by rw [List.mem_singleton.1 hx]; exact hc.2.2,
    fun i x y hx h0 => by have := (one i x hx).1; omega, by simp; omega, ⟨hc.1, hc.2.1⟩⟩

theorem New_spec {root : Bs 32} {slot : Int} (hr0 : ¬ TreeCan slot most → ∀ h', Ext h h' → R (TV.tup [.ptr none, .int .i64 1]).val h')
    (hr : TreeCan slot most → ∀ h' b r A, TrP h' b r A [⟨root, slot, -1⟩] most → Ext h h' → (∀ i, TrMine b r A i → h.size ≤ i) → R (TV.tup [.ptr (some ⟨b, 0⟩), .int .i64 0]).val h') :
    CallsH Tryz.prog F.tree_New (TVs.vals [.bytes 32 root, .int .i64 slot, .int .i64 most]) h R := by
  apply tree_New_calls
  unfold tree_New_vc
  refine newTV_in fun h1 v1 x1 s1 => ?_
  intro J HJ
  have bad : ¬ TreeCan slot most → R (TV.tup [.ptr none, .int .i64 1]).val h1 := fun hn => hr0 hn h1 x1
  refine If.dec.2 ⟨fun hh => bad (fun hc => by have := hc.1; omega), fun g1 => If.dec.2 ⟨fun hh => bad (fun hc => by have := hc.2.1; omega), fun g2 => If.dec.2 ⟨fun hh => bad (fun hc => by have := hc.2.2.1; omega), fun g3 => If.dec.2 ⟨fun hh => bad (fun hc => by have := hc.2.2.2; omega), fun g4 => ?_⟩⟩⟩⟩
  have can : TreeCan slot most := ⟨by omega, by omega, by omega, by omega⟩
  refine HJ (none, 0) h1 ?_
  clear HJ J bad hr0
  have fin : ∀ {g : Heap} {q m : Nat}, Ext h1 g → g[q]? = some (row (TVs.cells [(⟨root, slot, -1⟩ : Nd).tv]) 69) → MapG kR vI g m [(root, 0)] → q ≠ m → h1.size ≤ q → h1.size ≤ m →
      Bind (newTV g (.agg [.slice (Sl.mk (some (Loc.mk q 0)) 1 1), .map (some m), .int .i64 most]) 168) fun h_3 => R (TV.val (.tup [.ptr (some (Loc.mk g.size 0)), .int .i64 0])) h_3 := by
    intro g q m xg vq vm hqm hq hm
    refine newTV_in fun h4 v4 x4 s4 => hr can h4 g.size m _ ⟨v4, ?_, vm.ext x4, first_ok can, ⟨?_, ?_⟩⟩ ((x1.trans xg).trans x4) ?_
    · have : Own T.tree_Node 34 g (Sl.mk (some (Loc.mk q 0)) 1 1) (nds [⟨root, slot, -1⟩]) := ⟨nds_size _, rfl, Nat.le_refl _, .inr ⟨q, [], rfl, by rw [vq]; simp [nds], by simp⟩⟩
      exact this.ext x4
    · rintro ⟨l, hl, he⟩
      cases hl
      have := row_lt vq
      simp only at he
      omega
    · rintro ⟨l, hl, he⟩
      cases hl
      exact hqm he
    · rintro i (rfl | rfl | ⟨l, hl, rfl⟩)
      · have := xg.size; omega
      · omega
      · cases hl
        simp only
        omega
  have put : ∀ {g : Heap} {m : Nat} {P : Heap → Prop}, Ext h1 g → h1.size ≤ m → MapG kR vI g m [] → (∀ g1, MapG kR vI g1 m [(root, 0)] → Only (· = m) g g1 → Ext h1 g1 → g1.size = g.size → P g1) →
      ∃ es c, g[m]? = some (mapO es c) ∧ AllLike ctx (.array 32 5) es ∧ Bind (g.setIfInBounds m (mapO (putE (.bytes 32 root) (.int .i64 0) c es) (clockE (.bytes 32 root) c es))) P :=
    fun xg hm mg hp => mg.put emb_r root 0 fun g1 m1 f1 s1 => hp g1 m1 f1 (Only.cut xg f1 fun i hi => by subst hi; exact hm) s1
  refine ⟨root, v1.bytes, root, v1.bytes, ?_⟩
  have xa := Ext.push h1 (row (TVs.cells [(⟨root, slot, -1⟩ : Nd).tv]) 69)
  have xb := Ext.push h1 (mapO [] 0)
  have xc := Ext.push (h1.push (row (TVs.cells [(⟨root, slot, -1⟩ : Nd).tv]) 69)) (mapO [] 0)
  have xd := Ext.push (h1.push (mapO [] 0)) (row (TVs.cells [(⟨root, slot, -1⟩ : Nd).tv]) 69)
  refine ⟨⟨xa, xa.trans xc, put (xa.trans xc) (by simp) (MapG.new _) fun g1 m1 f1 y1 s1 => ⟨y1, fin y1 ?_ m1 (by simp) (Nat.le_refl _) (by simp)⟩⟩, xb,
    ⟨xb.trans xd, put (xb.trans xd) (Nat.le_refl _) ((MapG.new h1).ext xd) fun g1 m1 f1 y1 s1 => ⟨y1, fin y1 ?_ m1 (by simp) (by simp) (Nat.le_refl _)⟩⟩,
    put xb (Nat.le_refl _) (MapG.new h1) fun g1 m1 f1 y1 s1 => ⟨y1, y1.trans (Ext.push _ _), fin (y1.trans (Ext.push _ _)) ?_ (m1.ext (Ext.push _ _)) ?_ y1.size (Nat.le_refl _)⟩⟩
  · exact (f1.same _ (by simp; omega) (by simp)).trans ((xc.same _ (by simp)).trans (push_get _ _))
  · exact (f1.same _ (by simp) (by simp)).trans (push_get _ _)
  · exact push_get _ _
  · rw [s1]; simp

end
end Go.Proofs.YtennbinbffdimaaGreat.Gate
end

section
/- The program's weights, in memory: places for blocks that came since. -/
namespace Go.Vc
open Go

theorem dis_new {A A' B : Sl} {n : Nat} (d : ∀ i, In A i → ¬ In B i) (hn : ∀ i, In A' i → In A i ∨ n ≤ i) (lt : ∀ i, In B i → i < n) : ∀ i, In A' i → ¬ In B i := fun i hi hb => by
  rcases hn i hi with h1 | h1
  · exact d i h1 hb
  · have := lt i hb; omega

theorem Own.In_lt {T : TypeId} {sz : Nat} {h : Heap} {s : Sl} {ts : List TV} (o : Own T sz h s ts) : ∀ i, In s i → i < h.size := fun i ⟨l, hl, hi⟩ => by have := o.lt l hl; omega
theorem Own.keep {T : TypeId} {sz : Nat} {S : Nat → Prop} {h h' : Heap} {s : Sl} {ts : List TV} (o : Own T sz h s ts) (f : Only S h h') (hs : ∀ i, In s i → ¬ S i) : Own T sz h' s ts := o.only f fun l hl => hs l.b ⟨l, hl, rfl⟩

/-- How long the slice at a place is. -/
def slLen (h : Heap) (b o : Nat) : Nat := match cel h b o with
  | some (.slice _ n _) => n
  | _ => 0
theorem slLen_at {h : Heap} {b o : Nat} {s : Sl} (a : at1 h b o (slVal s)) : slLen h b o = s.len := by
  unfold slLen
  rw [show cel h b o = some (slVal s) from a]
  rfl

end Go.Vc
namespace Go.Proofs.YtennbinbffdimaaGreat.Gate
open Go Go.Vc

abbrev nums (l : List Int) : List TV := l.map vI
theorem int_bytes : (ctxL.ti 3).bytes = 8 := by kernel_rfl
theorem int_size : (ctxL.ti 3).size = 1 := by kernel_rfl
theorem int_zsize : (ctxL.ti 3).z.size = 1 := by kernel_rfl
theorem int_pos : 0 < (ctxL.ti 3).bytes := by rw [int_bytes]; decide

section
variable {R : Value → Heap → Prop} {h h' : Heap} {w tb : Nat} {O S B G : Sl} {os ss bs fs : List Int}

/-- Weights in memory: own weights, sums, best children, leaves. -/
structure WP (h : Heap) (w tb : Nat) (O S B G : Sl) (os ss bs fs : List Int) : Prop where
  var : Var T.weigh_Weights h w (.agg [.ptr (some ⟨tb, 0⟩), .slice O, .slice S, .slice B, .slice G])
  o : Own 3 1 h O (nums os)
  s : Own 3 1 h S (nums ss)
  b : Own 3 1 h B (nums bs)
  f : Own 3 1 h G (nums fs)
  now : ¬ In O w ∧ ¬ In S w ∧ ¬ In B w ∧ ¬ In G w
  os_ : ∀ i, In O i → ¬ In S i
  ob : ∀ i, In O i → ¬ In B i
  of : ∀ i, In O i → ¬ In G i
  sb : ∀ i, In S i → ¬ In B i
  sf : ∀ i, In S i → ¬ In G i
  bf : ∀ i, In B i → ¬ In G i

def WMine (w : Nat) (O S B G : Sl) (i : Nat) : Prop := i = w ∨ In O i ∨ In S i ∨ In B i ∨ In G i

theorem WP.only {Q : Nat → Prop} (p : WP h w tb O S B G os ss bs fs) (f : Only Q h h') (hs : ∀ i, WMine w O S B G i → ¬ Q i) : WP h' w tb O S B G os ss bs fs :=
  ⟨p.var.only f (hs w (.inl rfl)), p.o.keep f fun i hi => hs i (.inr (.inl hi)), p.s.keep f fun i hi => hs i (.inr (.inr (.inl hi))), p.b.keep f fun i hi => hs i (.inr (.inr (.inr (.inl hi)))), p.f.keep f fun i hi => hs i (.inr (.inr (.inr (.inr hi)))),
    p.now, p.os_, p.ob, p.of, p.sb, p.sf, p.bf⟩
theorem WP.ext (p : WP h w tb O S B G os ss bs fs) (x : Ext h h') : WP h' w tb O S B G os ss bs fs := p.only (Q := fun _ => False) (.of_ext x) fun _ _ hf => hf
theorem WP.lt (p : WP h w tb O S B G os ss bs fs) {i : Nat} (hi : WMine w O S B G i) : i < h.size := by
  rcases hi with rfl | hi | hi | hi | hi
  · exact p.var.lt
  · exact p.o.In_lt i hi
  · exact p.s.In_lt i hi
  · exact p.b.In_lt i hi
  · exact p.f.In_lt i hi
theorem WP.lo (p : WP h w tb O S B G os ss bs fs) : os.length = O.len := by have := p.o.len; rwa [List.length_map] at this
theorem WP.ls (p : WP h w tb O S B G os ss bs fs) : ss.length = S.len := by have := p.s.len; rwa [List.length_map] at this
theorem WP.lb (p : WP h w tb O S B G os ss bs fs) : bs.length = B.len := by have := p.b.len; rwa [List.length_map] at this
theorem WP.lf (p : WP h w tb O S B G os ss bs fs) : fs.length = G.len := by have := p.f.len; rwa [List.length_map] at this

/-- A row with numbers behind it, up to a length. -/
def pad (l : List Int) (n : Nat) (v : Int) : List Int := l ++ List.replicate (n - l.length) v

theorem pad_step {l : List Int} {n : Nat} {v : Int} (h : l.length < n) : pad (l ++ [v]) n v = pad l n v := by
  unfold pad
  rw [List.append_assoc, List.length_append, List.length_singleton]
  congr 1
  obtain ⟨m, hm⟩ : ∃ m, n - l.length = m + 1 := ⟨n - l.length - 1, by omega⟩
  rw [hm, show n - (l.length + 1) = m by omega]
  rfl
theorem pad_end {l : List Int} {n : Nat} {v : Int} (h : n ≤ l.length) : pad l n v = l := by
  unfold pad
  rw [Nat.sub_eq_zero_of_le h]
  simp

set_option maxRecDepth 10000 in
theorem grow_spec {r : Nat} {A : Sl} {L : List Nd} {most : Int} (p : WP h w tb O S B G os ss bs fs) (t : TrP h tb r A L most) (ap : ∀ i, TrMine tb r A i → ¬ WMine w O S B G i)
    (l1 : ss.length = os.length) (l2 : bs.length = os.length) (l3 : fs.length = os.length) (hn : os.length ≤ L.length)
    (hr : ∀ h' O' S' B' G', WP h' w tb O' S' B' G' (pad os L.length 0) (pad ss L.length 0) (pad bs L.length (-1)) (pad fs L.length (-1)) → Step (WMine w O S B G) h (WMine w O' S' B' G') h' → R (TV.tup []).val h') :
    CallsH Tryz.prog F.weigh_Weights_grow (TVs.vals [.ptr (some ⟨w, 0⟩)]) h R := by
  apply weigh_Weights_grow_calls
  unfold weigh_Weights_grow_vc
  have hlen := t.ok.len
  have hmost := t.ok.most
  refine ⟨fun _ hh => ∃ O' S' B' G' os' ss' bs' fs', WP hh w tb O' S' B' G' os' ss' bs' fs' ∧ Step (WMine w O S B G) h (WMine w O' S' B' G') hh ∧ ss'.length = os'.length ∧ bs'.length = os'.length ∧ fs'.length = os'.length ∧ os'.length ≤ L.length ∧
      pad os' L.length 0 = pad os L.length 0 ∧ pad ss' L.length 0 = pad ss L.length 0 ∧ pad bs' L.length (-1) = pad bs L.length (-1) ∧ pad fs' L.length (-1) = pad fs L.length (-1),
    fun _ hh => L.length - slLen hh w 1, ⟨O, S, B, G, os, ss, bs, fs, p, .of_ext (Ext.refl _), l1, l2, l3, hn, rfl, rfl, rfl, rfl⟩, ?_⟩
  rintro _ h1 ⟨O1, S1, B1, G1, os1, ss1, bs1, fs1, p1, st1, l1, l2, l3, hn, e1, e2, e3, e4⟩
  have v1 := p1.var
  have wk : Var T.weigh_Weights (keeps (· = w) h1) w _ := v1.keeps rfl
  have t1 : TrP h1 tb r A L most := t.only st1.only ap
  refine ⟨keeps (· = w) h1, keeps_refl, O1, wk.at1 rfl, some ⟨tb, 0⟩, wk.at1 rfl, Len_spec t1 ⟨_, rfl, keeps_refl, If.dec.2 ⟨fun hlt => ?_, fun hge => ?_⟩⟩⟩
  · have lo1 := p1.lo
    have ls1 := p1.ls
    have lb1 := p1.lb
    have lf1 := p1.lf
    have small : os1.length < L.length := by omega
    have sz1 : slLen h1 w 1 = O1.len := slLen_at (v1.at1 rfl)
    have sub1 : ∀ {X Y : Sl} {g g' : Heap}, ¬ In X w → ¬ In Y w → Only (fun i => In X i ∨ In Y i) g g' → Sub (keeps (· = w) g) g' := fun hX hY f => keeps_of f fun i hi hx => by
      subst hi
      exact hx.elim hX hY
    intro J HJ
    refine ⟨keeps (· = w) h1, keeps_refl, O1, wk.at1 rfl, S1, wk.at1 rfl, two_app (C := ctxL) (T := 3) (sz := 1) (x := .int .i64 0) (y := .int .i64 0) int_size int_zsize int_pos (by decide) (by rw [int_bytes]; omega) (by rw [int_bytes]; omega)
      p1.o p1.s p1.os_ rfl rfl rfl rfl (fun h' f => sub1 p1.now.1 p1.now.2.1 f) fun O2 S2 h2 o2 s2 f2 nO nS dOS => ?_⟩
    have z2 := f2.size
    have v2 : Var T.weigh_Weights h2 w _ := v1.only f2 fun hx => hx.elim p1.now.1 p1.now.2.1
    have b2 := p1.b.keep f2 fun i hi hx => hx.elim (fun hx => p1.ob i hx hi) fun hx => p1.sb i hx hi
    have g2 := p1.f.keep f2 fun i hi hx => hx.elim (fun hx => p1.of i hx hi) fun hx => p1.sf i hx hi
    have nw : ∀ {X X' : Sl}, ¬ In X w → (∀ i, In X' i → In X i ∨ h1.size ≤ i) → ¬ In X' w := fun hX hn hx => by
      rcases hn w hx with h9 | h9
      · exact hX h9
      · have := v1.lt; omega
    refine ⟨v2.wok (o := 1) (n := 1) (by simp [TV.size, TVs.size]), ?_⟩
    refine (field_in v2 (i := 1) (t := .slice O2) rfl rfl rfl rfl fun h3 v3 f3 s3 => ?_).2
    refine ⟨v3.wok (o := 2) (n := 1) (by simp [TV.size, TVs.size]), ?_⟩
    refine (field_in v3 (i := 2) (t := .slice S2) rfl rfl rfl rfl fun h4 v4 f4 s4 => ?_).2
    have f24 : Only (· = w) h2 h4 := f3.trans f4
    have z4 := f24.size
    have nwO := nw p1.now.1 nO
    have nwS := nw p1.now.2.1 nS
    have p4 : WP h4 w tb O2 S2 B1 G1 (os1 ++ [0]) (ss1 ++ [0]) bs1 fs1 := by
      refine ⟨v4, ?_, ?_, b2.keep f24 fun i hi e => p1.now.2.2.1 (e ▸ hi), g2.keep f24 fun i hi e => p1.now.2.2.2 (e ▸ hi), ⟨nwO, nwS, p1.now.2.2⟩, dOS, dis_new p1.ob nO p1.b.In_lt, dis_new p1.of nO p1.f.In_lt, dis_new p1.sb nS p1.b.In_lt, dis_new p1.sf nS p1.f.In_lt, p1.bf⟩
      · have := o2.keep f24 fun i hi e => nwO (e ▸ hi)
        simpa [nums] using this
      · have := s2.keep f24 fun i hi e => nwS (e ▸ hi)
        simpa [nums] using this
    have st4 : Step (WMine w O1 S1 B1 G1) h1 (WMine w O2 S2 B1 G1) h4 := by
      refine ⟨(f2.mono fun i hi => ?_).trans (f24.mono fun i hi => .inl hi), fun i hi => ?_⟩
      · exact hi.elim (fun h => .inr (.inl h)) fun h => .inr (.inr (.inl h))
      · rcases hi with rfl | hi | hi | hi | hi
        · exact .inl (.inl rfl)
        · exact (nO i hi).imp (fun h => .inr (.inl h)) id
        · exact (nS i hi).imp (fun h => .inr (.inr (.inl h))) id
        · exact .inl (.inr (.inr (.inr (.inl hi))))
        · exact .inl (.inr (.inr (.inr (.inr hi))))
    refine HJ _ h4 ?_
    clear HJ J
    have w4 : Var T.weigh_Weights (keeps (· = w) h4) w _ := v4.keeps rfl
    refine ⟨keeps (· = w) h4, keeps_refl, B1, w4.at1 rfl, G1, w4.at1 rfl, two_app (C := ctxL) (T := 3) (sz := 1) (x := .int .i64 (-1)) (y := .int .i64 (-1)) int_size int_zsize int_pos (by decide) (by rw [int_bytes]; omega) (by rw [int_bytes]; omega)
      p4.b p4.f p4.bf rfl rfl rfl rfl (fun h' f => sub1 p4.now.2.2.1 p4.now.2.2.2 f) fun B5 G5 h5 b5 g5 f5 nB nF dBF => ?_⟩
    have v5 : Var T.weigh_Weights h5 w _ := v4.only f5 fun hx => hx.elim p4.now.2.2.1 p4.now.2.2.2
    have o5 := p4.o.keep f5 fun i hi hx => hx.elim (fun hx => p4.ob i hi hx) fun hx => p4.of i hi hx
    have s5 := p4.s.keep f5 fun i hi hx => hx.elim (fun hx => p4.sb i hi hx) fun hx => p4.sf i hi hx
    refine ⟨v5.wok (o := 3) (n := 1) (by simp [TV.size, TVs.size]), ?_⟩
    refine (field_in v5 (i := 3) (t := .slice B5) rfl rfl rfl rfl fun h6 v6 f6 s6 => ?_).2
    refine ⟨v6.wok (o := 4) (n := 1) (by simp [TV.size, TVs.size]), ?_⟩
    refine (field_in v6 (i := 4) (t := .slice G5) rfl rfl rfl rfl fun h7 v7 f7 s7 => ?_).2
    have f57 : Only (· = w) h5 h7 := f6.trans f7
    have nw4 : ∀ {X X' : Sl}, ¬ In X w → (∀ i, In X' i → In X i ∨ h4.size ≤ i) → ¬ In X' w := fun hX hn hx => by
      rcases hn w hx with h9 | h9
      · exact hX h9
      · have := v4.lt; omega
    have nwB := nw4 p4.now.2.2.1 nB
    have nwF := nw4 p4.now.2.2.2 nF
    have sym : ∀ {X Y : Sl}, (∀ i, In X i → ¬ In Y i) → ∀ i, In Y i → ¬ In X i := fun d i hy hx => d i hx hy
    have p7 : WP h7 w tb O2 S2 B5 G5 (os1 ++ [0]) (ss1 ++ [0]) (bs1 ++ [-1]) (fs1 ++ [-1]) := by
      refine ⟨v7, o5.keep f57 fun i hi e => nwO (e ▸ hi), s5.keep f57 fun i hi e => nwS (e ▸ hi), ?_, ?_, ⟨nwO, nwS, nwB, nwF⟩, dOS, sym (dis_new (sym p4.ob) nB p4.o.In_lt), sym (dis_new (sym p4.of) nF p4.o.In_lt), sym (dis_new (sym p4.sb) nB p4.s.In_lt), sym (dis_new (sym p4.sf) nF p4.s.In_lt), dBF⟩
      · have := b5.keep f57 fun i hi e => nwB (e ▸ hi)
        simpa [nums] using this
      · have := g5.keep f57 fun i hi e => nwF (e ▸ hi)
        simpa [nums] using this
    have st7 : Step (WMine w O2 S2 B1 G1) h4 (WMine w O2 S2 B5 G5) h7 := by
      refine ⟨(f5.mono fun i hi => ?_).trans (f57.mono fun i hi => .inl hi), fun i hi => ?_⟩
      · exact hi.elim (fun h => .inr (.inr (.inr (.inl h)))) fun h => .inr (.inr (.inr (.inr h)))
      · rcases hi with rfl | hi | hi | hi | hi
        · exact .inl (.inl rfl)
        · exact .inl (.inr (.inl hi))
        · exact .inl (.inr (.inr (.inl hi)))
        · exact (nB i hi).imp (fun h => .inr (.inr (.inr (.inl h)))) id
        · exact (nF i hi).imp (fun h => .inr (.inr (.inr (.inr h)))) id
    have sz7 : slLen h7 w 1 = O2.len := slLen_at (v7.at1 rfl)
    have lo7 := p7.lo
    simp only [List.length_append, List.length_singleton] at lo7
    refine ⟨⟨O2, S2, B5, G5, _, _, _, _, p7, (st1.trans st4).trans st7, by simp [l1], by simp [l2], by simp [l3], by simp; omega, ?_, ?_, ?_, ?_⟩, by show L.length - slLen h7 w 1 < L.length - slLen h1 w 1; omega⟩
    · rw [pad_step small, e1]
    · rw [pad_step (by omega), e2]
    · rw [pad_step (by omega), e3]
    · rw [pad_step (by omega), e4]
  · have lo1 := p1.lo
    have hh : L.length ≤ os1.length := by omega
    refine hr h1 O1 S1 B1 G1 ?_ st1
    rw [← e1, ← e2, ← e3, ← e4, pad_end hh, pad_end (by omega), pad_end (by omega), pad_end (by omega)]
    exact p1

end
end Go.Proofs.YtennbinbffdimaaGreat.Gate
end

section
/- Which of two digests comes first, in the program. -/
namespace Go.Proofs.YtennbinbffdimaaGreat.Gate
open Go Go.Vc

theorem Less_spec {R : Value → Heap → Prop} {h : Heap} {a b : Bs 32} (hr : ∀ h', Ext h h' → R (TV.bool (Op.bytesLess a.l b.l)).val h') : CallsH Tryz.prog F.sha_Less (TVs.vals [.bytes 32 a, .bytes 32 b]) h R := Board.less_spec hr

end Go.Proofs.YtennbinbffdimaaGreat.Gate
end

section
/- The program ranks: best children and leaves. -/
namespace Go.Proofs.YtennbinbffdimaaGreat.Gate
open Go Go.Vc

abbrev lst (n : Nat) (f : Nat → Int) : List Int := (List.range n).map f

theorem lst_len (n : Nat) (f : Nat → Int) : (lst n f).length = n := by simp
theorem lst_at {n i : Nat} (f : Nat → Int) (h : i < n) : (lst n f)[i]? = some (f i) := by simp [h]
theorem lst_set (n i : Nat) (f : Nat → Int) (v : Int) : (lst n f).set i v = lst n fun k => if k = i then v else f k := by
  apply List.ext_getElem?
  intro j
  rw [List.getElem?_set]
  simp only [lst, List.length_map, List.length_range, List.getElem?_map]
  by_cases hj : j < n
  · by_cases hi : i = j
    · subst hi; simp [hj]
    · have : ¬ j = i := fun e => hi e.symm
      simp [hj, hi, this]
  · have : (List.range n)[j]? = none := by simp; omega
    rw [this]
    by_cases hi : i = j
    · subst hi; simp [hj]
    · simp [hi]
theorem lst_of {l : List Int} {n : Nat} (h : l.length = n) : l = lst n fun k => l.getD k 0 := by
  apply List.ext_getElem
  · simp [h]
  · intro i h1 h2; simp [h1]
theorem lst_congr {n : Nat} {f g : Nat → Int} (h : ∀ k, k < n → f k = g k) : lst n f = lst n g := List.map_congr_left fun k hk => h k (List.mem_range.1 hk)

def optI : Option Nat → Int
  | some b => b
  | none => -1

theorem nums_at {h : Heap} {A : Sl} {l : List Int} (o : Own 3 1 h A (nums l)) {i : Int} (h0 : 0 ≤ i) {v : Int} (hv : l[i.toNat]? = some v) {K : Int → Prop} (hk : K v) :
    0 ≤ i ∧ i < (A.len : Int) ∧ Nn A.a fun p => ∃ n, at1 h p.b (p.o + i.toNat * 1) (.int .i64 n) ∧ K n := by
  have hl := o.len
  have := (List.getElem?_eq_some_iff.1 hv).1
  rw [List.length_map] at hl
  refine o.elems.read h0 (by omega) fun p t _ ht hat => ?_
  rw [List.getElem?_map, hv] at ht
  cases ht
  exact ⟨v, hat, hk⟩

section
variable {R : Value → Heap → Prop} {h h' : Heap} {w tb r : Nat} {O S B G A : Sl} {os ss bs fs : List Int} {L : List Nd} {most : Int} {n : Nat}

theorem WP.putS {bf : Nat → Int} (p : WP h w tb O S B G os (lst n bf) bs fs) {i v : Int} (h0 : 0 ≤ i) (h1 : i < n) {K : Heap → Prop}
    (hk : ∀ h1, WP h1 w tb O S B G os (lst n fun k => if k = i.toNat then v else bf k) bs fs → Only (In S) h h1 → h1.size = h.size → K h1) :
    0 ≤ i ∧ i < (S.len : Int) ∧ Nn S.a fun l => wok h l.b (l.o + i.toNat * 1) 1 ∧ Bind ((TV.int .i64 v).put h l.b (l.o + i.toNat * 1)) K :=
  p.s.put_in (sz := 1) (n := 1) (t := .int .i64 v) h0 (by simp; omega) rfl rfl fun h2 o2 f2 s2 => hk h2 ⟨p.var.only f2 p.now.2.1, p.o.keep f2 p.os_, by rw [← lst_set]; simpa [nums, List.map_set] using o2, p.b.keep f2 fun i hi hx => p.sb i hx hi, p.f.keep f2 fun i hi hx => p.sf i hx hi, p.now, p.os_, p.ob, p.of, p.sb, p.sf, p.bf⟩ f2 s2
theorem WP.putB {bf : Nat → Int} (p : WP h w tb O S B G os ss (lst n bf) fs) {i v : Int} (h0 : 0 ≤ i) (h1 : i < n) {K : Heap → Prop}
    (hk : ∀ h1, WP h1 w tb O S B G os ss (lst n fun k => if k = i.toNat then v else bf k) fs → Only (In B) h h1 → h1.size = h.size → K h1) :
    0 ≤ i ∧ i < (B.len : Int) ∧ Nn B.a fun l => wok h l.b (l.o + i.toNat * 1) 1 ∧ Bind ((TV.int .i64 v).put h l.b (l.o + i.toNat * 1)) K :=
  p.b.put_in (sz := 1) (n := 1) (t := .int .i64 v) h0 (by simp; omega) rfl rfl fun h2 o2 f2 s2 => hk h2 ⟨p.var.only f2 p.now.2.2.1, p.o.keep f2 p.ob, p.s.keep f2 p.sb, by rw [← lst_set]; simpa [nums, List.map_set] using o2, p.f.keep f2 fun i hi hx => p.bf i hx hi, p.now, p.os_, p.ob, p.of, p.sb, p.sf, p.bf⟩ f2 s2
theorem WP.putG {ff : Nat → Int} (p : WP h w tb O S B G os ss bs (lst n ff)) {i v : Int} (h0 : 0 ≤ i) (h1 : i < n) {K : Heap → Prop}
    (hk : ∀ h1, WP h1 w tb O S B G os ss bs (lst n fun k => if k = i.toNat then v else ff k) → Only (In G) h h1 → h1.size = h.size → K h1) :
    0 ≤ i ∧ i < (G.len : Int) ∧ Nn G.a fun l => wok h l.b (l.o + i.toNat * 1) 1 ∧ Bind ((TV.int .i64 v).put h l.b (l.o + i.toNat * 1)) K :=
  p.f.put_in (sz := 1) (n := 1) (t := .int .i64 v) h0 (by simp; omega) rfl rfl fun h2 o2 f2 s2 => hk h2 ⟨p.var.only f2 p.now.2.2.2, p.o.keep f2 p.of, p.s.keep f2 p.sf, p.b.keep f2 p.bf, by rw [← lst_set]; simpa [nums, List.map_set] using o2, p.now, p.os_, p.ob, p.of, p.sb, p.sf, p.bf⟩ f2 s2

theorem nodeR_at {i : Int} {x : Nd} (h0 : 0 ≤ i) (hx : L[i.toNat]? = some x) : nodeR L i = (x, true) := by
  unfold nodeR nodeAt
  rw [if_pos h0, hx]

/-- Whether a place is a better child than another one, or than none. -/
def ahdO (s : Nat → Int) (r : Nat → List UInt8) (i : Nat) : Option Nat → Bool
  | none => true
  | some b => ahd s r i b

theorem ahead_spec {s : Nat → Int} (p : WP h w tb O S B G os (lst n s) bs fs) (t : TrP h tb r A L most) (hn : L.length = n) {i : Nat} {k : Option Nat} (hi : i < n) (hk : ∀ b, k = some b → b < n)
    (hr : ∀ h', Ext h h' → R (TV.bool (ahdO s (rootN L) i k)).val h') :
    CallsH Tryz.prog F.weigh_Weights_ahead (TVs.vals [.ptr (some ⟨w, 0⟩), .int .i64 (i : Int), .int .i64 (optI k)]) h R := by
  apply weigh_Weights_ahead_calls
  unfold weigh_Weights_ahead_vc
  intro J HJ
  intro J2 HJ2
  cases k with
  | none =>
    refine If.dec.2 ⟨fun _ => ?_, fun hh => absurd (by decide) hh⟩
    exact HJ2 true h (If.yes (If.dec.2 ⟨fun _ => hr h (Ext.refl h), fun hh => absurd (by decide) hh⟩))
  | some b =>
    have hb := hk b rfl
    have eb : ¬ (optI (some b) < 0) := by simp only [optI]; omega
    have ti : ((i : Int)).toNat = i := rfl
    have tk : (optI (some b)).toNat = b := rfl
    refine If.dec.2 ⟨fun hh => absurd hh eb, fun _ => ?_⟩
    refine ⟨S, p.var.at1 rfl, nums_at p.s (by omega) (v := s i) (by rw [ti]; exact lst_at s hi) ⟨S, p.var.at1 rfl, nums_at p.s (by simp only [optI]; omega) (v := s b) (by rw [tk]; exact lst_at s hb) ?_⟩⟩
    refine HJ2 _ h (If.split (fun hne => If.dec.2 ⟨fun hh => absurd hh eb, fun _ => ?_⟩) fun he => ?_)
    · refine ⟨S, p.var.at1 rfl, nums_at p.s (by omega) (v := s i) (by rw [ti]; exact lst_at s hi) ⟨S, p.var.at1 rfl, nums_at p.s (by simp only [optI]; omega) (v := s b) (by rw [tk]; exact lst_at s hb) ?_⟩⟩
      have hne : ¬ s i = s b := by simpa using hne
      have := hr h (Ext.refl h)
      simp only [ahdO, ahd, hne, decide_false, Bool.false_and, Bool.or_false] at this
      exact this
    · have he : s i = s b := by simpa using he
      refine HJ false h ?_
      have hx : L[i]? = some L[i] := List.getElem?_eq_getElem (by omega)
      have hy : L[b]? = some L[b] := List.getElem?_eq_getElem (by omega)
      refine ⟨some ⟨tb, 0⟩, p.var.at1 rfl, Node_spec t fun h1 x1 => ⟨_, _, _, _, rfl, ?_⟩⟩
      rw [nodeR_at (i := (i : Int)) (by omega) hx]
      refine newTV_in fun h2 v2 x2 s2 => put_in v2 (t := L[i].tv) rfl fun h3 v3 f3 s3 => ?_
      have x13 : Ext h1 h3 := Only.cut x2 f3 fun i hi => by omega
      have x03 := x1.trans x13
      refine ⟨some ⟨tb, 0⟩, (p.var.ext x03).at1 rfl, Node_spec (t.ext x03) fun h4 x4 => ⟨_, _, _, _, rfl, ?_⟩⟩
      rw [nodeR_at (i := optI (some b)) (by simp only [optI]; omega) (by rw [tk]; exact hy)]
      refine newTV_in fun h5 v5 x5 s5 => put_in v5 (t := L[b].tv) rfl fun h6 v6 f6 s6 => ?_
      have x46 : Ext h4 h6 := Only.cut x5 f6 fun i hi => by omega
      refine ⟨_, v6.at.1, _, ((Var.ext (t := L[i].tv) v3 x4).ext x46).at.1, Less_spec fun h7 x7 => ⟨_, rfl, ?_⟩⟩
      have := hr h7 (((x03.trans x4).trans x46).trans x7)
      have hlt : ¬ s b < s i := by omega
      simp only [ahdO, ahd, he, decide_true, Bool.true_and, rootN_at hx, rootN_at hy] at this
      simpa using this

set_option maxRecDepth 10000 in
theorem rank_spec {s : Nat → Int} (p : WP h w tb O S B G os (lst n s) bs fs) (t : TrP h tb r A L most) (ap : ∀ i, TrMine tb r A i → ¬ WMine w O S B G i) (hn : L.length = n) (l2 : bs.length = n) (l3 : fs.length = n)
    (hr : ∀ h', WP h' w tb O S B G os (lst n s) (lst n fun k => optI (bestK n (parN L) s (rootN L) k)) (lst n fun k => (leafP n (parN L) s (rootN L) k : Int)) → Only (fun i => In B i ∨ In G i) h h' → R (TV.tup []).val h') :
    CallsH Tryz.prog F.weigh_Weights_rank (TVs.vals [.ptr (some ⟨w, 0⟩)]) h R := by
  apply weigh_Weights_rank_calls
  unfold weigh_Weights_rank_vc
  have up : Up n (parN L) := hn ▸ t.ok.tree
  have nm : Names n (rootN L) := hn ▸ t.ok.names
  have hlen := t.ok.len
  have hmost := t.ok.most
  have n0 : 0 < n := by have := t.ok.len1; omega
  have lb := p.lb
  have keepT : ∀ {hh : Heap}, Only (fun i => In B i ∨ In G i) h hh → TrP hh tb r A L most := fun f => t.only f fun i hi hx => ap i hi (hx.elim (fun h => .inr (.inr (.inr (.inl h)))) fun h => .inr (.inr (.inr (.inr h))))
  rw [lst_of l2, lst_of l3] at p
  refine ⟨B, p.var.at1 rfl, fun σ hh => 0 ≤ σ ∧ σ ≤ n ∧ ∃ bf ff, WP hh w tb O S B G os (lst n s) (lst n bf) (lst n ff) ∧ (∀ k : Nat, (k : Int) < σ → bf k = -1 ∧ ff k = k) ∧ Only (fun i => In B i ∨ In G i) h hh,
    fun σ _ => ((n : Int) - σ).toNat, ⟨Int.le_refl 0, by omega, _, _, p, fun k hk => by omega, Only.refl _ _⟩, ?_⟩
  rintro σ h1 ⟨a0, a1, bf, ff, p1, e1, f1⟩
  refine If.dec.2 ⟨fun hlt => ?_, fun hge => ?_⟩
  · refine ⟨B, p1.var.at1 rfl, G, p1.var.at1 rfl, p1.putB a0 (by omega) fun h2 p2 f2 s2 => p2.putG a0 (by omega) fun h3 p3 f3 s3 => ?_⟩
    rw [wrap_i64 (n := σ + 1) (by omega) (by omega)]
    refine ⟨⟨by omega, by omega, _, _, p3, fun k hk => ?_, (f1.trans (f2.mono fun i hi => .inl hi)).trans (f3.mono fun i hi => .inr hi)⟩, by show ((n : Int) - (σ + 1)).toNat < ((n : Int) - σ).toNat; omega⟩
    by_cases hk2 : k = σ.toNat
    · rw [if_pos hk2, if_pos hk2]; exact ⟨rfl, by omega⟩
    · rw [if_neg hk2, if_neg hk2]; exact e1 k (by omega)
  have hσ : σ = n := by omega
  have e0 : lst n bf = lst n fun k => optI ((fun _ => none : Nat → Option Nat) k) := lst_congr fun k hk => (e1 k (by omega)).1
  have e0' : lst n ff = lst n fun k => (k : Int) := lst_congr fun k hk => (e1 k (by omega)).2
  rw [e0, e0'] at p1
  refine ⟨B, p1.var.at1 rfl, ?_⟩
  rw [← lb, l2, wrap_i64 (n := (n : Int) - 1) (by omega) (by omega)]
  refine ⟨fun σ hh => 0 ≤ σ ∧ σ < n ∧ ∃ best : Nat → Option Nat, WP hh w tb O S B G os (lst n s) (lst n fun k => optI (best k)) (lst n fun k => (k : Int)) ∧ Ranked n (parN L) s (rootN L) (σ.toNat + 1) best ∧ Only (fun i => In B i ∨ In G i) h hh,
    fun σ _ => σ.toNat, ⟨by omega, by omega, _, p1, ?_, f1⟩, ?_⟩
  · have : ((n : Int) - 1).toNat + 1 = n := by omega
    rw [this]
    exact ranked_end _ fun _ => rfl
  rintro τ h2 ⟨b0, b1, best, p2, rk, f2⟩
  have t2 := keepT f2
  refine If.dec.2 ⟨fun hgt => ?_, fun hle => ?_⟩
  · have hx : L[τ.toNat]? = some L[τ.toNat] := List.getElem?_eq_getElem (by omega)
    obtain ⟨x, hxe⟩ : ∃ x, x = L[τ.toNat] := ⟨_, rfl⟩
    rw [← hxe] at hx
    have hu := t.ok.up _ x hx (by omega)
    have hp := parN_at hx
    refine ⟨some ⟨tb, 0⟩, p2.var.at1 rfl, Node_spec t2 fun h3 x3 => ⟨_, _, _, _, rfl, ?_⟩⟩
    rw [nodeR_at b0 hx]
    refine newTV_in fun h4 v4 x4 s4 => put_in v4 (t := x.tv) rfl fun h5 v5 f5 s5 => ?_
    have x35 : Ext h3 h5 := Only.cut x4 f5 fun i hi => by omega
    have x25 := x3.trans x35
    have p5 := p2.ext x25
    have pb : optI (best (parN L τ.toNat)) = (fun k => optI (best k)) x.par.toNat := by rw [hp]
    refine ⟨B, p5.var.at1 rfl, x.par, v5.at.2.2, nums_at p5.b hu.1 (lst_at _ (by omega)) ?_⟩
    have eτ : τ = ((τ.toNat : Nat) : Int) := by omega
    rw [eτ]
    have bl : ∀ b, best x.par.toNat = some b → b < n := fun b hb => by
      have h9 := rk x.par.toNat (by omega)
      rw [hb] at h9
      exact (mem_kids.1 (mem_kidsFrom.1 h9.1).1).2.1
    refine ahead_spec p5 (t2.ext x25) hn (by omega) bl fun h6 x6 => ⟨_, rfl, ?_⟩
    have p6 := p5.ext x6
    have f6 := f2.trans (Only.of_ext (S := fun i => In B i ∨ In G i) (x25.trans x6))
    have step := ranked_step nm (i := τ.toNat) (by omega) (by omega) rk
    rw [wrap_i64 (n := ((τ.toNat : Nat) : Int) - 1) (by omega) (by omega)]
    have e9 : ((((τ.toNat : Nat) : Int) - 1).toNat) + 1 = τ.toNat := by omega
    have v6 : Var T.tree_Node h6 h3.size x.tv := Var.ext (t := x.tv) v5 x6
    refine If.split (fun hy => ?_) fun hn' => ?_
    · refine ⟨B, p6.var.at1 rfl, x.par, v6.at.2.2, p6.putB hu.1 (by omega) fun h7 p7 f7 s7 => ?_⟩
      refine ⟨⟨by omega, by omega, _, ?_, by rw [e9]; exact step, f6.trans (f7.mono fun i hi => .inl hi)⟩, by dsimp only; omega⟩
      rw [show (lst n fun k => if k = x.par.toNat then ((τ.toNat : Nat) : Int) else optI (best k)) = lst n fun k => optI (if k = parN L τ.toNat then bestStep s (rootN L) (best k) τ.toNat else best k) from lst_congr fun k _ => ?_] at p7
      · exact p7
      · rw [hp]
        by_cases hk : k = x.par.toNat
        · rw [if_pos hk, if_pos hk, hk]
          unfold bestStep
          cases hb : best x.par.toNat with
          | none => rfl
          | some y =>
            rw [hb] at hy
            simp only [ahdO] at hy
            simp only [hy, if_true]
            rfl
        · rw [if_neg hk, if_neg hk]
    · refine ⟨⟨by omega, by omega, _, ?_, by rw [e9]; exact step, f6⟩, by dsimp only; omega⟩
      rw [show (lst n fun k => optI (best k)) = lst n fun k => optI (if k = parN L τ.toNat then bestStep s (rootN L) (best k) τ.toNat else best k) from lst_congr fun k _ => ?_] at p6
      · exact p6
      · rw [hp]
        by_cases hk : k = x.par.toNat
        · rw [if_pos hk, hk]
          unfold bestStep
          cases hb : best x.par.toNat with
          | none => rw [hb] at hn'; cases hn'
          | some y =>
            rw [hb] at hn'
            simp only [ahdO] at hn'
            simp [hn']
        · rw [if_neg hk]
  have eb : (lst n fun k => optI (best k)) = lst n fun k => optI (bestK n (parN L) s (rootN L) k) := lst_congr fun k hk => by rw [ranked_all nm (by omega) rk hk]
  rw [eb] at p2
  refine ⟨B, p2.var.at1 rfl, ?_⟩
  rw [← lb, l2, wrap_i64 (n := (n : Int) - 1) (by omega) (by omega)]
  refine ⟨fun σ hh => -1 ≤ σ ∧ σ < n ∧ ∃ ff : Nat → Int, WP hh w tb O S B G os (lst n s) (lst n fun k => optI (bestK n (parN L) s (rootN L) k)) (lst n ff) ∧ (∀ k : Nat, k < n → if σ < (k : Int) then ff k = leafP n (parN L) s (rootN L) k else ff k = k) ∧ Only (fun i => In B i ∨ In G i) h hh,
    fun σ _ => (σ + 1).toNat, ⟨by omega, by omega, _, p2, fun k hk => by rw [if_neg (by omega)], f2⟩, ?_⟩
  rintro ρ h3 ⟨c0, c1, ff, p3, e3, f3⟩
  refine If.dec.2 ⟨fun hge => ?_, fun hlt => ?_⟩
  · refine ⟨B, p3.var.at1 rfl, nums_at p3.b hge (lst_at _ (by omega)) ?_⟩
    have hρn : ρ.toNat < n := by omega
    have ls := leaf_step up nm (s := s) hρn
    rw [wrap_i64 (n := ρ - 1) (by omega) (by omega)]
    cases hb : bestK n (parN L) s (rootN L) ρ.toNat with
    | none =>
      rw [hb] at ls
      refine If.dec.2 ⟨fun hh => absurd hh (by decide), fun _ => ?_⟩
      refine ⟨⟨by omega, by omega, ff, p3, fun k hk => ?_, f3⟩, by dsimp only; omega⟩
      have := e3 k hk
      by_cases hk2 : ρ < (k : Int)
      · rw [if_pos hk2] at this; rw [if_pos (by omega)]; exact this
      · rw [if_neg hk2] at this
        by_cases hk3 : k = ρ.toNat
        · rw [if_pos (by omega), this, hk3, ls]
        · rw [if_neg (by omega)]; exact this
    | some b =>
      rw [hb] at ls
      have hbu := bestK_up up nm hb
      refine If.dec.2 ⟨fun _ => ?_, fun hh => absurd (by simp only [optI]; omega) hh⟩
      have tk : (optI (some b)).toNat = b := rfl
      refine ⟨G, p3.var.at1 rfl, G, p3.var.at1 rfl, nums_at p3.f (by simp only [optI]; omega) (v := ff b) (by rw [tk]; exact lst_at ff hbu.2.1) (p3.putG hge (by omega) fun h4 p4 f4 s4 => ?_)⟩
      refine ⟨⟨by omega, by omega, _, p4, fun k hk => ?_, f3.trans (f4.mono fun i hi => .inr hi)⟩, by dsimp only; omega⟩
      have h9 := e3 b hbu.2.1
      rw [if_pos (by omega)] at h9
      have := e3 k hk
      by_cases hk3 : k = ρ.toNat
      · rw [if_pos (by omega), if_pos hk3, hk3, ls, h9]
      · rw [if_neg hk3]
        by_cases hk2 : ρ < (k : Int)
        · rw [if_pos hk2] at this; rw [if_pos (by omega)]; exact this
        · rw [if_neg hk2] at this; rw [if_neg (by omega)]; exact this
  · rw [show lst n ff = lst n fun k => (leafP n (parN L) s (rootN L) k : Int) from lst_congr fun k hk => by have := e3 k hk; rw [if_pos (by omega)] at this; exact this] at p3
    exact hr h3 p3 f3

end
end Go.Proofs.YtennbinbffdimaaGreat.Gate
end

section
/- Sums over trees of numbers, continued: each place counts for all that stands above it; the way up. -/
namespace Go.Proofs.YtennbinbffdimaaGreat.Gate
open Go Go.Vc

section
variable {n : Nat} {par : Nat → Nat}

def tot (n : Nat) (f : Nat → Int) : Int := ((List.range n).map f).sum

theorem wt_zero (f k : Nat) : wt n par (fun _ => 0) f k = 0 := by
  have : ∀ f k, wt n par (fun _ => 0) f k = 0 := by
    intro f
    induction f with
    | zero => intro k; rfl
    | succ f ih =>
      intro k
      unfold wt
      rw [sum_zero fun x _ => ih x]
      rfl
  exact this f k

theorem sumW_zero (k : Nat) : sumW n par (fun _ => 0) k = 0 := wt_zero n k

/-- A place's number is so much more. -/
def bump (own : Nat → Int) (i : Nat) (d : Int) : Nat → Int := fun k => if k = i then own k + d else own k

end
end Go.Proofs.YtennbinbffdimaaGreat.Gate
end

section
/- The program's weights: new ones, and own weights with some more. -/
namespace Go.Proofs.YtennbinbffdimaaGreat.Gate
open Go Go.Vc

/-- A delta. -/
abbrev Dl := Bs 32 × Int

def sumL (L : List Nd) (own : Nat → Int) : Nat → Int := sumW L.length (parN L) own
def bestLf (L : List Nd) (own : Nat → Int) (k : Nat) : Int := optI (bestK L.length (parN L) (sumL L own) (rootN L) k)
def leafLf (L : List Nd) (own : Nat → Int) (k : Nat) : Int := (leafP L.length (parN L) (sumL L own) (rootN L) k : Int)

section
variable {R : Value → Heap → Prop} {h h' : Heap} {w tb r : Nat} {O S B G A : Sl} {L : List Nd} {most : Int} {own : Nat → Int}

/-- Weights in memory that are those of a tree's blocks. -/
abbrev WT (h : Heap) (w tb : Nat) (O S B G : Sl) (L : List Nd) (own : Nat → Int) : Prop := WP h w tb O S B G (lst L.length own) (lst L.length (sumL L own)) (lst L.length (bestLf L own)) (lst L.length (leafLf L own))

theorem no_In {i : Nat} (hi : In Sl.nil i) : False := by obtain ⟨l, hl, _⟩ := hi; cases hl

theorem pad_nil (n : Nat) (v : Int) : pad [] n v = lst n fun _ => v := by
  unfold pad lst
  rw [List.map_const', List.length_range]
  rfl

theorem WNew_spec (t : TrP h tb r A L most) (hr : ∀ h' w O S B G, WT h' w tb O S B G L (fun _ => 0) → Ext h h' → (∀ i, WMine w O S B G i → h.size ≤ i ∧ i < h'.size) → R (TV.ptr (some ⟨w, 0⟩)).val h') :
    CallsH Tryz.prog F.weigh_New (TVs.vals [.ptr (some ⟨tb, 0⟩)]) h R := by
  apply weigh_New_calls
  unfold weigh_New_vc
  have l1 := t.ok.len1
  refine Len_spec t ⟨_, rfl, If.dec.2 ⟨fun h0 => by omega, fun _ => newTV_in fun h1 v1 x1 s1 => ?_⟩⟩
  have nn : ∀ i, ¬ In Sl.nil i := fun i hi => no_In hi
  have p1 : WP h1 h.size tb Sl.nil Sl.nil Sl.nil Sl.nil [] [] [] [] := ⟨v1, Own.nil .., Own.nil .., Own.nil .., Own.nil .., ⟨nn _, nn _, nn _, nn _⟩, fun i hi => (nn i hi).elim, fun i hi => (nn i hi).elim, fun i hi => (nn i hi).elim, fun i hi => (nn i hi).elim, fun i hi => (nn i hi).elim, fun i hi => (nn i hi).elim⟩
  have mine1 : ∀ i, WMine h.size Sl.nil Sl.nil Sl.nil Sl.nil i → i = h.size := fun i hi => by
    rcases hi with hi | hi | hi | hi | hi
    · exact hi
    all_goals exact (nn i hi).elim
  have t1 := t.ext x1
  refine grow_spec p1 t1 (fun i hi hx => by have := mine1 i hx; have := t.lt hi; omega) rfl rfl rfl (Nat.zero_le _) fun h2 O S B G p2 st2 => ⟨rfl, ?_⟩
  rw [pad_nil, pad_nil] at p2
  have ap2 : ∀ i, TrMine tb r A i → ¬ WMine h.size O S B G i := fun i hi hx => by
    have := t.lt hi
    rcases st2.new i hx with h9 | h9
    · have := mine1 i h9; omega
    · have := x1.size; omega
  have t2 := t1.only st2.only fun i hi hx => by have := mine1 i hx; have := t.lt hi; omega
  have e : lst L.length (fun _ => 0) = lst L.length (sumL L fun _ => 0) := lst_congr fun k _ => (sumW_zero k).symm
  have p2' : WP h2 h.size tb O S B G (lst L.length fun _ => 0) (lst L.length (sumL L fun _ => 0)) (lst L.length fun _ => -1) (lst L.length fun _ => -1) := by rw [← e]; exact p2
  refine rank_spec p2' t2 ap2 rfl (lst_len _ _) (lst_len _ _) fun h3 p3 f3 => ⟨rfl, ?_⟩
  refine hr h3 h.size O S B G p3 (Only.cut (S := fun i => i = h.size ∨ WMine h.size O S B G i) x1 ((st2.only.mono fun i hi => .inl (mine1 i hi)).trans (f3.mono fun i hi => .inr (hi.elim (fun h => .inr (.inr (.inr (.inl h)))) fun h => .inr (.inr (.inr (.inr h)))))) fun i hi => ?_) fun i hi => ⟨?_, p3.lt hi⟩
  · rcases hi with rfl | hi
    · exact Nat.le_refl _
    · rcases st2.new i hi with h9 | h9
      · have := mine1 i h9; omega
      · have := x1.size; omega
  · rcases st2.new i hi with h9 | h9
    · have := mine1 i h9; omega
    · have := x1.size; omega

def laid (L : List Nd) (ds : List Dl) (own : Nat → Int) : Nat → Int := ds.foldl (fun o x => bump o (place x.1 L).toNat x.2) own

end
end Go.Proofs.YtennbinbffdimaaGreat.Gate
end

section
/- The program's weights: some more are laid on; what is told of them. -/
namespace Go.Proofs.YtennbinbffdimaaGreat.Gate
open Go Go.Vc

section
variable {R : Value → Heap → Prop} {h h' : Heap} {w tb r : Nat} {O S B G A D : Sl} {L : List Nd} {most : Int} {own : Nat → Int} {n : Nat} {par : Nat → Nat}

end
end Go.Proofs.YtennbinbffdimaaGreat.Gate
end
