/- Digests: what the program's small functions of sha make of words and bytes. -/
import Derived.Test.YtgdhddignbkloaaVcP
import Derived.Test.YtgdhddignbkloaaVsSha
namespace Go.Proofs.Ytgdhddignbkloaa.Board
open Go Go.Vc

/-! ### The terms, as the conditions have them -/

def be (n n_1 n_2 n_3 : Int) : Int := (IntKind.wrap IntKind.u32 (↑(BitVec.toNat (BitVec.ofInt (IntKind.bits IntKind.u32) (IntKind.wrap IntKind.u32 (↑(BitVec.toNat (BitVec.ofInt (IntKind.bits IntKind.u32) (IntKind.wrap IntKind.u32 (↑(BitVec.toNat (BitVec.ofInt (IntKind.bits IntKind.u32) (IntKind.wrap IntKind.u32 (IntKind.wrap IntKind.u32 n * (2 : Int) ^ min (Int.toNat (24 : Int)) (IntKind.bits IntKind.u32))) ||| BitVec.ofInt (IntKind.bits IntKind.u32) (IntKind.wrap IntKind.u32 (IntKind.wrap IntKind.u32 n_1 * (2 : Int) ^ min (Int.toNat (16 : Int)) (IntKind.bits IntKind.u32))))) : Int)) ||| BitVec.ofInt (IntKind.bits IntKind.u32) (IntKind.wrap IntKind.u32 (IntKind.wrap IntKind.u32 n_2 * (2 : Int) ^ min (Int.toNat (8 : Int)) (IntKind.bits IntKind.u32))))) : Int)) ||| BitVec.ofInt (IntKind.bits IntKind.u32) (IntKind.wrap IntKind.u32 n_3))) : Int))
def ex (n n_1 n_2 n_3 n_4 n_5 n_6 n_7 : Int) : Int := (IntKind.wrap IntKind.u32 (IntKind.wrap IntKind.u32 (IntKind.wrap IntKind.u32 (n_2 + IntKind.wrap IntKind.u32 (↑(BitVec.toNat (BitVec.ofInt (IntKind.bits IntKind.u32) (IntKind.wrap IntKind.u32 (↑(BitVec.toNat (BitVec.ofInt (IntKind.bits IntKind.u32) n_4 ^^^ BitVec.ofInt (IntKind.bits IntKind.u32) n_5)) : Int)) ^^^ BitVec.ofInt (IntKind.bits IntKind.u32) (Int.fdiv n ((2 : Int) ^ min (Int.toNat (3 : Int)) (IntKind.bits IntKind.u32))))) : Int)) + n_3) + IntKind.wrap IntKind.u32 (↑(BitVec.toNat (BitVec.ofInt (IntKind.bits IntKind.u32) (IntKind.wrap IntKind.u32 (↑(BitVec.toNat (BitVec.ofInt (IntKind.bits IntKind.u32) n_6 ^^^ BitVec.ofInt (IntKind.bits IntKind.u32) n_7)) : Int)) ^^^ BitVec.ofInt (IntKind.bits IntKind.u32) (Int.fdiv n_1 ((2 : Int) ^ min (Int.toNat (10 : Int)) (IntKind.bits IntKind.u32))))) : Int)))
def rot (x k : Int) : Int := (IntKind.wrap IntKind.u32 (↑(BitVec.toNat (BitVec.ofInt (IntKind.bits IntKind.u32) (IntKind.wrap IntKind.u32 (x * (2 : Int) ^ min (Int.toNat (IntKind.wrap IntKind.u64 (↑(BitVec.toNat (BitVec.ofInt (IntKind.bits IntKind.u64) (IntKind.wrap IntKind.u64 k) &&& BitVec.ofInt (IntKind.bits IntKind.u64) (31 : Int))) : Int))) (IntKind.bits IntKind.u32))) ||| BitVec.ofInt (IntKind.bits IntKind.u32) (Int.fdiv x ((2 : Int) ^ min (Int.toNat (IntKind.wrap IntKind.u64 ((32 : Int) - IntKind.wrap IntKind.u64 (↑(BitVec.toNat (BitVec.ofInt (IntKind.bits IntKind.u64) (IntKind.wrap IntKind.u64 k) &&& BitVec.ofInt (IntKind.bits IntKind.u64) (31 : Int))) : Int)))) (IntKind.bits IntKind.u32))))) : Int))
def turnF (x n : Int) : Int := rot x (IntKind.wrap .i64 (0 - n))

def by8 (bs : List UInt8) (i : Nat) : Int := ((bs.getD i 0).toNat : Int)
def wd {n : Nat} (w : Ws n) (i : Nat) : Int := w.l.getD i 0

def layA (bs : List UInt8) : Nat → Ws 64
  | 0 => Ws.zero 64
  | i + 1 => (layA bs i).set i (be (by8 bs (4 * i)) (by8 bs (4 * i + 1)) (by8 bs (4 * i + 2)) (by8 bs (4 * i + 3)))

def exAt (w : Ws 64) (i : Nat) : Int :=
  ex (wd w (i - 15)) (wd w (i - 2)) (wd w (i - 16)) (wd w (i - 7)) (turnF (wd w (i - 15)) 7) (turnF (wd w (i - 15)) 18) (turnF (wd w (i - 2)) 17) (turnF (wd w (i - 2)) 19)

def layB (w : Ws 64) : Nat → Ws 64
  | 0 => w
  | i + 1 => (layB w i).set (16 + i) (exAt (layB w i) (16 + i))

def layF (bs : List UInt8) : Ws 64 := layB (layA bs 16) 48

def byTV (c : UInt8) : TV := .int .u8 (c.toNat : Int)

section
variable {R : Value → Heap → Prop} {h : Heap}

theorem wrap_u64_nonneg (n : Int) : 0 ≤ IntKind.wrap .u64 n := by
  simp [IntKind.wrap, IntKind.bits, IntKind.signed]
  omega

theorem rot_spec {x k : Int} (hr : R (TV.int .u32 (rot x k)).val h) : CallsH Try.prog 89 (TVs.vals [.int .u32 x, .int .i64 k]) h R := by
  apply math_bits_RotateLeft32_calls
  unfold math_bits_RotateLeft32_vc
  exact ⟨wrap_u64_nonneg _, wrap_u64_nonneg _, hr⟩

theorem turn_spec {x n : Int} (hr : R (TV.int .u32 (turnF x n)).val h) : CallsH Try.prog 77 (TVs.vals [.int .u32 x, .int .i64 n]) h R := by
  apply sha_turn_calls
  unfold sha_turn_vc
  exact rot_spec ⟨_, rfl, hr⟩

theorem word_at {T : TypeId} {b n : Nat} {k : IntKind} {w : Ws n} (v : Var T h b (.words k n w)) {i : Nat} (hi : i < n) : at1 h b (0 + i * 1) (.int k (wd w i)) := by
  have := v.at i hi
  rw [Nat.mul_one]
  exact this

theorem put_word {T : TypeId} {h : Heap} {b n i o : Nat} {k : IntKind} {x : Ws n} {c : Int} {K : Heap → Prop} (v : Var T h b (.words k n x)) (hi : i < n) (ho : o = i)
    (hk : ∀ h1, Var T h1 b (.words k n (x.set i c)) → Only (· = b) h h1 → h1.size = h.size → K h1) : wok h b o 1 ∧ Bind ((TV.int k c).put h b o) K := by
  subst ho
  have hl : o + (TV.int k c).size ≤ (TV.words k n x).cells.length := by rw [TV.cells_length]; simp only [TV.size]; omega
  refine ⟨v.wok (by simp only [TV.size]; omega), hk _ ?_ (put_only v hl) (put_size v hl)⟩
  have := put_row (t := .int k c) v hl
  unfold Var
  rw [this]
  congr 2
  simp only [TV.cells, TV.size, Ws.set, List.map_set]
  rw [List.set_eq_take_append_cons_drop, if_pos (by rw [List.length_map, x.h]; exact hi)]
  simp

theorem byte_in {s : Sl} {bs : List UInt8} {i : Int} (e : Elems 1 h s (bs.map byTV)) (i0 : 0 ≤ i) (i1 : i < bs.length) {K : Int → Prop} (hk : K (by8 bs i.toNat)) :
    0 ≤ i ∧ i < (s.len : Int) ∧ Nn s.a fun (l : Vc.Loc) => ∃ (n : Int), at1 h l.b (l.o + i.toNat * 1) (.int .u8 n) ∧ K n := by
  have hl := e.len
  rw [List.length_map] at hl
  refine e.read i0 (by omega) fun l t hla ht ha => ?_
  rw [List.getElem?_map] at ht
  obtain ⟨x, hx, rfl⟩ := Option.map_eq_some_iff.1 ht
  refine ⟨_, ha, ?_⟩
  have : by8 bs i.toNat = (x.toNat : Int) := by
    unfold by8
    rw [List.getD_eq_getElem?_getD, hx]
    rfl
  rw [this] at hk
  exact hk

def firstW : Ws 8 := (Ws.set (Ws.set (Ws.set (Ws.set (Ws.set (Ws.set (Ws.set (Ws.set (Ws.zero (8 : Nat)) (0 : Nat) (1779033703 : Int)) (1 : Nat) (3144134277 : Int)) (2 : Nat) (1013904242 : Int)) (3 : Nat) (2773480762 : Int)) (4 : Nat) (1359893119 : Int)) (5 : Nat) (2600822924 : Int)) (6 : Nat) (528734635 : Int)) (7 : Nat) (1541459225 : Int))
def keysW : Ws 64 := (Ws.set (Ws.set (Ws.set (Ws.set (Ws.set (Ws.set (Ws.set (Ws.set (Ws.set (Ws.set (Ws.set (Ws.set (Ws.set (Ws.set (Ws.set (Ws.set (Ws.set (Ws.set (Ws.set (Ws.set (Ws.set (Ws.set (Ws.set (Ws.set (Ws.set (Ws.set (Ws.set (Ws.set (Ws.set (Ws.set (Ws.set (Ws.set (Ws.set (Ws.set (Ws.set (Ws.set (Ws.set (Ws.set (Ws.set (Ws.set (Ws.set (Ws.set (Ws.set (Ws.set (Ws.set (Ws.set (Ws.set (Ws.set (Ws.set (Ws.set (Ws.set (Ws.set (Ws.set (Ws.set (Ws.set (Ws.set (Ws.set (Ws.set (Ws.set (Ws.set (Ws.set (Ws.set (Ws.set (Ws.set (Ws.zero (64 : Nat)) (0 : Nat) (1116352408 : Int)) (1 : Nat) (1899447441 : Int)) (2 : Nat) (3049323471 : Int)) (3 : Nat) (3921009573 : Int)) (4 : Nat) (961987163 : Int)) (5 : Nat) (1508970993 : Int)) (6 : Nat) (2453635748 : Int)) (7 : Nat) (2870763221 : Int)) (8 : Nat) (3624381080 : Int)) (9 : Nat) (310598401 : Int)) (10 : Nat) (607225278 : Int)) (11 : Nat) (1426881987 : Int)) (12 : Nat) (1925078388 : Int)) (13 : Nat) (2162078206 : Int)) (14 : Nat) (2614888103 : Int)) (15 : Nat) (3248222580 : Int)) (16 : Nat) (3835390401 : Int)) (17 : Nat) (4022224774 : Int)) (18 : Nat) (264347078 : Int)) (19 : Nat) (604807628 : Int)) (20 : Nat) (770255983 : Int)) (21 : Nat) (1249150122 : Int)) (22 : Nat) (1555081692 : Int)) (23 : Nat) (1996064986 : Int)) (24 : Nat) (2554220882 : Int)) (25 : Nat) (2821834349 : Int)) (26 : Nat) (2952996808 : Int)) (27 : Nat) (3210313671 : Int)) (28 : Nat) (3336571891 : Int)) (29 : Nat) (3584528711 : Int)) (30 : Nat) (113926993 : Int)) (31 : Nat) (338241895 : Int)) (32 : Nat) (666307205 : Int)) (33 : Nat) (773529912 : Int)) (34 : Nat) (1294757372 : Int)) (35 : Nat) (1396182291 : Int)) (36 : Nat) (1695183700 : Int)) (37 : Nat) (1986661051 : Int)) (38 : Nat) (2177026350 : Int)) (39 : Nat) (2456956037 : Int)) (40 : Nat) (2730485921 : Int)) (41 : Nat) (2820302411 : Int)) (42 : Nat) (3259730800 : Int)) (43 : Nat) (3345764771 : Int)) (44 : Nat) (3516065817 : Int)) (45 : Nat) (3600352804 : Int)) (46 : Nat) (4094571909 : Int)) (47 : Nat) (275423344 : Int)) (48 : Nat) (430227734 : Int)) (49 : Nat) (506948616 : Int)) (50 : Nat) (659060556 : Int)) (51 : Nat) (883997877 : Int)) (52 : Nat) (958139571 : Int)) (53 : Nat) (1322822218 : Int)) (54 : Nat) (1537002063 : Int)) (55 : Nat) (1747873779 : Int)) (56 : Nat) (1955562222 : Int)) (57 : Nat) (2024104815 : Int)) (58 : Nat) (2227730452 : Int)) (59 : Nat) (2361852424 : Int)) (60 : Nat) (2428436474 : Int)) (61 : Nat) (2756734187 : Int)) (62 : Nat) (3204031479 : Int)) (63 : Nat) (3329325298 : Int))

theorem first_spec (hr : ∀ h', Ext h h' → R (TV.words .u32 8 firstW).val h') : CallsH Try.prog 59 (TVs.vals []) h R := by
  apply sha_first_calls
  unfold sha_first_vc
  refine newTV_in fun h1 v1 x1 s1 => put_in (t0 := .words .u32 8 (Ws.zero 8)) (t := .words .u32 8 firstW) v1 rfl fun h2 v2 o2 s2 => ⟨_, v2.at, hr _ (Only.cut x1 o2 fun i hi => by omega)⟩

theorem keys_spec (hr : ∀ h', Ext h h' → R (TV.words .u32 64 keysW).val h') : CallsH Try.prog 76 (TVs.vals []) h R := by
  apply sha_keys_calls
  unfold sha_keys_vc
  refine newTV_in fun h1 v1 x1 s1 => put_in (t0 := .words .u32 64 (Ws.zero 64)) (t := .words .u32 64 keysW) v1 rfl fun h2 v2 o2 s2 => ⟨_, v2.at, hr _ (Only.cut x1 o2 fun i hi => by omega)⟩

theorem lay_spec {s : Sl} {bs : List UInt8} (e : Elems 1 h s (bs.map byTV)) (hl : bs.length = 64) (hr : ∀ h', Ext h h' → R (TV.words .u32 64 (layF bs)).val h') : CallsH Try.prog 75 (TVs.vals [.slice s]) h R := by
  apply sha_lay_calls
  unfold sha_lay_vc
  refine newTV_in fun h1 v1 x1 s1 => newTV_in fun h2 v2 x2 s2 => ?_
  have x12 := x1.trans x2
  have only_ext : ∀ hh, Only (· = h1.size) h2 hh → Ext h hh := fun hh o => Only.cut x12 o fun i hi => by omega
  refine ⟨fun i hh => 0 ≤ i ∧ i ≤ 16 ∧ Only (· = h1.size) h2 hh ∧ Var 94 hh h1.size (.words .u32 64 (layA bs i.toNat)), fun i _ => ((16 : Int) - i).toNat, ⟨Int.le_refl 0, by decide, Only.refl _ _, v2⟩, ?_⟩
  rintro i h3 ⟨i0, i1, o3, v3⟩
  have e3 := e.ext (only_ext h3 o3)
  refine If.dec.2 ⟨fun hi => ?_, fun hi => ?_⟩
  · rw [wrap_i64 (n := 4 * i) (by omega) (by omega), wrap_i64 (n := 4 * i + 1) (by omega) (by omega), wrap_i64 (n := 4 * i + 2) (by omega) (by omega), wrap_i64 (n := 4 * i + 3) (by omega) (by omega), wrap_i64 (n := i + 1) (by omega) (by omega)]
    have t0 : (4 * i).toNat = 4 * i.toNat := by omega
    have t1 : (4 * i + 1).toNat = 4 * i.toNat + 1 := by omega
    have t2 : (4 * i + 2).toNat = 4 * i.toNat + 2 := by omega
    have t3 : (4 * i + 3).toNat = 4 * i.toNat + 3 := by omega
    refine byte_in e3 (by omega) (by omega) ⟨by decide, byte_in e3 (by omega) (by omega) ⟨by decide, byte_in e3 (by omega) (by omega) ⟨by decide, byte_in e3 (by omega) (by omega) ?_⟩⟩⟩
    refine ⟨i0, by omega, put_word v3 (i := i.toNat) (by omega) (by omega) fun h4 v4 o4 s4 => ?_⟩
    rw [t0, t1, t2, t3] at v4
    have hi1 : (i + 1).toNat = i.toNat + 1 := by omega
    refine ⟨⟨by omega, by omega, o3.trans o4, ?_⟩, by first | omega | (dsimp only; omega)⟩
    rw [hi1]
    exact v4
  · have hi2 : i.toNat = 16 := by omega
    rw [hi2] at v3
    refine ⟨fun i hh => 16 ≤ i ∧ i ≤ 64 ∧ Only (· = h1.size) h2 hh ∧ Var 94 hh h1.size (.words .u32 64 (layB (layA bs 16) (i.toNat - 16))), fun i _ => ((64 : Int) - i).toNat, ⟨Int.le_refl 16, by decide, o3, v3⟩, ?_⟩
    rintro i h4 ⟨i0, i1, o4, v4⟩
    refine If.dec.2 ⟨fun hi => ?_, fun hi => ?_⟩
    · rw [wrap_i64 (n := i - 15) (by omega) (by omega), wrap_i64 (n := i - 2) (by omega) (by omega), wrap_i64 (n := i - 16) (by omega) (by omega), wrap_i64 (n := i - 7) (by omega) (by omega), wrap_i64 (n := i + 1) (by omega) (by omega)]
      have t0 : (i - 15).toNat = i.toNat - 15 := by omega
      have t1 : (i - 2).toNat = i.toNat - 2 := by omega
      have t2 : (i - 16).toNat = i.toNat - 16 := by omega
      have t3 : (i - 7).toNat = i.toNat - 7 := by omega
      rw [t0, t1, t2, t3]
      refine ⟨by omega, by omega, _, word_at v4 (by omega), by omega, by omega, _, word_at v4 (by omega), by omega, by omega, _, word_at v4 (by omega), by decide, by omega, by omega, _, word_at v4 (by omega), by decide, ?_⟩
      refine turn_spec ⟨_, rfl, Ext.refl _, turn_spec ⟨_, rfl, Ext.refl _, turn_spec ⟨_, rfl, Ext.refl _, turn_spec ⟨_, rfl, Ext.refl _, ?_⟩⟩⟩⟩
      refine ⟨by omega, by omega, put_word v4 (i := i.toNat) (by omega) (by omega) fun h5 v5 o5 s5 => ?_⟩
      have hi1 : (i + 1).toNat - 16 = (i.toNat - 16) + 1 := by omega
      have hi3 : 16 + (i.toNat - 16) = i.toNat := by omega
      refine ⟨⟨by omega, by omega, o4.trans o5, ?_⟩, by first | omega | (dsimp only; omega)⟩
      rw [hi1]
      unfold layB
      rw [hi3]
      unfold exAt ex
      exact v5
    · have hi2 : i.toNat - 16 = 48 := by omega
      rw [hi2] at v4
      have v0 : Var 94 h4 h.size (.words .u32 64 (Ws.zero 64)) := (v1.ext x2).only o4 (by omega)
      refine ⟨_, v4.at, put_in v0 (t := .words .u32 64 (layF bs)) (by simp only [TV.size]) fun h5 v5 o5 s5 => ⟨_, v5.at, ?_⟩⟩
      exact hr _ (Only.cut (only_ext h4 o4) o5 fun i hi => by omega)

end
end Go.Proofs.Ytgdhddignbkloaa.Board
