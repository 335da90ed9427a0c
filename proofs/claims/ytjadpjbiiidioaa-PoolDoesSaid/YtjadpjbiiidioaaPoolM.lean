/- The document's pool: items in order; what its functions do. -/
import Derived.Test.YtjadpjbiiidioaaPoolG
import Derived.Test.YtjadpjbiiidioaaPoolH
import Derived.Test.YtjadpjbiiidioaaVsPoolR
namespace Go.Proofs.Ytjadpjbiiidioaa.Pool
open Go Go.Vc

/-- Appending to a row without room: a new row. -/
theorem append_full {C : Ctx} {T : TypeId} {sz : Nat} {h : Heap} {t s : Sl} {ts us : List TV} {K : Sl → Heap → Prop} (hsz : (C.ti T).size = sz) (hz : (C.ti T).z.size = sz) (hpos : 0 < (C.ti T).bytes) (h0 : 0 < sz)
    (hb : (t.len + s.len) * (C.ti T).bytes ≤ 70368744177664) (e0 : Elems sz h t ts) (hts : ∀ u ∈ ts, u.size = sz) (hfull : t.len = t.cap) (e : Elems sz h s us) (hs : ∀ u ∈ us, u.size = sz) (hp : ∀ u ∈ us, u.plain = true) (hne : 0 < s.len)
    (hk : ∀ t' h', Own T sz h' t' (ts ++ us) → Ext h h' → (∀ l, t'.a = some l → h.size ≤ l.b) → K t' h') :
    ∃ new, slAt h s sz new ∧ (∀ v ∈ new, isOne v = true) ∧ vcAppend C T t s.len new h K := by
  refine ⟨TVs.cells us, e.cells hs h0, TVs.plain_cells_of hp, TVs.cells ts, ?_, hb, hpos, fun hroom => by omega, fun hroom => by omega, fun _ c hc => ?_⟩
  · rw [hsz]
    exact e0.cells hts h0
  · have elen := e.len
    have olen := e0.len
    refine hk _ _ ⟨fun x hx => ?_, by simp [olen, elen], hc, .inr ⟨_, zeros (C.ti T).z (c - (t.len + s.len)), rfl, ?_, ?_⟩⟩ (Ext.push _ _) fun l hl => ?_
    · rcases List.mem_append.1 hx with h1 | h1
      · exact hts x h1
      · exact hs x h1
    · rw [push_get, TVs.cells_append]
    · rw [zeros_length, hz]
    · cases hl
      exact Nat.le_refl _

theorem cut67 {h : Heap} {s : Sl} {ts : List TV} {i j : Nat} (e : Elems 67 h s ts) (hij : i ≤ j) (hj : j ≤ s.len) (c : Nat) (hc : j ≤ c) : Elems 67 h (cutSl (Sl.mk s.a s.len c) i j 67) ((ts.drop i).take (j - i)) := by
  have hl := e.len
  refine ⟨by simp only [cutSl, List.length_take, List.length_drop]; omega, fun hn => ?_, fun l hla k t ht => ?_⟩
  · have : ts = [] ∨ j - i = 0 := by
      unfold cutSl at hn
      simp only at hn
      split at hn
      · right; omega
      · left
        cases hs : s.a with
        | none => exact e.nil hs
        | some l => rw [hs] at hn; simp at hn
    rcases this with rfl | h0
    · simp
    · rw [h0]; simp
  · unfold cutSl at hla
    simp only at hla
    rw [List.getElem?_take] at ht
    split at ht
    · rename_i hk
      rw [List.getElem?_drop] at ht
      split at hla
      · omega
      · cases hs : s.a with
        | none => rw [hs] at hla; simp at hla
        | some l0 =>
          rw [hs] at hla
          simp only [Option.map_some, Option.some.injEq] at hla
          subst hla
          have := e.get l0 hs (i + k) t ht
          rw [Nat.add_mul, ← Nat.add_assoc] at this
          exact this
    · cases ht

/-- The first place ahead of which an item comes. -/
theorem ins_at (x : It) : ∀ (M : List It) (i : Nat), i ≤ M.length → (∀ j y, j < i → M[j]? = some y → bf x y = false) → (i = M.length ∨ ∃ y, M[i]? = some y ∧ bf x y = true) → insIt x M = M.take i ++ ([x] ++ M.drop i)
  | [], i, hi, _, _ => by
    have : i = 0 := by simpa using hi
    subst this
    rfl
  | y :: ys, 0, _, _, h => by
    rcases h with h | ⟨z, hz, hb⟩
    · cases h
    · injection hz with hz
      subst hz
      rw [insIt, if_pos hb]
      rfl
  | y :: ys, i + 1, hi, hj, h => by
    have hy := hj 0 y (Nat.succ_pos _) rfl
    have ih := ins_at x ys i (by simpa using hi) (fun j z hji hz => hj (j + 1) z (by omega) hz) (by
      rcases h with h | ⟨z, hz, hb⟩
      · left; simpa using h
      · right; exact ⟨z, hz, hb⟩)
    rw [insIt, if_neg (by rw [hy]; decide), ih]
    rfl

theorem insIt_length (x : It) (M : List It) : (insIt x M).length = M.length + 1 := by rw [(insIt_perm x M).length_eq, List.length_cons]

theorem insIt_last {x y : It} {M : List It} (hl : M.getLast? = some y) (hb : bf x y = true) : insIt x M = insIt x M.dropLast ++ [y] := by
  obtain ⟨l, rfl⟩ := List.getLast?_eq_some_iff.1 hl
  rw [List.dropLast_concat]
  clear hl
  induction l with
  | nil => simp [insIt, hb]
  | cons z zs ih =>
    rw [List.cons_append, insIt, insIt]
    split
    · rfl
    · rw [ih]; rfl

/-- The document's pool in memory. -/
structure RL (h : Heap) (m : Nat) (A : Sl) (M : List It) (most quota : Int) : Prop where
  var : Var 59 h m (.agg [.slice A, .int .i64 most, .int .i64 quota])
  el : Elems 67 h A (its M)
  cap : A.len ≤ A.cap
  apart : ∀ l, A.a = some l → l.b ≠ m
  low : ∀ l, A.a = some l → l.b < h.size
  few : M.length < 900

section
variable {R : Value → Heap → Prop} {h : Heap} {m : Nat} {A : Sl} {M : List It} {most quota : Int}

theorem RL.only {h' : Heap} {Q : Nat → Prop} (r : RL h m A M most quota) (o : Only Q h h') (hm : ¬ Q m) (hA : ∀ l, A.a = some l → ¬ Q l.b) : RL h' m A M most quota :=
  ⟨r.var.only o hm, r.el.only o hA, r.cap, r.apart, fun l hl => Nat.lt_of_lt_of_le (r.low l hl) o.size, r.few⟩
theorem RL.ext {h' : Heap} (r : RL h m A M most quota) (x : Ext h h') : RL h' m A M most quota :=
  ⟨r.var.ext x, r.el.ext x, r.cap, r.apart, fun l hl => Nat.lt_of_lt_of_le (r.low l hl) x.size, r.few⟩
theorem RL.len (r : RL h m A M most quota) : M.length = A.len := by have := r.el.len; rwa [List.length_map] at this

theorem rless_spec {a b : Bs 32} (hr : ∀ h', Ext h h' → R (TV.bool (Op.bytesLess a.l b.l)).val h') : CallsH Try.prog 60 (TVs.vals [.bytes 32 a, .bytes 32 b]) h R := by
  apply tollerref03_Less_calls
  unfold tollerref03_Less_vc
  refine newTV_in fun h1 v1 x1 s1 => newTV_in fun h2 v2 x2 s2 => ?_
  have v1' := v1.ext x2
  have byte_at : ∀ {h : Heap} {b : Nat} {x : Bs 32} {i : Nat}, Var 30 h b (.bytes 32 x) → (hi : i < 32) → at1 h b (0 + i * 1) (.int .u8 ((x.l[i]'(by rw [x.h]; exact hi)).toNat : Int)) := by
    intro h b x i v hi
    have := v.bytes i hi
    rw [Nat.mul_one]
    unfold at1
    rw [this]
    have hl : i < x.l.length := by rw [x.h]; exact hi
    simp [List.getD, hl]
  refine ⟨fun s hh => 0 ≤ s.2 ∧ s.2 ≤ 32 ∧ hh = h2 ∧ Op.bytesLess a.l b.l = Op.bytesLess (a.l.drop s.2.toNat) (b.l.drop s.2.toNat), fun s _ => ((32 : Int) - s.2).toNat, ⟨by simp, by simp, rfl, by simp⟩, ?_⟩
  rintro ⟨x, i⟩ hh ⟨i0, i1, rfl, hl⟩
  simp only at i0 i1 hl ⊢
  have ha := a.h
  have hb := b.h
  refine If.dec.2 ⟨fun hi => ?_, fun hi => ?_⟩
  · have ni : i.toNat < 32 := by omega
    have da : a.l.drop i.toNat = a.l[i.toNat] :: a.l.drop (i.toNat + 1) := List.drop_eq_getElem_cons (by omega)
    have db : b.l.drop i.toNat = b.l[i.toNat] :: b.l.drop (i.toNat + 1) := List.drop_eq_getElem_cons (by omega)
    rw [da, db] at hl
    simp only [Op.bytesLess] at hl
    refine ⟨i0, hi, _, byte_at v1' ni, i0, hi, _, byte_at v2 ni, ?_⟩
    refine If.split (fun hne => ?_) (fun he => ?_)
    · refine ⟨i0, hi, _, byte_at v1' ni, i0, hi, _, byte_at v2 ni, ?_⟩
      have hne' : (a.l[i.toNat] == b.l[i.toNat]) = false := by
        rw [beq_eq_false_iff_ne]
        intro hx
        rw [hx] at hne
        simp at hne
      rw [hne', Bool.false_and, Bool.or_false] at hl
      have : Op.bytesLess a.l b.l = decide (((a.l[i.toNat]).toNat : Int) < ((b.l[i.toNat]).toNat : Int)) := by
        rw [hl]
        refine decide_eq_decide.2 ?_
        rw [UInt8.lt_iff_toNat_lt]
        omega
      rw [← this]
      exact hr _ (x1.trans x2)
    · have he' : a.l[i.toNat] = b.l[i.toNat] := by
        simp only [Bool.not_eq_false', decide_eq_true_eq] at he
        exact UInt8.toNat_inj.1 (by omega)
      rw [wrap_i64 (by omega) (by omega)]
      refine ⟨⟨by omega, by omega, by trivial, ?_⟩, by first | omega | (dsimp only; omega)⟩
      have hi' : (i + 1).toNat = i.toNat + 1 := by omega
      rw [hi', hl, he']
      have : ¬ (b.l[i.toNat] < b.l[i.toNat]) := UInt8.lt_irrefl _
      simp [this]
  · have hi' : i.toNat = 32 := by omega
    rw [hi', List.drop_eq_nil_of_le (by omega), List.drop_eq_nil_of_le (by omega)] at hl
    simp only [Op.bytesLess] at hl
    rw [hl] at hr
    exact hr _ (x1.trans x2)

theorem rbefore_spec {x y : It} (hr : ∀ h', Ext h h' → R (TV.bool (bf x y)).val h') : CallsH Try.prog 49 (TVs.vals [x.tv, y.tv]) h R := by
  apply tollerref15_Before_calls x.slot x.root x.peer x.fr x.text y.slot y.root y.peer y.fr y.text
  unfold tollerref15_Before_vc
  refine newTV_in fun h1 v1 x1 s1 => newTV_in fun h2 v2 x2 s2 => ?_
  have v1' := v1.ext x2
  have x12 := x1.trans x2
  refine ⟨x.slot, v_slot (x := x) v1', y.slot, v_slot (x := y) v2, If.split (fun hne => ?_) fun he => ?_⟩
  · have hne' : x.slot ≠ y.slot := by simpa using hne
    refine ⟨x.slot, v_slot (x := x) v1', y.slot, v_slot (x := y) v2, ?_⟩
    have := hr h2 x12
    rwa [show bf x y = decide (x.slot < y.slot) by unfold bf; simp [hne']] at this
  · have he' : x.slot = y.slot := by simpa using he
    refine ⟨x.root, v_root (x := x) v1', y.root, v_root (x := y) v2, rless_spec fun h' x' => ⟨_, rfl, ?_⟩⟩
    have := hr h' (x12.trans x')
    rwa [show bf x y = Op.bytesLess x.root.l y.root.l by unfold bf; simp [he']] at this

theorem rof_spec (r : RL h m A M most quota) {k : Int} (hr : ∀ h', Ext h h' → R (TV.int .i64 (cnt k M : Int)).val h') : CallsH Try.prog 26 (TVs.vals [.ptr (some ⟨m, 0⟩), .int .i64 k]) h R := by
  apply tollerref15_Pool_Of_calls
  unfold tollerref15_Pool_Of_vc
  have few := r.few
  have hel := r.len
  refine ⟨A, r.var.at1 rfl, ?_⟩
  refine ⟨fun s hh => 0 ≤ s.2 ∧ s.2 ≤ M.length ∧ Ext h hh ∧ s.1 = (cnt k (M.take s.2.toNat) : Int), fun s _ => ((M.length : Int) - s.2).toNat, ⟨Int.le_refl _, Int.natCast_nonneg _, Ext.refl _, rfl⟩, ?_⟩
  rintro ⟨n, i⟩ hh ⟨i0, i1, x, hn⟩
  simp only at i0 i1 hn ⊢
  have hcl : cnt k (M.take i.toNat) ≤ 900 := by
    unfold cnt
    have := List.countP_le_length (p := fun x : It => decide (x.peer = k)) (l := M.take i.toNat)
    rw [List.length_take] at this
    omega
  refine If.dec.2 ⟨fun hi => ?_, fun hi => ?_⟩
  · refine its_at (r.el.ext x) i0 (by omega) fun l y _ hy => ?_
    refine newTV_in fun h2 v2 x2 s2 => ?_
    refine put_in v2 (t := y.tv) rfl fun h3 v3 o3 s3 => ?_
    have x23 : Ext hh h3 := Only.cut x2 o3 fun j hj => by omega
    refine ⟨y.peer, v_peer (x := y) v3, ?_⟩
    have hi' : (i + 1).toNat = i.toNat + 1 := by omega
    have htk : M.take (i.toNat + 1) = M.take i.toNat ++ [y] := by rw [List.take_add_one, hy]; rfl
    have hc1 : cnt k (M.take (i.toNat + 1)) = cnt k (M.take i.toNat) + if y.peer = k then 1 else 0 := by
      rw [htk]
      unfold cnt
      rw [List.countP_append, List.countP_singleton]
      by_cases hk : y.peer = k <;> simp [hk]
    rw [wrap_i64 (n := i + 1) (by omega) (by omega)]
    refine If.dec.2 ⟨fun hk => ?_, fun hk => ?_⟩
    · rw [wrap_i64 (n := n + 1) (by omega) (by omega)]
      rw [if_pos hk] at hc1
      exact ⟨⟨by first | omega | (dsimp only; omega), by first | omega | (dsimp only; omega), x.trans x23, by rw [hi', hc1]; omega⟩, by first | omega | (dsimp only; omega)⟩
    · rw [if_neg hk] at hc1
      exact ⟨⟨by first | omega | (dsimp only; omega), by first | omega | (dsimp only; omega), x.trans x23, by rw [hi', hc1]; omega⟩, by first | omega | (dsimp only; omega)⟩
  · have hi2 : i.toNat = M.length := by omega
    rw [hi2, List.take_length] at hn
    rw [hn]
    exact hr hh x

theorem rhas_spec (r : RL h m A M most quota) {k : Bs 32} (hr : ∀ h', Ext h h' → R (TV.bool (has k M)).val h') : CallsH Try.prog 28 (TVs.vals [.ptr (some ⟨m, 0⟩), .bytes 32 k]) h R := by
  apply tollerref15_Pool_Has_calls
  unfold tollerref15_Pool_Has_vc
  have few := r.few
  have hel := r.len
  refine newTV_in fun h1 v1 x1 s1 => ?_
  refine ⟨A, (r.var.ext x1).at1 rfl, ?_⟩
  refine ⟨fun s hh => 0 ≤ s.2 ∧ s.2 ≤ M.length ∧ Ext h1 hh ∧ has k (M.take s.2.toNat) = false, fun s _ => ((M.length : Int) - s.2).toNat, ⟨Int.le_refl _, Int.natCast_nonneg _, Ext.refl _, rfl⟩, ?_⟩
  rintro ⟨n, i⟩ hh ⟨i0, i1, x, hn⟩
  simp only at i0 i1 hn ⊢
  refine If.dec.2 ⟨fun hi => ?_, fun hi => ?_⟩
  · refine its_at (r.el.ext (x1.trans x)) i0 (by omega) fun l y _ hy => ?_
    refine newTV_in fun h2 v2 x2 s2 => ?_
    refine put_in v2 (t := y.tv) rfl fun h3 v3 o3 s3 => ?_
    have x23 : Ext hh h3 := Only.cut x2 o3 fun j hj => by omega
    refine ⟨y.root, v_root (x := y) v3, k, ((v1.ext x).ext x23).bytes, ?_⟩
    have hi' : (i + 1).toNat = i.toNat + 1 := by omega
    refine If.dec.2 ⟨fun hk => ?_, fun hk => ?_⟩
    · have : has k M = true := List.any_eq_true.2 ⟨y, List.mem_of_getElem? hy, by simp [Bs.ext' hk]⟩
      rw [this] at hr
      exact hr h3 ((x1.trans x).trans x23)
    · rw [wrap_i64 (n := i + 1) (by omega) (by omega)]
      have htk : M.take (i.toNat + 1) = M.take i.toNat ++ [y] := by rw [List.take_add_one, hy]; rfl
      refine ⟨⟨by first | omega | (dsimp only; omega), by first | omega | (dsimp only; omega), x.trans x23, ?_⟩, by first | omega | (dsimp only; omega)⟩
      try dsimp only
      rw [hi', htk]
      unfold has at hn ⊢
      rw [List.any_append, hn, Bool.false_or]
      have : y.root ≠ k := fun e => hk (by rw [e])
      simp [this]
  · have hi2 : i.toNat = M.length := by omega
    rw [hi2, List.take_length] at hn
    rw [hn] at hr
    exact hr hh (x1.trans x)

theorem rnew_spec {q : Int} (hr : ∀ h' b, RL h' h.size Sl.nil [] most q → Ext h h' → b = decide (1 ≤ most ∧ most ≤ 64 ∧ 1 ≤ q ∧ q ≤ 64) → R (TV.tup [.ptr (some ⟨h.size, 0⟩), .bool b]).val h') : CallsH Try.prog 24 (TVs.vals [.int .i64 most, .int .i64 q]) h R := by
  apply tollerref15_New_calls
  unfold tollerref15_New_vc
  refine newTV_in fun h1 v1 x1 s1 => ?_
  have r1 : RL h1 h.size Sl.nil [] most q := ⟨v1, Elems.nil_ 67 h1, Nat.le_refl _, (fun l hl => by cases hl), (fun l hl => by cases hl), by decide⟩
  refine If.dec.2 ⟨fun h1' => If.dec.2 ⟨fun h2 => If.dec.2 ⟨fun h3 => hr h1 _ r1 x1 (by simp [h1', h2, h3]), fun h3 => ?_⟩, fun h2 => ?_⟩, fun h1' => ?_⟩
  · exact hr h1 _ r1 x1 (decide_eq_false (by omega)).symm
  · exact hr h1 _ r1 x1 (decide_eq_false (by omega)).symm
  · exact hr h1 _ r1 x1 (decide_eq_false (by omega)).symm

end
end Go.Proofs.Ytjadpjbiiidioaa.Pool
