/- The document's Put does what the program's Put does to the items in order. -/
import Derived.Test.YtjadpjbiiidioaaPoolM
namespace Go.Proofs.Ytjadpjbiiidioaa.Pool
open Go Go.Vc
section
variable {R : Value → Heap → Prop} {h : Heap} {m : Nat} {A : Sl} {M : List It} {most quota : Int}

theorem zero_sz (x : It) : x.tv.size = It.zero.tv.size := rfl

set_option maxHeartbeats 1000000 in
theorem docput_spec (r : RL h m A M most quota) (x : It) (hm : 1 ≤ most) (hmm : most ≤ 64) (hlen : (M.length : Int) ≤ most)
    (hr : ∀ h' A', RL h' m A' (putS most quota x M).2.2 most quota → Only (· = m) h h' → (∀ l, A'.a = some l → (∃ l', A.a = some l' ∧ l'.b = l.b) ∨ h.size ≤ l.b) → R (TV.tup [.int .i64 (putS most quota x M).1, (putS most quota x M).2.1.tv]).val h') :
    CallsH Try.prog 42 (TVs.vals [.ptr (some ⟨m, 0⟩), x.tv]) h R := by
  apply tollerref15_Pool_Put_calls (some ⟨m, 0⟩) x.slot x.root x.peer x.fr x.text
  unfold tollerref15_Pool_Put_vc
  have mlt := r.var.lt
  refine newTV_in fun h1 v1 x1 s1 => newTV_in fun h2 v2 x2 s2 => ?_
  have v1' : Var 68 h2 h.size x.tv := v1.ext x2
  have x12 := x1.trans x2
  -- an answer, with what gives way
  have ans : ∀ (hh : Heap) (A' : Sl) (S' : List It) (v : Int) (y : It), Var 68 hh h1.size It.zero.tv → RL hh m A' S' most quota → Only (· = m) h hh → (∀ l, A'.a = some l → (∃ l', A.a = some l' ∧ l'.b = l.b) ∨ h.size ≤ l.b) → (∀ l, A'.a = some l → l.b ≠ h1.size) → putS most quota x M = (v, y, S') →
      wok hh h1.size 0 67 ∧ Bind (TV.put hh h1.size 0 y.tv) fun (h : Heap) =>
        ∃ (n : Int), ∃ (c : Bs 32), ∃ (n1 : Int), ∃ (c1 : Bs 32), ∃ (s : List UInt8), (at1 h h1.size 0 (.int .i64 n) ∧ atBytes h h1.size 1 32 c ∧ at1 h h1.size 33 (.int .i64 n1) ∧ atBytes h h1.size 34 32 c1 ∧ at1 h h1.size 66 (.string (ByteArray.mk (List.toArray s)))) ∧
          R (TV.tup [.int .i64 v, .agg [.int .i64 n, .bytes 32 c, .int .i64 n1, .bytes 32 c1, .str s]]).val h := by
    intro hh A' S' v y vz rl o nw ne e
    refine put_in vz (t := y.tv) (zero_sz y) fun h9 v9 o9 s9 => v_it (x := y) v9 ?_
    have := hr h9 A' (by rw [e]; exact rl.only o9 (by omega) ne) ⟨Nat.le_trans o.size o9.size, fun i hi hn => by rw [o9.same i (by have := o.size; omega) (by omega), o.same i hi hn]⟩ nw
    rw [e] at this
    exact this
  have lowA := r.low
  have r2 := r.ext x12
  refine ⟨x.root, v_root (x := x) v1', rhas_spec r2 fun h3 x3 => ⟨_, rfl, ?_⟩⟩
  have x13 := x12.trans x3
  have r3 := r2.ext x3
  have v13 : Var 68 h3 h.size x.tv := v1'.ext x3
  have v23 : Var 68 h3 h1.size It.zero.tv := v2.ext x3
  have ofx : ∀ hh, Ext h hh → Only (· = m) h hh := fun hh e => Only.of_ext e
  have same : ∀ l, A.a = some l → (∃ l', A.a = some l' ∧ l'.b = l.b) ∨ h.size ≤ l.b := fun l hl => .inl ⟨l, hl, rfl⟩
  have neA : ∀ l, A.a = some l → l.b ≠ h1.size := fun l hl => by have := lowA l hl; omega
  cases hhas : has x.root M with
  | true => exact If.yes (ans h3 A M 9 It.zero v23 r3 (ofx _ x13) same neA (by unfold putS; rw [if_pos hhas]))
  | false =>
  refine If.no ⟨x.peer, v_peer (x := x) v13, quota, r3.var.at1 rfl, rof_spec r3 fun h4 x4 => ⟨_, rfl, x4, ?_⟩⟩
  have x14 := x13.trans x4
  have r4 := r3.ext x4
  have v14 := v13.ext x4
  have v24 := v23.ext x4
  refine If.dec.2 ⟨fun hq => ?_, fun hq => ?_⟩
  · exact ans h4 A M 11 It.zero v24 r4 (ofx _ x14) same neA (by unfold putS; rw [if_neg (by rw [hhas]; decide), if_pos hq])
  refine ⟨A, r4.var.at1 rfl, ?_⟩
  have hl := r.len
  intro J hJ
  have key : ∀ h5, Ext h4 h5 → ((M.length : Int) < most ∨ ∃ y, M.getLast? = some y ∧ bf x y = true) → J 0 h5 := by
    intro h5 x5 hroom
    refine hJ _ _ ?_
    clear hJ
    refine ⟨fun i hh => 0 ≤ i ∧ i ≤ A.len ∧ Ext h5 hh ∧ ∀ j y, j < i.toNat → M[j]? = some y → bf x y = false, fun i _ => ((A.len : Int) - i).toNat, ⟨Int.le_refl 0, by omega, Ext.refl _, fun j y hj => absurd hj (by simp)⟩, ?_⟩
    rintro i h6 ⟨i0, i1, x6, hall⟩
    have x56 := x5.trans x6
    have r6 := r4.ext x56
    have v16 := v14.ext x56
    -- the rest, from wherever the search ended
    have fin : ∀ hq, Ext h6 hq → (i.toNat = M.length ∨ ∃ y, M[i.toNat]? = some y ∧ bf x y = true) → ∃ (h0 : RL hq m A M most quota) (v1q : Var 68 hq h.size x.tv) (v2q : Var 68 hq h1.size It.zero.tv), Ext h hq ∧ insIt x M = M.take i.toNat ++ ([x] ++ M.drop i.toNat) :=
      fun hq xq hat => ⟨r6.ext xq, v16.ext xq, (v24.ext x56).ext xq, (x14.trans x56).trans xq, ins_at x M i.toNat (by omega) hall hat⟩
    refine If.dec.2 ⟨fun hi => ?_, fun hi => ?_⟩
    · refine v_it (x := x) v16 ⟨A, r6.var.at1 rfl, its_at r6.el i0 (by omega) fun l y _ hy => ?_⟩
      refine rbefore_spec (x := x) (y := y) fun h7 x7 => ⟨_, rfl, ?_⟩
      cases hb : bf x y with
      | false =>
        refine If.yes ?_
        rw [wrap_i64 (n := i + 1) (by omega) (by omega)]
        refine ⟨⟨by omega, by omega, x6.trans x7, fun j z hj hz => ?_⟩, by first | omega | (dsimp only; omega)⟩
        by_cases hji : j < i.toNat
        · exact hall j z hji hz
        · have : j = i.toNat := by omega
          subst this
          rw [hy] at hz
          injection hz with hz
          subst hz
          exact hb
      | true =>
        refine If.no ?_
        obtain ⟨rq, v1q, v2q, xq, hins⟩ := fin h7 x7 (.inr ⟨y, hy, hb⟩)
        refine ⟨A, rq.var.at1 rfl, i0, by have := rq.cap; omega, i0, Int.le_refl _, v_it (x := x) v1q ⟨A, rq.var.at1 rfl, i0, i1, Ext.push _ _, ?_⟩⟩
        have xp := Ext.push h7 (row (TVs.cells [x.tv]) 68)
        have op := Own.new (T := 68) (sz := 67) h7 [x.tv] (fun t ht => by rw [List.mem_singleton.1 ht]; rfl)
        have hcut := cut67 (i := i.toNat) (j := A.len) (rq.el.ext xp) (by omega) (Nat.le_refl _) A.cap rq.cap
        have htk0 := cut67 (i := 0) (j := i.toNat) (rq.el.ext xp) (Nat.zero_le _) (by omega) i.toNat (Nat.le_refl _)
        rw [List.drop_zero, Nat.sub_zero, ← List.map_take] at htk0
        rw [← List.map_drop, List.take_of_length_le (by rw [List.length_map, List.length_drop]; omega)] at hcut
        have szp : (h7.push (row (TVs.cells [x.tv]) 68)).size = h7.size + 1 := by simp
        have few := r.few
        refine appendN (C := ctx) (T := 68) (sz := 67) size68 zsize68 (by rw [bytes68]; decide) (by decide) (by rw [bytes68]; simp only [cutSl]; omega) op hcut (its_size _) (its_plain _) fun s8 h8 o8 x8 _ b8 => ⟨x8 rfl, ?_⟩
        have x8' := x8 rfl
        have z8 : h7.size + 1 ≤ h8.size := by have := x8'.size; rw [← szp]; exact this
        have o8len := o8.len
        rw [List.length_append, List.length_map, List.length_drop, List.length_singleton] at o8len
        refine append_full (C := ctx) (T := 68) (sz := 67) (ts := its (M.take i.toNat)) (us := its ([x] ++ M.drop i.toNat)) size68 zsize68 (by rw [bytes68]; decide) (by decide) (by rw [bytes68]; simp only [cutSl]; omega) (htk0.ext x8') (its_size _) (by simp [cutSl]) o8.elems (its_size _) (its_plain _) (by omega) fun s9 h9 o9 x9 b9 => ?_
        have o9' : Own 68 67 h9 s9 (its (insIt x M)) := by rw [hins]; simpa [its] using o9
        have x79 : Ext h7 h9 := (xp.trans x8').trans x9
        have x09 := xq.trans x79
        have r9 := rq.ext x79
        have z79 := x79.size
        refine field_in (i := 0) (t := .slice s9) (t0 := .slice A) r9.var rfl rfl rfl rfl fun h10 v10 (o10 : Only (· = m) h9 h10) s10 => ?_
        have v10' : Var 59 h10 m (.agg [.slice s9, .int .i64 most, .int .i64 quota]) := v10
        have hlt9 := o9'.lt
        have m0 : ∀ l, s9.a = some l → l.b ≠ m := fun l hl => by have := b9 l hl; have := xq.size; omega
        have r10 : RL h10 m s9 (insIt x M) most quota := ⟨v10', o9'.elems.only o10 m0, o9'.cap, m0, fun l hl => by have := hlt9 l hl; omega, by rw [insIt_length]; omega⟩
        have oh10 : Only (· = m) h h10 := (Only.of_ext x09).trans o10
        have nw10 : ∀ l, s9.a = some l → (∃ l', A.a = some l' ∧ l'.b = l.b) ∨ h.size ≤ l.b := fun l hl => .inr (by have := b9 l hl; have := xq.size; omega)
        have hne10 : ∀ l, s9.a = some l → l.b ≠ h1.size := fun l hl => by have := b9 l hl; have := v2q.lt; omega
        have v2r : Var 68 h10 h1.size It.zero.tv := (v2q.ext x79).only o10 (by omega)
        refine ⟨most, v10'.at1 rfl, If.dec.2 ⟨fun hlt => ?_, fun hge => ?_⟩⟩
        · exact ans h10 s9 (insIt x M) 1 It.zero v2r r10 oh10 nw10 hne10 (by unfold putS; rw [if_neg (by rw [hhas]; decide), if_neg hq, if_pos (by rw [hl]; exact hlt)])
        · obtain ⟨y, hy, hb⟩ : ∃ y, M.getLast? = some y ∧ bf x y = true := by
            rcases hroom with h | h
            · omega
            · exact h
          have hlast := insIt_last hy hb
          have hil := insIt_length x M
          have hdl : (insIt x M.dropLast).length = M.length := by
            have := congrArg List.length hlast
            rw [List.length_append, List.length_singleton] at this
            omega
          refine ⟨s9, v10'.at1 rfl, ?_⟩
          refine its_at (i := (A.len : Int)) r10.el (by omega) (by omega) fun l z _ hz => ?_
          have hzy : z = y := by
            rw [hlast, Int.toNat_natCast, ← hl, ← hdl, List.getElem?_append_right (Nat.le_refl _), Nat.sub_self] at hz
            injection hz with hz
            exact hz.symm
          subst hzy
          refine newTV_in fun h11 v11 x11 s11 => put_in (t0 := It.zero.tv) (t := z.tv) v11 (zero_sz z) fun h12 v12 o12 s12 => ?_
          have x1012 : Ext h10 h12 := Only.cut x11 o12 fun j hj => by omega
          have r12 := r10.ext x1012
          have hcap := r12.cap
          have hlen9 := r12.len
          refine ⟨s9, r12.var.at1 rfl, by omega, by omega, by omega, Int.le_refl _, ?_⟩
          have hcut2 := cut67 (i := 0) (j := A.len) r12.el (Nat.zero_le _) (by omega) A.len (Nat.le_refl _)
          rw [List.drop_zero, Nat.sub_zero, ← List.map_take, hlast, ← hl, ← hdl, List.take_left] at hcut2
          rw [hdl, hl] at hcut2
          refine field_in (i := 0) (t := .slice (cutSl (Sl.mk s9.a s9.len A.len) 0 A.len 67)) (t0 := .slice s9) r12.var rfl rfl rfl rfl fun h13 v13' (o13 : Only (· = m) h12 h13) s13 => ?_
          have hca : ∀ l, (cutSl (Sl.mk s9.a s9.len A.len) 0 A.len 67).a = some l → ∃ l', s9.a = some l' ∧ l'.b = l.b := fun l hl' => by
            unfold cutSl at hl'
            simp only at hl'
            split at hl'
            · exact ⟨l, hl', rfl⟩
            · cases hs : s9.a with
              | none => rw [hs] at hl'; simp at hl'
              | some l0 =>
                rw [hs] at hl'
                simp only [Option.map_some, Option.some.injEq] at hl'
                subst hl'
                exact ⟨l0, rfl, rfl⟩
          have m1 : ∀ l, (cutSl (Sl.mk s9.a s9.len A.len) 0 A.len 67).a = some l → l.b ≠ m := fun l hl' => by
            obtain ⟨l', h8, h9'⟩ := hca l hl'
            rw [← h9']; exact m0 l' h8
          have r13 : RL h13 m (cutSl (Sl.mk s9.a s9.len A.len) 0 A.len 67) (insIt x M.dropLast) most quota := ⟨v13', hcut2.only o13 m1, by simp [cutSl], m1, fun l hl' => by
            obtain ⟨l', h8, h9'⟩ := hca l hl'
            have := r12.low l' h8
            omega, by rw [hdl]; omega⟩
          have hmlt : m < h10.size := v10'.lt
          have vy13 : Var 68 h13 h10.size z.tv := v12.only o13 (by omega)
          have v2r13 : Var 68 h13 h1.size It.zero.tv := (v2r.ext x1012).only o13 (by omega)
          refine v_it (x := z) vy13 (ans h13 _ (insIt x M.dropLast) 2 z v2r13 r13 (oh10.trans ((Only.of_ext x1012).trans o13)) (fun l hl' => ?_) (fun l hl' => ?_) ?_)
          · obtain ⟨l', h8, h9'⟩ := hca l hl'
            rcases nw10 l' h8 with ⟨l3, h3, h4⟩ | h3
            · exact .inl ⟨l3, h3, by rw [h4, h9']⟩
            · exact .inr (by rw [← h9']; exact h3)
          · obtain ⟨l', h8, h9'⟩ := hca l hl'
            rw [← h9']; exact hne10 l' h8
          · unfold putS
            rw [if_neg (by rw [hhas]; decide), if_neg hq, if_neg (by rw [hl]; exact hge), hy]
            simp [hb]
    · obtain ⟨rq, v1q, v2q, xq, hins⟩ := fin h6 (Ext.refl _) (.inl (by omega))
      refine ⟨A, rq.var.at1 rfl, i0, by have := rq.cap; omega, i0, Int.le_refl _, v_it (x := x) v1q ⟨A, rq.var.at1 rfl, i0, i1, Ext.push _ _, ?_⟩⟩
      have xp := Ext.push h6 (row (TVs.cells [x.tv]) 68)
      have op := Own.new (T := 68) (sz := 67) h6 [x.tv] (fun t ht => by rw [List.mem_singleton.1 ht]; rfl)
      have hcut := cut67 (i := i.toNat) (j := A.len) (rq.el.ext xp) (by omega) (Nat.le_refl _) A.cap rq.cap
      have htk0 := cut67 (i := 0) (j := i.toNat) (rq.el.ext xp) (Nat.zero_le _) (by omega) i.toNat (Nat.le_refl _)
      rw [List.drop_zero, Nat.sub_zero, ← List.map_take] at htk0
      rw [← List.map_drop, List.take_of_length_le (by rw [List.length_map, List.length_drop]; omega)] at hcut
      have szp : (h6.push (row (TVs.cells [x.tv]) 68)).size = h6.size + 1 := by simp
      have few := r.few
      refine appendN (C := ctx) (T := 68) (sz := 67) size68 zsize68 (by rw [bytes68]; decide) (by decide) (by rw [bytes68]; simp only [cutSl]; omega) op hcut (its_size _) (its_plain _) fun s8 h8 o8 x8 _ b8 => ⟨x8 rfl, ?_⟩
      have x8' := x8 rfl
      have z8 : h6.size + 1 ≤ h8.size := by have := x8'.size; rw [← szp]; exact this
      have o8len := o8.len
      rw [List.length_append, List.length_map, List.length_drop, List.length_singleton] at o8len
      refine append_full (C := ctx) (T := 68) (sz := 67) (ts := its (M.take i.toNat)) (us := its ([x] ++ M.drop i.toNat)) size68 zsize68 (by rw [bytes68]; decide) (by decide) (by rw [bytes68]; simp only [cutSl]; omega) (htk0.ext x8') (its_size _) (by simp [cutSl]) o8.elems (its_size _) (its_plain _) (by omega) fun s9 h9 o9 x9 b9 => ?_
      have o9' : Own 68 67 h9 s9 (its (insIt x M)) := by rw [hins]; simpa [its] using o9
      have x79 : Ext h6 h9 := (xp.trans x8').trans x9
      have x09 := xq.trans x79
      have r9 := rq.ext x79
      have z79 := x79.size
      refine field_in (i := 0) (t := .slice s9) (t0 := .slice A) r9.var rfl rfl rfl rfl fun h10 v10 (o10 : Only (· = m) h9 h10) s10 => ?_
      have v10' : Var 59 h10 m (.agg [.slice s9, .int .i64 most, .int .i64 quota]) := v10
      have hlt9 := o9'.lt
      have m0 : ∀ l, s9.a = some l → l.b ≠ m := fun l hl => by have := b9 l hl; have := xq.size; omega
      have r10 : RL h10 m s9 (insIt x M) most quota := ⟨v10', o9'.elems.only o10 m0, o9'.cap, m0, fun l hl => by have := hlt9 l hl; omega, by rw [insIt_length]; omega⟩
      have oh10 : Only (· = m) h h10 := (Only.of_ext x09).trans o10
      have nw10 : ∀ l, s9.a = some l → (∃ l', A.a = some l' ∧ l'.b = l.b) ∨ h.size ≤ l.b := fun l hl => .inr (by have := b9 l hl; have := xq.size; omega)
      have hne10 : ∀ l, s9.a = some l → l.b ≠ h1.size := fun l hl => by have := b9 l hl; have := v2q.lt; omega
      have v2r : Var 68 h10 h1.size It.zero.tv := (v2q.ext x79).only o10 (by omega)
      refine ⟨most, v10'.at1 rfl, If.dec.2 ⟨fun hlt => ?_, fun hge => ?_⟩⟩
      · exact ans h10 s9 (insIt x M) 1 It.zero v2r r10 oh10 nw10 hne10 (by unfold putS; rw [if_neg (by rw [hhas]; decide), if_neg hq, if_pos (by rw [hl]; exact hlt)])
      · obtain ⟨y, hy, hb⟩ : ∃ y, M.getLast? = some y ∧ bf x y = true := by
          rcases hroom with h | h
          · omega
          · exact h
        have hlast := insIt_last hy hb
        have hil := insIt_length x M
        have hdl : (insIt x M.dropLast).length = M.length := by
          have := congrArg List.length hlast
          rw [List.length_append, List.length_singleton] at this
          omega
        refine ⟨s9, v10'.at1 rfl, ?_⟩
        refine its_at (i := (A.len : Int)) r10.el (by omega) (by omega) fun l z _ hz => ?_
        have hzy : z = y := by
          rw [hlast, Int.toNat_natCast, ← hl, ← hdl, List.getElem?_append_right (Nat.le_refl _), Nat.sub_self] at hz
          injection hz with hz
          exact hz.symm
        subst hzy
        refine newTV_in fun h11 v11 x11 s11 => put_in (t0 := It.zero.tv) (t := z.tv) v11 (zero_sz z) fun h12 v12 o12 s12 => ?_
        have x1012 : Ext h10 h12 := Only.cut x11 o12 fun j hj => by omega
        have r12 := r10.ext x1012
        have hcap := r12.cap
        have hlen9 := r12.len
        refine ⟨s9, r12.var.at1 rfl, by omega, by omega, by omega, Int.le_refl _, ?_⟩
        have hcut2 := cut67 (i := 0) (j := A.len) r12.el (Nat.zero_le _) (by omega) A.len (Nat.le_refl _)
        rw [List.drop_zero, Nat.sub_zero, ← List.map_take, hlast, ← hl, ← hdl, List.take_left] at hcut2
        rw [hdl, hl] at hcut2
        refine field_in (i := 0) (t := .slice (cutSl (Sl.mk s9.a s9.len A.len) 0 A.len 67)) (t0 := .slice s9) r12.var rfl rfl rfl rfl fun h13 v13' (o13 : Only (· = m) h12 h13) s13 => ?_
        have hca : ∀ l, (cutSl (Sl.mk s9.a s9.len A.len) 0 A.len 67).a = some l → ∃ l', s9.a = some l' ∧ l'.b = l.b := fun l hl' => by
          unfold cutSl at hl'
          simp only at hl'
          split at hl'
          · exact ⟨l, hl', rfl⟩
          · cases hs : s9.a with
            | none => rw [hs] at hl'; simp at hl'
            | some l0 =>
              rw [hs] at hl'
              simp only [Option.map_some, Option.some.injEq] at hl'
              subst hl'
              exact ⟨l0, rfl, rfl⟩
        have m1 : ∀ l, (cutSl (Sl.mk s9.a s9.len A.len) 0 A.len 67).a = some l → l.b ≠ m := fun l hl' => by
          obtain ⟨l', h8, h9'⟩ := hca l hl'
          rw [← h9']; exact m0 l' h8
        have r13 : RL h13 m (cutSl (Sl.mk s9.a s9.len A.len) 0 A.len 67) (insIt x M.dropLast) most quota := ⟨v13', hcut2.only o13 m1, by simp [cutSl], m1, fun l hl' => by
          obtain ⟨l', h8, h9'⟩ := hca l hl'
          have := r12.low l' h8
          omega, by rw [hdl]; omega⟩
        have hmlt : m < h10.size := v10'.lt
        have vy13 : Var 68 h13 h10.size z.tv := v12.only o13 (by omega)
        have v2r13 : Var 68 h13 h1.size It.zero.tv := (v2r.ext x1012).only o13 (by omega)
        refine v_it (x := z) vy13 (ans h13 _ (insIt x M.dropLast) 2 z v2r13 r13 (oh10.trans ((Only.of_ext x1012).trans o13)) (fun l hl' => ?_) (fun l hl' => ?_) ?_)
        · obtain ⟨l', h8, h9'⟩ := hca l hl'
          rcases nw10 l' h8 with ⟨l3, h3, h4⟩ | h3
          · exact .inl ⟨l3, h3, by rw [h4, h9']⟩
          · exact .inr (by rw [← h9']; exact h3)
        · obtain ⟨l', h8, h9'⟩ := hca l hl'
          rw [← h9']; exact hne10 l' h8
        · unfold putS
          rw [if_neg (by rw [hhas]; decide), if_neg hq, if_neg (by rw [hl]; exact hge), hy]
          simp [hb]
  refine ⟨most, r4.var.at1 rfl, If.dec.2 ⟨fun hfull => ?_, fun hroom => key h4 (Ext.refl _) (.inl (by omega))⟩⟩
  have hSlen : (M.length : Int) = most := by omega
  refine v_it (x := x) v14 ⟨A, r4.var.at1 rfl, ?_⟩
  rw [wrap_i64 (n := (A.len : Int) - 1) (by omega) (by have := r.few; omega)]
  refine its_at r4.el (by omega) (by omega) fun l y _ hy => rbefore_spec (x := x) (y := y) fun h5 x5 => ⟨_, rfl, ?_⟩
  have hlast : M.getLast? = some y := by
    rw [List.getLast?_eq_getElem?, ← hy]
    congr 1
    omega
  cases hb : bf x y with
  | true => exact If.no (key h5 x5 (.inr ⟨y, hlast, hb⟩))
  | false =>
    refine If.yes (ans h5 A M 12 It.zero (v24.ext x5) (r4.ext x5) (ofx _ (x14.trans x5)) same neA ?_)
    unfold putS
    rw [if_neg (by rw [hhas]; decide), if_neg hq, if_neg (by omega), hlast]
    simp [hb]

end
end Go.Proofs.Ytjadpjbiiidioaa.Pool
