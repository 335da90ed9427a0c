/- PoolPeers. -/
import Derived.Test.YtjadpjbiiidioaaPoolJ
namespace Go.Proofs.Ytjadpjbiiidioaa.Pool
open Go Go.Vc

def intTV (n : Int) : TV := .int .i64 n
def strip (x : It) : It := { x with peer := 0 }

section
variable {R : Value → Heap → Prop} {h h0 : Heap} {b b1 b2 : Nat} {A A1 A2 : Sl} {L S S1 S2 : List It} {most quota m1 q1 m2 q2 : Int}

theorem ints_at {s : Sl} {P : List Int} {i : Int} (e : Elems 1 h s (P.map intTV)) (i0 : 0 ≤ i) (i1 : i < P.length) {K : Int → Prop} (hk : ∀ n, P[i.toNat]? = some n → K n) :
    0 ≤ i ∧ i < (s.len : Int) ∧ Nn s.a fun (l : Vc.Loc) => ∃ (n : Int), at1 h l.b (l.o + i.toNat * 1) (.int .i64 n) ∧ K n := by
  have hl := e.len
  rw [List.length_map] at hl
  refine e.read i0 (by omega) fun l t hla ht ha => ?_
  rw [List.getElem?_map] at ht
  obtain ⟨x, hx, rfl⟩ := Option.map_eq_some_iff.1 ht
  exact ⟨x, ha, hk x hx⟩

theorem bytes3 : (ctx.ti 3).bytes = 8 := by kernel_rfl
theorem size3 : (ctx.ti 3).size = 1 := by kernel_rfl
theorem zsize3 : (ctx.ti 3).z.size = 1 := by kernel_rfl

theorem app3 {s : Sl} {P : List Int} {n : Int} {K : Sl → Heap → Prop} (o : Own 3 1 h s (P.map intTV)) (hl : P.length < 1000)
    (hk : ∀ s' h', Own 3 1 h' s' ((P ++ [n]).map intTV) → Only (In s) h h' → (∀ l, s'.a = some l → (∃ l', s.a = some l' ∧ l'.b = l.b) ∨ h.size ≤ l.b) → K s' h') :
    ∃ new, slAt (h.push (row (TVs.cells [.int .i64 n]) 3)) (Sl.mk (some (Vc.Loc.mk h.size 0)) 1 1) 1 new ∧ (∀ v ∈ new, isOne v = true) ∧ vcAppend ctx 3 s 1 new (h.push (row (TVs.cells [.int .i64 n]) 3)) K := by
  have ol := o.len
  rw [List.length_map] at ol
  refine append1 (C := ctx) (T := 3) (sz := 1) (x := .int .i64 n) size3 zsize3 (by rw [bytes3]; decide) (by rw [bytes3]; omega) o rfl rfl fun s' h4 o4 f4 b4 => hk s' h4 ?_ f4 b4
  simpa [intTV] using o4

/-! ### Whose they are plays no part -/

theorem ins_strip (x : It) : ∀ S : List It, insIt (strip x) (S.map strip) = (insIt x S).map strip
  | [] => rfl
  | y :: ys => by
    have ih := ins_strip x ys
    simp only [List.map_cons, insIt]
    have : bf (strip x) (strip y) = bf x y := rfl
    rw [this]
    split
    · rfl
    · rw [ih]; rfl

theorem has_strip (r : Bs 32) (S : List It) : has r (S.map strip) = has r S := by
  unfold has
  rw [List.any_map]
  rfl

theorem putS_strip (x : It) (hl : S.length < 64) : (putS most 64 (strip x) (S.map strip)).2.2 = ((putS most 64 x S).2.2).map strip := by
  have c1 : cnt x.peer S ≤ S.length := List.countP_le_length
  have c2 : cnt (strip x).peer (S.map strip) ≤ (S.map strip).length := List.countP_le_length
  rw [List.length_map] at c2
  have n1 : ¬ (64 : Int) ≤ (cnt (strip x).peer (S.map strip) : Int) := by omega
  have n2 : ¬ (64 : Int) ≤ (cnt x.peer S : Int) := by omega
  unfold putS
  rw [show (strip x).root = x.root from rfl, has_strip, List.length_map, List.getLast?_map]
  by_cases hh : has x.root S = true
  · rw [if_pos hh, if_pos hh]
  · rw [if_neg hh, if_neg hh, if_neg n1, if_neg n2]
    by_cases hm : (S.length : Int) < most
    · rw [if_pos hm, if_pos hm]
      exact ins_strip x S
    · rw [if_neg hm, if_neg hm]
      cases hy : S.getLast? with
      | none => rfl
      | some y =>
        simp only [Option.map_some]
        have : bf (strip x) (strip y) = bf x y := rfl
        rw [this]
        by_cases hb : bf x y = true
        · rw [if_pos hb, if_pos hb]
          show insIt (strip x) (S.map strip).dropLast = _
          rw [← List.map_dropLast, ins_strip]
        · rw [if_neg hb, if_neg hb]

theorem putS_mem {x y : It} (hy : y ∈ (putS most quota x S).2.2) : y = x ∨ y ∈ S := by
  unfold putS at hy
  split at hy
  · exact .inr hy
  · split at hy
    · exact .inr hy
    · split at hy
      · exact List.mem_cons.1 ((insIt_perm x S).mem_iff.1 hy)
      · split at hy
        · exact .inr hy
        · split at hy
          · rcases List.mem_cons.1 ((insIt_perm x _).mem_iff.1 hy) with h9 | h9
            · exact .inl h9
            · exact .inr (List.dropLast_sublist _ |>.mem h9)
          · exact .inr hy

theorem putS_len {x : It} : (putS most quota x S).2.2.length ≤ S.length + 1 := by
  unfold putS
  split
  · simp
  · split
    · simp
    · split
      · rw [(insIt_perm x S).length_eq]; simp
      · split
        · simp
        · split
          · rw [(insIt_perm x _).length_eq, List.length_cons, List.length_dropLast]; omega
          · simp

def tot (P : List Int) (S : List It) : Nat := (P.map fun k => cnt k S).sum

theorem ind_sum (k : Int) : ∀ P : List Int, P.Nodup → k ∈ P → (P.map fun j => if k = j then 1 else 0).sum = 1
  | [], _, h => by cases h
  | j :: P, hn, hk => by
    have hn' := List.nodup_cons.1 hn
    simp only [List.map_cons, List.sum_cons]
    by_cases e : k = j
    · rw [if_pos e]
      have : ∀ Q : List Int, k ∉ Q → (Q.map fun j => if k = j then 1 else 0).sum = 0 := by
        intro Q
        induction Q with
        | nil => intro _; rfl
        | cons q Q ih =>
          intro hq
          rw [List.mem_cons, not_or] at hq
          simp only [List.map_cons, List.sum_cons, if_neg hq.1, ih hq.2]
      rw [this P (by rw [e]; exact hn'.1)]
    · rw [if_neg e, ind_sum k P hn'.2 (by
        rcases List.mem_cons.1 hk with h9 | h9
        · exact absurd h9 e
        · exact h9)]

theorem tot_all {P : List Int} (hn : P.Nodup) : ∀ S : List It, (∀ x ∈ S, x.peer ∈ P) → tot P S = S.length
  | [], _ => by
    unfold tot cnt
    have : ∀ Q : List Int, (Q.map fun k => List.countP (fun x : It => decide (x.peer = k)) []).sum = 0 := by
      intro Q
      induction Q with
      | nil => rfl
      | cons q Q ih => simp only [List.map_cons, List.sum_cons, ih]; rfl
    exact this P
  | x :: S, h => by
    have ih := tot_all hn S (fun y hy => h y (List.mem_cons_of_mem _ hy))
    have hx := ind_sum x.peer P hn (h x (List.mem_cons_self ..))
    unfold tot at ih ⊢
    have : ∀ Q : List Int, (Q.map fun k => cnt k (x :: S)).sum = (Q.map fun k => cnt k S).sum + (Q.map fun j => if x.peer = j then 1 else 0).sum := by
      intro Q
      induction Q with
      | nil => rfl
      | cons q Q ih2 =>
        simp only [List.map_cons, List.sum_cons, ih2]
        have : cnt q (x :: S) = cnt q S + if x.peer = q then 1 else 0 := by
          unfold cnt
          rw [List.countP_cons]
          simp
        rw [this]
        omega
    rw [this, ih, hx, List.length_cons]

/-! ### The peers' numbers in memory -/

structure Nums (h0 h : Heap) (b1 b2 : Nat) (A1 A2 : Sl) (pe : Sl) (P : List Int) : Prop where
  own : Own 3 1 h pe (P.map intTV)
  fresh : ∀ q, pe.a = some q → h0.size ≤ q.b
  no1 : ∀ q, pe.a = some q → ¬ Mine b1 A1 q.b
  no2 : ∀ q, pe.a = some q → ¬ Mine b2 A2 q.b

theorem Nums.ext {h' : Heap} {pe : Sl} {P : List Int} (n : Nums h0 h b1 b2 A1 A2 pe P) (x : Ext h h') : Nums h0 h' b1 b2 A1 A2 pe P := ⟨n.own.ext x, n.fresh, n.no1, n.no2⟩
theorem Nums.symm {pe : Sl} {P : List Int} (n : Nums h0 h b1 b2 A1 A2 pe P) : Nums h0 h b2 b1 A2 A1 pe P := ⟨n.own, n.fresh, n.no2, n.no1⟩
theorem Nums.after {h' : Heap} {A' : Sl} {pe : Sl} {P : List Int} (n : Nums h0 h b1 b2 A1 A2 pe P) (g : Grown b1 A1 h A' h') : Nums h0 h' b1 b2 A' A2 pe P := by
  refine ⟨n.own.only g.only n.no1, n.fresh, fun q hq hm => ?_, n.no2⟩
  rcases g.new _ hm with h9 | h9
  · exact n.no1 q hq h9
  · have := n.own.lt q hq
    omega

theorem poolPeers_whole {s : Sl} {l : List Cl} (i : Elems 5 h s (cls l) ∧ ∀ c ∈ l, c.fit) (hr : ∀ h', Ext h h' → R (TV.bool true).val h') :
    CallsH Try.prog 5 (TVs.vals [.int .i64 most, .slice s]) h R := by
  obtain ⟨e, _⟩ := i
  apply tollerlaw15_PoolPeers_calls
  unfold tollerlaw15_PoolPeers_vc
  have hel := e.len
  rw [List.length_map] at hel
  refine alive_spec fun h1 x1 => ⟨_, rfl, If.no ?_⟩
  intro J hJ
  refine great_spec (e.ext x1) fun h2 x2 => ⟨_, rfl, ?_⟩
  have x12 := x1.trans x2
  cases hg : greatB l with
  | true => exact If.yes (hr _ x12)
  | false =>
  refine If.no (If.dec.2 ⟨fun _ => hr _ x12, fun h60 => hJ _ _ ?_⟩)
  have bad : ∀ hh, Ext h2 hh → ¬ (1 ≤ most ∧ most ≤ 64 ∧ (1 : Int) ≤ 64 ∧ (64 : Int) ≤ 64) → If (decide (most < 1)) (R (TV.bool true).val hh) (R (TV.bool (decide (64 < most))).val hh) := by
    intro hh xx hn
    refine If.dec.2 ⟨fun _ => hr _ (x12.trans xx), fun h9 => ?_⟩
    rw [decide_eq_true (show 64 < most by omega)]
    exact hr _ (x12.trans xx)
  by_cases hq : 1 ≤ most ∧ most ≤ 64 ∧ (1 : Int) ≤ 64 ∧ (64 : Int) ≤ 64
  case neg =>
    refine new_spec (fun hx => ⟨_, rfl, ?_⟩) fun hx => absurd hx hq
    refine new_spec (fun hx => ⟨_, rfl, ?_⟩) fun hx => absurd hx hq
    intro J2 hJ2
    exact If.yes (bad _ (Ext.refl _) hq)
  refine new_spec (fun hx => absurd hq hx) fun _ h3 p3 x3 s3 => ⟨_, rfl, ?_⟩
  refine new_spec (fun hx => absurd hq hx) fun _ h4 p4 x4 s4 => ⟨_, rfl, ?_⟩
  have t4 := Two.new hq hq p3 x3 s3 p4 x4
  intro J2 hJ2
  refine If.no (If.no (hJ2 _ _ ?_))
  have e2 := e.ext x12
  refine ⟨fun s hh => 0 ≤ s.2 ∧ s.2 ≤ l.length ∧ ∃ A1 A2 S P, Two h2 hh h2.size h3.size most 64 most 64 A1 A2 S (S.map strip) ∧ S.length ≤ s.2.toNat ∧ Nums h2 hh h2.size h3.size A1 A2 s.1 P ∧ P.Nodup ∧ P.length ≤ s.2.toNat ∧ (∀ x ∈ S, x.peer ∈ P), fun s _ => ((l.length : Int) - s.2).toNat,
    ⟨Int.le_refl _, Int.natCast_nonneg _, _, _, [], [], t4, Nat.le_refl _, ⟨Own.nil 3 1 h4, fun q hq => (by cases hq), fun q hq => (by cases hq), fun q hq => (by cases hq)⟩, List.nodup_nil, Nat.le_refl _, fun x hx => (by cases hx)⟩, ?_⟩
  rintro ⟨pe, i⟩ hh ⟨i0, i1, A1, A2, S, P, tw, lS, nP, dP, lP, cov⟩
  simp only at i0 i1 lS nP lP ⊢
  have few := tw.one.p.few
  refine If.dec.2 ⟨fun hi => ?_, fun hi => ?_⟩
  · refine cls_at (e2.ext tw.one.ext) i0 (by omega) fun p c _ hc => ?_
    refine newTV_in fun h5 v5 x5 s5 => put_in v5 (t := c.tv) rfl fun h6 v6 o6 s6 => ?_
    have x56 : Ext hh h6 := Only.cut x5 o6 fun j hj => by omega
    have hlt1 : ∀ i, Mine h2.size A1 i → i < hh.size := fun i hi => tw.one.p.lt hi
    have hlt2 : ∀ i, Mine h3.size A2 i → i < hh.size := fun i hi => tw.two.p.lt hi
    refine v_cl (x := c) v6 ?_
    refine item_spec c fun h7 x7 => ⟨_, _, _, _, _, rfl, ?_⟩
    have t7 := tw.step (x56.trans x7)
    have n7 := nP.ext (x56.trans x7)
    refine put1_spec t7 hq c.item fun h8 A8 t8 g8 => ⟨_, _, _, _, _, _, rfl, ?_⟩
    have n8 := n7.after g8
    have v8 : Var 36 h8 hh.size c.tv := (v6.ext x7).only g8.only (fun hm => by have := hlt1 _ hm; omega)
    refine v_cl (x := c) v8 ?_
    refine item_spec c fun h9 x9 => ⟨_, _, _, _, _, rfl, ?_⟩
    refine newTV_in fun h10 v10 x10 s10 => put_in v10 (t := c.item.tv) rfl fun h11 v11 o11 s11 => ?_
    refine field_in (i := 2) (t0 := .int .i64 c.item.peer) v11 rfl rfl rfl rfl fun h12 v12 o12 s12 => ?_
    have x912 : Ext h9 h12 := Only.cut x10 (o11.trans o12) fun j hj => by omega
    have v12' : Var 32 h12 h9.size (strip c.item).tv := v12
    refine v_it (x := strip c.item) v12' ?_
    refine put2_spec (t8.step (x9.trans x912)) hq (strip c.item) fun h13 A13 t13 g13 => ⟨_, _, _, _, _, _, rfl, ?_⟩
    rw [putS_strip c.item (by omega)] at t13
    have n13 : Nums h2 h13 h2.size h3.size A8 A13 pe P := ((n8.ext (x9.trans x912)).symm.after g13).symm
    have s56 := x56.size
    have s77 := x7.size
    have s88 := g8.only.size
    have v13 : Var 36 h13 hh.size c.tv := (v8.ext (x9.trans x912)).only g13.only (fun hm => by have := hlt2 _ hm; omega)
    have nl := n13.own.len
    rw [List.length_map] at nl
    have hi1 : (i + 1).toNat = i.toNat + 1 := by omega
    have lS' : ((putS most 64 c.item S).2.2).length ≤ i.toNat + 1 := Nat.le_trans putS_len (by omega)
    refine ⟨fun s hz => 0 ≤ s.2 ∧ s.2 ≤ P.length ∧ hz = h13 ∧ s.1 = (P.take s.2.toNat).any (fun n => decide (n = c.peer)), fun s _ => ((P.length : Int) - s.2).toNat, ⟨Int.le_refl _, Int.natCast_nonneg _, rfl, rfl⟩, ?_⟩
    rintro ⟨seen, j⟩ hz ⟨j0, j1, rfl, hs⟩
    simp only at j0 j1 hs ⊢
    refine If.dec.2 ⟨fun hj => ?_, fun hj => ?_⟩
    · refine ints_at n13.own.elems j0 (by omega) fun n hn => ?_
      have hj1 : (j + 1).toNat = j.toNat + 1 := by omega
      rw [wrap_i64 (n := j + 1) (by omega) (by omega)]
      have hs' : (P.take (j + 1).toNat).any (fun n => decide (n = c.peer)) = (seen || decide (n = c.peer)) := by
        rw [hj1, List.take_add_one, hn, List.any_append, ← hs]
        simp
      cases seen with
      | true => exact If.yes ⟨⟨by omega, by omega, by trivial, by rw [hs']; rfl⟩, by first | omega | (dsimp only; omega)⟩
      | false => exact If.no ⟨c.peer, v13.at1 rfl, ⟨by omega, by omega, by trivial, by rw [hs']; rfl⟩, by first | omega | (dsimp only; omega)⟩
    · have hj2 : j.toNat = P.length := by omega
      rw [hj2, List.take_length] at hs
      have cov1 : ∀ x ∈ (putS most 64 c.item S).2.2, x = c.item ∨ x.peer ∈ P := fun x hx => by
        rcases putS_mem hx with h9 | h9
        · exact .inl h9
        · exact .inr (cov x h9)
      rw [wrap_i64 (n := i + 1) (by omega) (by omega)]
      cases seen with
      | true =>
        refine If.no ?_
        have hin : c.peer ∈ P := by
          obtain ⟨n, hn, en⟩ := List.any_eq_true.1 hs.symm
          rw [decide_eq_true_eq] at en
          rw [← en]; exact hn
        refine ⟨⟨by omega, by omega, _, _, _, P, t13, by omega, n13, dP, by omega, fun x hx => ?_⟩, by first | omega | (dsimp only; omega)⟩
        rcases cov1 x hx with h9 | h9
        · rw [h9]; exact hin
        · exact h9
      | false =>
        refine If.yes ⟨c.peer, v13.at1 rfl, ?_⟩
        have hout : c.peer ∉ P := fun hin => by
          have := List.any_eq_false.1 hs.symm c.peer hin
          simp at this
        refine app3 n13.own (by omega) fun s14 h14 o14 f14 b14 => ?_
        have f2 : ∀ j, In pe j → h2.size ≤ j := fun j ⟨q, hq, e⟩ => by have := n13.fresh q hq; omega
        have ext14 : Ext h2 h14 := Only.cut t13.one.ext f14 f2
        have t14 : Two h2 h14 h2.size h3.size most 64 most 64 A8 A13 (putS most 64 c.item S).2.2 ((putS most 64 c.item S).2.2.map strip) :=
          ⟨⟨t13.one.p.only f14 (fun j hj ⟨q, hq, e⟩ => n13.no1 q hq (e ▸ hj)), t13.one.ok, t13.one.mine, ext14⟩, ⟨t13.two.p.only f14 (fun j hj ⟨q, hq, e⟩ => n13.no2 q hq (e ▸ hj)), t13.two.ok, t13.two.mine, ext14⟩, t13.dj⟩
        have s213 := t13.one.ext.size
        refine ⟨⟨by omega, by omega, _, _, _, P ++ [c.peer], t14, by omega, ⟨o14, fun q hq => ?_, fun q hq hm => ?_, fun q hq hm => ?_⟩, ?_, by rw [List.length_append, List.length_singleton]; omega, fun x hx => ?_⟩, by first | omega | (dsimp only; omega)⟩
        · rcases b14 q hq with ⟨q', h9, h10⟩ | h9
          · have := n13.fresh q' h9
            omega
          · omega
        · rcases b14 q hq with ⟨q', h9, h10⟩ | h9
          · exact n13.no1 q' h9 (h10 ▸ hm)
          · have := t13.one.p.lt hm
            omega
        · rcases b14 q hq with ⟨q', h9, h10⟩ | h9
          · exact n13.no2 q' h9 (h10 ▸ hm)
          · have := t13.two.p.lt hm
            omega
        · refine List.nodup_append.2 ⟨dP, by simp, fun a ha b hb => ?_⟩
          rw [List.mem_singleton.1 hb]
          exact fun e => hout (e ▸ ha)
        · rcases cov1 x hx with h9 | h9
          · rw [h9]; exact List.mem_append.2 (.inr (List.mem_singleton.2 rfl))
          · exact List.mem_append.2 (.inl h9)
  · have hi2 : i.toNat = l.length := by omega
    have nl := nP.own.len
    rw [List.length_map] at nl
    refine ⟨fun s hz => 0 ≤ s.2 ∧ s.2 ≤ P.length ∧ Ext hh hz ∧ s.1 = (tot (P.take s.2.toNat) S : Int), fun s _ => ((P.length : Int) - s.2).toNat, ⟨Int.le_refl _, Int.natCast_nonneg _, Ext.refl _, rfl⟩, ?_⟩
    rintro ⟨n, j⟩ hz ⟨j0, j1, xz, hn⟩
    simp only at j0 j1 hn ⊢
    have tz := tw.step xz
    refine If.dec.2 ⟨fun hj => ?_, fun hj => ?_⟩
    · refine ints_at (nP.own.ext xz).elems j0 (by omega) fun k hk => ?_
      refine of_spec tz.one.p fun h5 x5 => ⟨_, rfl, ?_⟩
      have hj1 : (j + 1).toNat = j.toNat + 1 := by omega
      have htot : tot (P.take (j + 1).toNat) S = tot (P.take j.toNat) S + cnt k S := by
        unfold tot
        rw [hj1, List.take_add_one, hk]
        simp
      have hc : cnt k S ≤ S.length := List.countP_le_length
      have hle : tot (P.take j.toNat) S ≤ (P.take j.toNat).length * S.length := by
        unfold tot
        have : ∀ Q : List Int, (Q.map fun k => cnt k S).sum ≤ Q.length * S.length := by
          intro Q
          induction Q with
          | nil => simp
          | cons q Q ih =>
            simp only [List.map_cons, List.sum_cons, List.length_cons, Nat.succ_mul]
            have : cnt q S ≤ S.length := List.countP_le_length
            omega
        exact this _
      have hle2 : (P.take j.toNat).length * S.length ≤ 60 * 60 := Nat.mul_le_mul (by rw [List.length_take]; omega) (by omega)
      rw [wrap_i64 (n := j + 1) (by omega) (by omega), wrap_i64 (n := n + (cnt k S : Int)) (by omega) (by omega)]
      exact ⟨⟨by omega, by omega, xz.trans x5, by rw [htot]; omega⟩, by first | omega | (dsimp only; omega)⟩
    · have hj2 : j.toNat = P.length := by omega
      rw [hj2, List.take_length, tot_all dP S cov] at hn
      refine all_spec tz.one.p fun h5 s5 o5 x5 _ => ⟨s5, rfl, ?_⟩
      have t5 := tz.step x5
      refine all_spec t5.two.p fun h6 s6 o6 x6 _ => ⟨s6, rfl, ?_⟩
      have t6 := t5.step x6
      have l5 := o5.len
      have l6 := o6.len
      rw [List.length_map] at l5 l6
      rw [List.length_map] at l6
      intro J3 hJ3
      refine If.split (fun hne => ?_) (fun _ => ?_)
      · simp at hne
        omega
      refine If.split (fun hne => ?_) (fun _ => ?_)
      · simp at hne
        omega
      refine hJ3 _ _ ?_
      refine ⟨fun s hy => 0 ≤ s.2 ∧ s.2 ≤ S.length ∧ hy = h6, fun s _ => ((S.length : Int) - s.2).toNat, ⟨Int.le_refl _, Int.natCast_nonneg _, rfl⟩, ?_⟩
      rintro ⟨u0, k⟩ hy ⟨k0, k1, rfl⟩
      simp only at k0 k1 ⊢
      refine If.dec.2 ⟨fun hk => ?_, fun hk => ?_⟩
      · refine its_root (o5.ext x6).elems k0 (by omega) fun x hx => its_root o6.elems k0 (by rw [List.length_map]; omega) fun y hy => ?_
        rw [List.getElem?_map, hx] at hy
        simp only [Option.map_some, Option.some.injEq] at hy
        subst hy
        rw [decide_eq_true (show x.root.1 = (strip x).root.1 from rfl)]
        refine If.no ?_
        rw [wrap_i64 (n := k + 1) (by omega) (by omega)]
        exact ⟨⟨by omega, by omega, by trivial⟩, by first | omega | (dsimp only; omega)⟩
      · refine of_spec t6.two.p fun h7 x7 => ⟨_, rfl, ?_⟩
        have hcnt : cnt 0 (S.map strip) = S.length := by
          unfold cnt
          rw [List.countP_map, List.countP_eq_length.2 (fun x _ => by simp [strip])]
        rw [hcnt, decide_eq_true (by omega)]
        exact hr _ (x12.trans (t6.one.ext.trans x7))

end
end Go.Proofs.Ytjadpjbiiidioaa.Pool
