/- What a pool's functions do: Has, Of, Len, New, Put. -/
import Derived.Test.YtjadpjbiiidioaaPoolD
namespace Go.Proofs.Ytjadpjbiiidioaa.Pool
open Go Go.Vc
section
variable {R : Value → Heap → Prop} {h : Heap} {b : Nat} {A : Sl} {L S : List It} {most quota : Int}

theorem nn_some {α : Type} {K : α → Prop} {x : α} (h : K x) : Nn (some x) K := h

/-! ### What is told of a row in order -/

def has (r : Bs 32) (S : List It) : Bool := S.any fun x => decide (x.root = r)
def cnt (k : Int) (S : List It) : Nat := S.countP fun x => decide (x.peer = k)

/-- What Put answers, who gives way, and the items behind it. -/
def putS (most quota : Int) (x : It) (S : List It) : Int × It × List It :=
  if has x.root S = true then (9, It.zero, S)
  else if quota ≤ (cnt x.peer S : Int) then (11, It.zero, S)
  else if (S.length : Int) < most then (1, It.zero, insIt x S)
  else match S.getLast? with
    | none => (12, It.zero, S)
    | some y => if bf x y = true then (2, y, insIt x S.dropLast) else (12, It.zero, S)

/-! ### A function value that tells of an item -/

structure Tells (h : Heap) (f : One) (pred : It → Bool) : Prop where
  ex : ∃ g first cap, f.v = .func (.func g) first cap ∧ EntP Try.prog g ∧
    ∀ h' x (R' : Value → Heap → Prop), Ext h h' → (∀ h'', Ext h' h'' → R' (TV.bool (pred x)).val h'') → CallsH Try.prog g (List.append (List.append first.toList (TVs.vals [x.tv])) cap.toList) h' R'

theorem Tells.ext {h' : Heap} {f : One} {pred : It → Bool} (t : Tells h f pred) (x : Ext h h') : Tells h' f pred := by
  obtain ⟨g, first, cap, h1, h2, h3⟩ := t.ex
  exact ⟨g, first, cap, h1, h2, fun h'' y R' x' => h3 h'' y R' (x.trans x')⟩

theorem index_spec {s : Sl} {f : One} {pred : It → Bool} (e : Elems 67 h s (its L)) (hl : L.length < 1000) (t : Tells h f pred)
    (hr : ∀ h' n, Ext h h' → decide (0 ≤ n) = L.any pred → R (TV.int .i64 n).val h') : CallsH Try.prog 48 (TVs.vals [.slice s, .one f]) h R := by
  apply slices_IndexFunc_pool_last_pool_Item__calls
  unfold slices_IndexFunc_pool_last_pool_Item__vc
  have hel := e.len
  rw [List.length_map] at hel
  refine ⟨fun s hh => 0 ≤ s.2 ∧ s.2 ≤ L.length ∧ Ext h hh ∧ (L.take s.2.toNat).any pred = false, fun s _ => ((L.length : Int) - s.2).toNat, ⟨Int.le_refl _, Int.natCast_nonneg _, Ext.refl _, rfl⟩, ?_⟩
  rintro ⟨x0, i⟩ hh ⟨i0, i1, x, ha⟩
  simp only at i0 i1 ha ⊢
  refine If.dec.2 ⟨fun hi => ?_, fun hi => ?_⟩
  · refine its_at (e.ext x) i0 (by omega) fun l y _ hy => ?_
    obtain ⟨g, first, cap, h1, h2, h3⟩ := t.ex
    refine ⟨g, first, cap, h1, h2, h3 hh y _ x fun h'' x'' => ⟨_, rfl, ?_⟩⟩
    have hi' : (i + 1).toNat = i.toNat + 1 := by omega
    cases hp : pred y with
    | true =>
      refine If.yes (hr _ _ (x.trans x'') ?_)
      rw [decide_eq_true i0]
      exact (List.any_eq_true.2 ⟨y, List.mem_of_getElem? hy, hp⟩).symm
    | false =>
      refine If.no ?_
      rw [wrap_i64 (n := i + 1) (by omega) (by omega)]
      refine ⟨⟨by omega, by omega, x.trans x'', ?_⟩, by first | omega | (dsimp only; omega)⟩
      rw [hi', List.take_add_one, hy, List.any_append, ha]
      simp [hp]
  · have : i.toNat = L.length := by omega
    rw [this, List.take_length] at ha
    refine hr _ _ x ?_
    rw [ha]
    rfl

theorem contains_spec {s : Sl} {f : One} {pred : It → Bool} (e : Elems 67 h s (its L)) (hl : L.length < 1000) (t : Tells h f pred)
    (hr : ∀ h', Ext h h' → R (TV.bool (L.any pred)).val h') : CallsH Try.prog 37 (TVs.vals [.slice s, .one f]) h R := by
  apply slices_ContainsFunc_pool_last_pool_Item__calls
  unfold slices_ContainsFunc_pool_last_pool_Item__vc
  refine index_spec e hl t fun h' n x hn => ⟨n, rfl, ?_⟩
  rw [hn]
  exact hr h' x

theorem has1_spec {x : It} {T : TypeId} {c : Nat} {r : Bs 32} (v : Var T h c (.bytes 32 r)) (hr : ∀ h', Ext h h' → R (TV.bool (decide (x.root = r))).val h') : CallsH Try.prog 38 (TVs.vals [x.tv, .ptr (some ⟨c, 0⟩)]) h R := by
  apply pool_Pool_Has_1_calls x.slot x.root x.peer x.fr x.text
  unfold pool_Pool_Has_1_vc
  refine newTV_in fun h1 v1 x1 s1 => ?_
  refine ⟨x.root, v_root (x := x) v1, r, (v.ext x1).bytes, ?_⟩
  have : decide (x.root.1 = r.1) = decide (x.root = r) := decide_eq_decide.2 ⟨fun e => Bs.ext' e, fun e => by rw [e]⟩
  rw [this]
  exact hr h1 x1

theorem has_spec (p : PL h b A S most quota) {r : Bs 32} (hr : ∀ h', Ext h h' → R (TV.bool (has r S)).val h') : CallsH Try.prog 18 (TVs.vals [.ptr (some ⟨b, 0⟩), .bytes 32 r]) h R := by
  apply pool_Pool_Has_calls
  unfold pool_Pool_Has_vc
  refine newTV_in fun h1 v1 x1 s1 => ?_
  obtain ⟨hs, hn, hf, L, H, hh, hp⟩ := p.ext x1
  refine If.yes ⟨A, H.var.at1 rfl, ?_⟩
  refine contains_spec (f := ⟨(TV.fn (.func 38) [] [.ptr (some ⟨h.size, 0⟩)]).val, rfl⟩) (pred := fun x => decide (x.root = r)) H.own.elems H.few ⟨38, #[], #[(TV.ptr (some ⟨h.size, 0⟩)).val], rfl, ctx_ok.entP (by kernel_rfl), fun h' x R' x' hr' => ?_⟩ fun h' x' => ⟨_, rfl, ?_⟩
  · exact has1_spec (x := x) (v1.ext x') hr'
  · have : L.any (fun x => decide (x.root = r)) = has r S := by
      unfold has
      cases h9 : S.any fun x => decide (x.root = r) with
      | true =>
        obtain ⟨x, hx, hx'⟩ := List.any_eq_true.1 h9
        exact List.any_eq_true.2 ⟨x, hp.mem_iff.2 hx, hx'⟩
      | false =>
        rw [List.any_eq_false] at h9 ⊢
        exact fun x hx => h9 x (hp.mem_iff.1 hx)
    rw [this]
    exact hr h' (x1.trans x')

theorem has_nil {r : Bs 32} (hr : ∀ h', Ext h h' → R (TV.bool false).val h') : CallsH Try.prog 18 (TVs.vals [.ptr none, .bytes 32 r]) h R := by
  apply pool_Pool_Has_calls
  unfold pool_Pool_Has_vc
  refine newTV_in fun h1 v1 x1 s1 => ?_
  exact If.no (hr h1 x1)

theorem lenP_spec (p : PL h b A S most quota) (hr : R (TV.int .i64 (S.length : Int)).val h) : CallsH Try.prog 21 (TVs.vals [.ptr (some ⟨b, 0⟩)]) h R := by
  apply pool_Pool_Len_calls
  unfold pool_Pool_Len_vc
  obtain ⟨hs, hn, hf, L, H, hh, hp⟩ := p
  refine If.no ⟨A, H.var.at1 rfl, len_spec ⟨_, rfl, ?_⟩⟩
  rw [← H.len, hp.length_eq]
  exact hr

theorem lenP_nil (hr : R (TV.int .i64 0).val h) : CallsH Try.prog 21 (TVs.vals [.ptr none]) h R := by
  apply pool_Pool_Len_calls
  exact If.yes hr

theorem cnt_take {i : Nat} {x : It} (k : Int) (hx : S[i]? = some x) : cnt k (S.take (i + 1)) = cnt k (S.take i) + if x.peer = k then 1 else 0 := by
  unfold cnt
  rw [List.take_add_one, hx, List.countP_append]
  simp [List.countP_cons]

theorem of_spec (p : PL h b A S most quota) {k : Int} (hr : ∀ h', Ext h h' → R (TV.int .i64 (cnt k S : Int)).val h') : CallsH Try.prog 20 (TVs.vals [.ptr (some ⟨b, 0⟩), .int .i64 k]) h R := by
  apply pool_Pool_Of_calls
  unfold pool_Pool_Of_vc
  have few := p.few
  refine all_spec p fun h1 s1 o1 x1 _ => ⟨s1, rfl, ?_⟩
  have hel := o1.len
  rw [List.length_map] at hel
  refine ⟨fun s hh => 0 ≤ s.2 ∧ s.2 ≤ S.length ∧ Ext h1 hh ∧ s.1 = (cnt k (S.take s.2.toNat) : Int), fun s _ => ((S.length : Int) - s.2).toNat, ⟨Int.le_refl _, Int.natCast_nonneg _, Ext.refl _, rfl⟩, ?_⟩
  rintro ⟨n, i⟩ hh ⟨i0, i1, x, hn⟩
  simp only at i0 i1 hn ⊢
  refine If.dec.2 ⟨fun hi => ?_, fun hi => ?_⟩
  · refine its_at (o1.elems.ext x) i0 (by omega) fun l y _ hy => ?_
    refine newTV_in fun h2 v2 x2 s2 => ?_
    refine put_in v2 (t := y.tv) rfl fun h3 v3 o3 s3 => ?_
    have x23 : Ext hh h3 := Only.cut x2 o3 fun j hj => by omega
    refine ⟨y.peer, v_peer v3, ?_⟩
    have hi' : (i + 1).toNat = i.toNat + 1 := by omega
    have hc := cnt_take k hy
    have hcl : cnt k (S.take i.toNat) ≤ S.length := by
      unfold cnt
      exact Nat.le_trans List.countP_le_length (by rw [List.length_take]; omega)
    rw [wrap_i64 (n := i + 1) (by omega) (by omega)]
    refine If.dec.2 ⟨fun he => ?_, fun he => ?_⟩
    · rw [if_pos he] at hc
      rw [wrap_i64 (n := n + 1) (by omega) (by omega)]
      exact ⟨⟨by omega, by omega, x.trans x23, by rw [hi', hc]; first | omega | (dsimp only; omega)⟩, by first | omega | (dsimp only; omega)⟩
    · rw [if_neg he] at hc
      exact ⟨⟨by omega, by omega, x.trans x23, by rw [hi', hc]; first | omega | (dsimp only; omega)⟩, by first | omega | (dsimp only; omega)⟩
  · have : i.toNat = S.length := by omega
    rw [this, List.take_length] at hn
    rw [hn]
    exact hr _ (x1.trans x)

theorem of_nil {k : Int} (hr : ∀ h', Ext h h' → R (TV.int .i64 0).val h') : CallsH Try.prog 20 (TVs.vals [.ptr none, .int .i64 k]) h R := by
  apply pool_Pool_Of_calls
  unfold pool_Pool_Of_vc
  refine all_nil ⟨_, rfl, ?_⟩
  refine ⟨fun s hh => s = (0, 0) ∧ hh = h, fun _ _ => 0, ⟨rfl, rfl⟩, ?_⟩
  rintro s hh ⟨rfl, rfl⟩
  exact If.no (hr _ (Ext.refl _))

/-- New: a pool without items. -/
theorem new_spec {q : Int} (hr0 : ¬ (1 ≤ most ∧ most ≤ 64 ∧ 1 ≤ q ∧ q ≤ 64) → R (TV.ptr none).val h)
    (hr1 : (1 ≤ most ∧ most ≤ 64 ∧ 1 ≤ q ∧ q ≤ 64) → ∀ h', PL h' h.size Sl.nil [] most q → Ext h h' → h'.size = h.size + 1 → R (TV.ptr (some ⟨h.size, 0⟩)).val h') : CallsH Try.prog 12 (TVs.vals [.int .i64 most, .int .i64 q]) h R := by
  apply pool_New_calls
  unfold pool_New_vc
  refine If.dec.2 ⟨fun h1 => hr0 (by omega), fun h1 => If.dec.2 ⟨fun h2 => hr0 (by omega), fun h2 => If.dec.2 ⟨fun h3 => hr0 (by omega), fun h3 => If.dec.2 ⟨fun h4 => hr0 (by omega), fun h4 => ?_⟩⟩⟩⟩
  refine newTV_in fun h1 v1 x1 s1 => hr1 (by omega) h1 ⟨List.Pairwise.nil, List.nodup_nil, by decide, [], ⟨v1, Own.nil 32 67 h1, fun ⟨l, hl, _⟩ => (by cases hl), by decide⟩, fun k _ hk => (by simp at hk), List.Perm.refl _⟩ x1 s1

/-! ### Put -/

theorem has_false {r : Bs 32} (h : has r S = false) : ∀ y ∈ S, r ≠ y.root := fun y hy e => by
  have := List.any_eq_false.1 h y hy
  simp [e] at this

theorem names_ins {x : It} (hn : (S.map It.root).Nodup) (h : has x.root S = false) : ((insIt x S).map It.root).Nodup := by
  have hp := (insIt_perm x S).map It.root
  rw [hp.nodup_iff, List.map_cons, List.nodup_cons]
  refine ⟨fun hm => ?_, hn⟩
  obtain ⟨y, hy, e⟩ := List.mem_map.1 hm
  exact has_false h y hy e.symm

theorem dropLast_facts {y : It} (hs : Srt S) (hn : (S.map It.root).Nodup) (hl : S.getLast? = some y) {x : It} (hx : has x.root S = false) :
    Srt S.dropLast ∧ (S.dropLast.map It.root).Nodup ∧ has x.root S.dropLast = false ∧ S.Perm (y :: S.dropLast) ∧ S.dropLast.length + 1 = S.length := by
  have hne : S ≠ [] := fun e => by rw [e] at hl; cases hl
  have hd := List.dropLast_concat_getLast hne
  have hy : S.getLast hne = y := by rw [List.getLast?_eq_some_getLast hne] at hl; exact Option.some.inj hl
  rw [hy] at hd
  have hsub : S.dropLast.Sublist S := List.dropLast_sublist S
  refine ⟨hs.sublist hsub, hn.sublist (hsub.map _), ?_, ?_, ?_⟩
  · refine List.any_eq_false.2 fun z hz => ?_
    have := has_false hx z (hsub.mem hz)
    simpa using fun e => this e.symm
  · have hp := List.perm_append_comm (l₁ := S.dropLast) (l₂ := [y])
    rw [hd] at hp
    exact hp
  · have := congrArg List.length hd
    simpa using this

theorem down_set {x : It} (hh : HeapFrom 0 L) : DownInv 0 (L.set 0 x) 0 := by
  have g : ∀ k, 0 < k → hget (L.set 0 x) k = hget L k := fun k hk => by
    unfold hget
    rw [List.getD_eq_getElem?_getD, List.getD_eq_getElem?_getD, List.getElem?_set_ne (by omega)]
  refine ⟨fun k hk hl hlo hne => ?_, fun k _ _ _ h0 => absurd h0 (by decide)⟩
  rw [List.length_set] at hl
  rw [g k hk, g _ (by omega)]
  exact hh k hk hl (Nat.zero_le _)

theorem set_perm {x y : It} {S' : List It} (h0 : 0 < L.length) (hy : hget L 0 = y) (hp : L.Perm (y :: S')) : (L.set 0 x).Perm (x :: S') := by
  cases L with
  | nil => simp at h0
  | cons z zs =>
    have : z = y := hy
    subst this
    exact (List.Perm.cons_inv hp).cons x

theorem put_spec (p : PL h b A S most quota) (x : It) (hm : 1 ≤ most) (hmm : most ≤ 64) (hlen : (S.length : Int) ≤ most)
    (hr : ∀ h' A', PL h' b A' (putS most quota x S).2.2 most quota → Grown b A h A' h' → R (TV.tup [.int .i64 (putS most quota x S).1, (putS most quota x S).2.1.tv]).val h') :
    CallsH Try.prog 13 (TVs.vals [.ptr (some ⟨b, 0⟩), x.tv]) h R := by
  apply pool_Pool_Put_calls (some ⟨b, 0⟩) x.slot x.root x.peer x.fr x.text
  unfold pool_Pool_Put_vc
  refine newTV_in fun h1 v1 x1 s1 => newTV_in fun h2 v2 x2 s2 => ?_
  have v1' := v1.ext x2
  have x12 := x1.trans x2
  have p2 := p.ext x12
  have hlt : ∀ i, Mine b A i → i < h.size := fun i hi => p.lt hi
  -- an answer without anything that gives way
  have plainR : ∀ (h3 : Heap) (A' : Sl) (v : Int) (S' : List It), Var 32 h3 h1.size It.zero.tv → PL h3 b A' S' most quota → Grown b A h A' h3 → (∀ i, Mine b A' i → i ≠ h1.size) → putS most quota x S = (v, It.zero, S') →
      wok h3 h1.size 0 67 ∧ Bind (TV.put h3 h1.size 0 It.zero.tv) fun (h : Heap) =>
        ∃ (n : Int), ∃ (c : Bs 32), ∃ (n1 : Int), ∃ (c1 : Bs 32), ∃ (s : List UInt8), (at1 h h1.size 0 (.int .i64 n) ∧ atBytes h h1.size 1 32 c ∧ at1 h h1.size 33 (.int .i64 n1) ∧ atBytes h h1.size 34 32 c1 ∧ at1 h h1.size 66 (.string (ByteArray.mk (List.toArray s)))) ∧
          R (TV.tup [.int .i64 v, .agg [.int .i64 n, .bytes 32 c, .int .i64 n1, .bytes 32 c1, .str s]]).val h := by
    intro h3 A' v S' v3 p3 g3 hne he
    refine put_in v3 (t := It.zero.tv) rfl fun h4 v4 o4 s4 => v_it (x := It.zero) v4 ?_
    have := hr h4 A' (by rw [he]; exact p3.only o4 hne) ⟨⟨Nat.le_trans g3.only.size o4.size, fun i hi hn => ?_⟩, g3.new⟩
    · rw [he] at this
      exact this
    · rw [o4.same i (by have := g3.only.size; omega) (by omega), g3.only.same i hi hn]
  have ne2 : ∀ i, Mine b A i → i ≠ h1.size := fun i hi => by have := hlt i hi; omega
  refine If.no ⟨x.root, v_root (x := x) v1', ?_⟩
  refine has_spec p2 fun h3 x3 => ⟨_, rfl, ?_⟩
  have x13 := x12.trans x3
  have p3 := p2.ext x3
  cases hhas : has x.root S with
  | true =>
    refine If.yes (plainR h3 A 9 S (v2.ext x3) p3 (.of_ext x13) ne2 ?_)
    unfold putS
    rw [if_pos hhas]
  | false =>
    obtain ⟨_, _, _, L3, H3, _, _⟩ := p3
    refine If.no ⟨x.peer, v_peer (x := x) (v1'.ext x3), quota, H3.var.at1 rfl, ?_⟩
    have p3 := p2.ext x3
    refine of_spec p3 fun h4 x4 => ⟨_, rfl, x4, ?_⟩
    have x14 := x13.trans x4
    have p4 := p3.ext x4
    refine If.dec.2 ⟨fun hq => ?_, fun hq => ?_⟩
    · refine plainR h4 A 11 S ((v2.ext x3).ext x4) p4 (.of_ext x14) ne2 ?_
      unfold putS
      rw [if_neg (by rw [hhas]; decide), if_pos hq]
    · obtain ⟨_, _, _, L4, H4, hh4, hp4⟩ := p4
      refine ⟨most, H4.var.at1 rfl, ?_⟩
      have p4 := p3.ext x4
      refine lenP_spec p4 ⟨_, rfl, Ext.refl _, ?_⟩
      have v1x : Var 32 h4 h.size x.tv := (v1'.ext x3).ext x4
      have v2x := (v2.ext x3).ext x4
      have hl4 := hp4.length_eq
      refine If.dec.2 ⟨fun hroom => ?_, fun hfull => ?_⟩
      · refine v_it (x := x) v1x ?_
        refine hpush_spec H4 hh4 (by have := p.few; omega) (v := ⟨.iface 66 (TV.ptr (some ⟨b, 0⟩)).val, rfl⟩) rfl x (u := ⟨.iface 32 x.tv.val, rfl⟩) rfl fun h5 A5 L5 H5 hp5 hh5 o5 n5 => ⟨rfl, ?_⟩
        have hpS : L5.Perm (insIt x S) := (hp5.trans ((hp4.append_right [x]).trans (List.perm_append_comm.trans (List.Perm.refl _)))).trans (insIt_perm x S).symm
        have p5 : PL h5 b A5 (insIt x S) most quota := ⟨insIt_srt p.srt (has_false hhas), names_ins p.names hhas, by rw [(insIt_perm x S).length_eq, List.length_cons]; have := p.few; omega, L5, H5, hh5, hpS⟩
        have hs4 := x14.size
        have new5 : ∀ i, Mine b A5 i → Mine b A i ∨ h4.size ≤ i := fun i hi => by
          rcases hi with e | hi
          · exact .inl (.inl e)
          · rcases n5 i hi with h9 | h9
            · exact .inl (.inr h9)
            · exact .inr h9
        have s2' := x3.size
        have s3' := x4.size
        refine plainR h5 A5 1 (insIt x S) (v2x.only o5 (fun hx => ne2 h1.size hx rfl)) p5 (Grown.trans (.of_ext x14) ⟨o5, new5⟩) (fun i hi => ?_) ?_
        · rcases new5 i hi with h9 | h9
          · exact ne2 i h9
          · omega
        · unfold putS
          rw [if_neg (by rw [hhas]; decide), if_neg hq, if_pos hroom]
      · have hSlen : (S.length : Int) = most := by omega
        have hL0 : 0 < L4.length := by omega
        have hlast := heap_last hh4 hp4 p.srt hL0
        have hA := H4.len
        refine v_it (x := x) v1x ⟨A, H4.var.at1 rfl, ?_⟩
        refine its_at (i := 0) H4.own.elems (by decide) (by omega) fun l y _ hy => ?_
        have ey : y = hget L4 0 := hget_eq hy
        refine before_spec (x := x) (y := y) fun h5 x5 => ⟨_, rfl, ?_⟩
        have x15 := x14.trans x5
        have p5 := p4.ext x5
        have H5 := H4.ext x5
        have hput : putS most quota x S = if bf x y = true then (2, y, insIt x S.dropLast) else (12, It.zero, S) := by
          unfold putS
          rw [if_neg (by rw [hhas]; decide), if_neg hq, if_neg hfull, hlast, ← ey]
        cases hb : bf x y with
        | false =>
          rw [hb] at hput
          exact If.yes (plainR h5 A 12 S (v2x.ext x5) p5 (.of_ext x15) ne2 hput)
        | true =>
          rw [hb, if_pos rfl] at hput
          refine If.no ⟨A, H5.var.at1 rfl, ?_⟩
          refine its_at (i := 0) H5.own.elems (by decide) (by omega) fun l2 y2 _ hy2 => ?_
          have ey2 : y2 = y := (hget_eq hy2).trans ey.symm
          subst ey2
          refine newTV_in fun h6 v6 x6 s6 => ?_
          refine put_in v6 (t := y2.tv) rfl fun h7 v7 o7 s7 => ?_
          have x57 : Ext h5 h7 := Only.cut x6 o7 fun j hj => by omega
          have H7 := H5.ext x57
          refine ⟨A, H7.var.at1 rfl, ?_⟩
          have v1y : Var 32 h7 h.size x.tv := (v1x.ext x5).ext x57
          refine v_it (x := x) v1y ?_
          refine H7.own.put_in (i := 0) (t := x.tv) (by decide) (by simp; omega) rfl rfl fun h8 o8 f8 s8 => ?_
          have H8 : HL h8 b A (L4.set 0 x) most quota := ⟨H7.var.only f8 H7.apart, by rw [its_set]; exact o8, H7.apart, by rw [List.length_set]; exact H7.few⟩
          refine nn_some ?_
          refine hfix_spec H8 (by rw [List.length_set]; exact hL0) (down_set hh4) (v := ⟨.iface 66 (TV.ptr (some ⟨b, 0⟩)).val, rfl⟩) rfl fun h9 L9 H9 hp9 hh9 o9 => ⟨rfl, ?_⟩
          have hlA : ∀ i, In A i → i < h.size := fun i hi => hlt i (.inr hi)
          have s15 := x15.size
          have s57 := x57.size
          have s24 := x3.size
          have s44 := x4.size
          have s55 := x5.size
          have v9 : Var 32 h9 h5.size y2.tv := (v7.only f8 (fun hx => by have := hlA _ hx; omega)).only o9 (fun hx => by have := hlA _ hx; omega)
          have v29 : Var 32 h9 h1.size It.zero.tv := (((v2x.ext x5).ext x57).only f8 (fun hx => by have := hlA _ hx; omega)).only o9 (fun hx => by have := hlA _ hx; omega)
          refine v_it (x := y2) v9 ?_
          refine put_in v29 (t := y2.tv) rfl fun h10 v10 o10 s10 => v_it (x := y2) v10 ?_
          have hlast' : S.getLast? = some y2 := by rw [hlast, ← ey]
          obtain ⟨d1, d2, d3, d4, d5⟩ := dropLast_facts p.srt p.names hlast' hhas
          have hpS : L9.Perm (insIt x S.dropLast) := (hp9.trans (set_perm hL0 ey.symm (hp4.trans d4))).trans (insIt_perm x S.dropLast).symm
          have p9 : PL h9 b A (insIt x S.dropLast) most quota := ⟨insIt_srt d1 (has_false d3), names_ins d2 d3, by rw [(insIt_perm x _).length_eq, List.length_cons]; have := p.few; omega, L9, H9, hh9, hpS⟩
          have g9 : Grown b A h A h9 := Grown.trans (.of_ext (x15.trans x57)) ⟨(f8.trans o9).mono fun i hi => .inr hi, fun i hi => .inl hi⟩
          have := hr h10 A (by rw [hput]; exact p9.only o10 ne2) ⟨⟨Nat.le_trans g9.only.size o10.size, fun i hi hn => ?_⟩, g9.new⟩
          · rw [hput] at this
            exact this
          · rw [o10.same i (by have := g9.only.size; omega) (by omega), g9.only.same i hi hn]

theorem put_nil (x : It) (hr : ∀ h', Ext h h' → R (TV.tup [.int .i64 12, It.zero.tv]).val h') : CallsH Try.prog 13 (TVs.vals [.ptr none, x.tv]) h R := by
  apply pool_Pool_Put_calls none x.slot x.root x.peer x.fr x.text
  unfold pool_Pool_Put_vc
  refine newTV_in fun h1 v1 x1 s1 => newTV_in fun h2 v2 x2 s2 => ?_
  refine If.yes (put_in (t0 := It.zero.tv) v2 (t := It.zero.tv) rfl fun h3 v3 o3 s3 => v_it (x := It.zero) v3 ?_)
  exact hr h3 (x1.trans (Only.cut x2 o3 fun i hi => by omega))

end
end Go.Proofs.Ytjadpjbiiidioaa.Pool
