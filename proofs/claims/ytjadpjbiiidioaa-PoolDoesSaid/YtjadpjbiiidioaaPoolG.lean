/- alive; what holds of a pool behind every call; PoolBounds. -/
import Derived.Test.YtjadpjbiiidioaaPoolF
import Derived.Test.YtjadpjbiiidioaaVsPoolL
namespace Go.Proofs.Ytjadpjbiiidioaa.Pool
open Go Go.Vc
section
variable {R : Value → Heap → Prop} {h h0 : Heap} {b : Nat} {A : Sl} {L S : List It} {most quota : Int}

/-- Behind a call to a pool of one's own, nothing that stood has changed. -/
theorem Grown.cut {A' : Sl} {h' : Heap} (g : Grown b A h A' h') (x : Ext h0 h) (m : ∀ i, Mine b A i → h0.size ≤ i) : Ext h0 h' ∧ ∀ i, Mine b A' i → h0.size ≤ i :=
  ⟨Only.cut x g.only m, fun i hi => by
    rcases g.new i hi with h9 | h9
    · exact m i h9
    · have := x.size; omega⟩

theorem mine_new (h : Heap) : ∀ i, Mine h.size Sl.nil i → h.size ≤ i := fun i hi => by
  rcases hi with rfl | ⟨l, hl, _⟩
  · exact Nat.le_refl _
  · cases hl

/-! ### alive -/

def a1 : Cl := ⟨0, 5, 1, 0, []⟩
def a2 : Cl := ⟨0, 7, 2, 1, []⟩
def a3 : Cl := ⟨0, 8, 3, 2, []⟩
def a4 : Cl := ⟨0, 6, 4, 2, []⟩

theorem av1 : putS 2 2 a1.item [] = (1, It.zero, [a1.item]) := by kernel_rfl
theorem av2 : putS 2 2 a2.item [a1.item] = (1, It.zero, [a1.item, a2.item]) := by kernel_rfl
theorem av3 : putS 2 2 a3.item [a1.item, a2.item] = (12, It.zero, [a1.item, a2.item]) := by kernel_rfl
theorem av4 : putS 2 2 a4.item [a1.item, a2.item] = (2, a2.item, [a1.item, a4.item]) := by kernel_rfl

theorem alive_spec (hr : ∀ h', Ext h h' → R (TV.bool true).val h') : CallsH Try.prog 10 (TVs.vals []) h R := by
  apply tollerlaw15_alive_calls
  unfold tollerlaw15_alive_vc
  refine new_spec (fun hn => absurd (by decide) hn) fun _ h1 p1 x1 s1 => ⟨_, rfl, ?_⟩
  have m1 := mine_new h
  refine item_spec a1 fun h2 x2 => ⟨_, _, _, _, _, rfl, ?_⟩
  refine put_spec (p1.ext x2) a1.item (by decide) (by decide) (by decide) fun h3 A3 p3 g3 => ⟨_, _, _, _, _, _, rfl, ?_⟩
  obtain ⟨x3, m3⟩ := g3.cut (x1.trans x2) m1
  rw [av1] at p3 ⊢
  refine newTV_in fun h4 v4 x4 s4 => put_in v4 (t := It.zero.tv) rfl fun h5 v5 o5 s5 => ?_
  have x35 : Ext h3 h5 := Only.cut x4 o5 fun j hj => by omega
  refine item_spec a2 fun h6 x6 => ⟨_, _, _, _, _, rfl, ?_⟩
  refine put_spec (p3.ext (x35.trans x6)) a2.item (by decide) (by decide) (by decide) fun h7 A7 p7 g7 => ⟨_, _, _, _, _, _, rfl, ?_⟩
  obtain ⟨x7, m7⟩ := g7.cut (x3.trans (x35.trans x6)) m3
  rw [av2] at p7 ⊢
  refine newTV_in fun h8 v8 x8 s8 => put_in v8 (t := It.zero.tv) rfl fun h9 v9 o9 s9 => ?_
  have x79 : Ext h7 h9 := Only.cut x8 o9 fun j hj => by omega
  refine item_spec a3 fun h10 x10 => ⟨_, _, _, _, _, rfl, ?_⟩
  refine put_spec (p7.ext (x79.trans x10)) a3.item (by decide) (by decide) (by decide) fun h11 A11 p11 g11 => ⟨_, _, _, _, _, _, rfl, ?_⟩
  obtain ⟨x11, m11⟩ := g11.cut (x7.trans (x79.trans x10)) m7
  rw [av3] at p11 ⊢
  refine newTV_in fun h12 v12 x12 s12 => put_in v12 (t := It.zero.tv) rfl fun h13 v13 o13 s13 => ?_
  have x1113 : Ext h11 h13 := Only.cut x12 o13 fun j hj => by omega
  refine item_spec a4 fun h14 x14 => ⟨_, _, _, _, _, rfl, ?_⟩
  refine put_spec (p11.ext (x1113.trans x14)) a4.item (by decide) (by decide) (by decide) fun h15 A15 p15 g15 => ⟨_, _, _, _, _, _, rfl, ?_⟩
  obtain ⟨x15, m15⟩ := g15.cut (x11.trans (x1113.trans x14)) m11
  rw [av4] at p15 ⊢
  refine newTV_in fun h16 v16 x16 s16 => put_in v16 (t := a2.item.tv) rfl fun h17 v17 o17 s17 => ?_
  have x1517 : Ext h15 h17 := Only.cut x16 o17 fun j hj => by omega
  refine If.yes (If.yes (If.yes (If.yes ⟨7, v_slot (x := a2.item) v17, If.yes ?_⟩)))
  refine lenP_spec (p15.ext x1517) ⟨2, rfl, ?_⟩
  exact hr _ (x15.trans x1517)

/-! ### What holds behind every call -/

structure Ok (most quota : Int) (S : List It) : Prop where
  len : (S.length : Int) ≤ most
  quota : ∀ k, (cnt k S : Int) ≤ quota

theorem cnt_ins (k : Int) (x : It) (S : List It) : cnt k (insIt x S) = cnt k S + if x.peer = k then 1 else 0 := by
  unfold cnt
  rw [(insIt_perm x S).countP_eq, List.countP_cons]
  simp

theorem cnt_sub {S T : List It} (k : Int) (h : S.Sublist T) : cnt k S ≤ cnt k T := h.countP_le

theorem Ok.put (o : Ok most quota S) (x : It) : Ok most quota (putS most quota x S).2.2 := by
  unfold putS
  split
  · exact o
  · split
    · exact o
    · rename_i hq
      split
      · refine ⟨by rw [(insIt_perm x S).length_eq, List.length_cons]; omega, fun k => ?_⟩
        rw [cnt_ins]
        have := o.quota k
        split
        · rename_i e; subst e; omega
        · omega
      · split
        · exact o
        · rename_i y hy
          split
          · have hne : S ≠ [] := fun e => by rw [e] at hy; cases hy
            have hl : 0 < S.length := List.length_pos_iff.2 hne
            have hsub := List.dropLast_sublist S
            refine ⟨?_, fun k => ?_⟩
            · rw [(insIt_perm x _).length_eq, List.length_cons, List.length_dropLast]
              have := o.len
              omega
            · rw [cnt_ins]
              have := o.quota k
              have := cnt_sub k hsub
              split
              · rename_i e; subst e; omega
              · omega
          · exact o

theorem Ok.filter (o : Ok most quota S) (f : It → Bool) : Ok most quota (S.filter f) :=
  ⟨by have := List.length_filter_le f S; have := o.len; omega, fun k => by have := cnt_sub k (List.filter_sublist (p := f) (l := S)); have := o.quota k; omega⟩

/-- A pool in the midst of a script. -/
structure Runs (h0 h : Heap) (b : Nat) (most quota : Int) (A : Sl) (S : List It) : Prop where
  p : PL h b A S most quota
  ok : Ok most quota S
  mine : ∀ i, Mine b A i → h0.size ≤ i
  ext : Ext h0 h

theorem Runs.step {h1 : Heap} (r : Runs h0 h b most quota A S) (x : Ext h h1) : Runs h0 h1 b most quota A S := ⟨r.p.ext x, r.ok, r.mine, r.ext.trans x⟩

theorem Runs.new (hq : 1 ≤ most ∧ most ≤ 64 ∧ 1 ≤ quota ∧ quota ≤ 64) {h1 : Heap} (p : PL h1 h.size Sl.nil [] most quota) (x : Ext h h1) : Runs h h1 h.size most quota Sl.nil [] :=
  ⟨p, ⟨by simp; omega, fun k => by simp [cnt]; omega⟩, mine_new h, x⟩

theorem rput_spec (r : Runs h0 h b most quota A S) (hq : 1 ≤ most ∧ most ≤ 64 ∧ 1 ≤ quota ∧ quota ≤ 64) (x : It)
    (hr : ∀ h' A', Runs h0 h' b most quota A' (putS most quota x S).2.2 → Grown b A h A' h' → R (TV.tup [.int .i64 (putS most quota x S).1, (putS most quota x S).2.1.tv]).val h') :
    CallsH Try.prog 13 (TVs.vals [.ptr (some ⟨b, 0⟩), x.tv]) h R :=
  put_spec r.p x hq.1 hq.2.1 r.ok.len fun h' A' p' g' => hr h' A' ⟨p', r.ok.put x, (g'.cut r.ext r.mine).2, (g'.cut r.ext r.mine).1⟩ g'

theorem rtake_spec (r : Runs h0 h b most quota A S) {f : One} {pred : It → Bool} (t : Tells h f pred)
    (hr : ∀ h' A' out, Runs h0 h' b most quota A' (S.filter fun x => !pred x) → Own 32 67 h' out (its (S.filter pred)) → Grown b A h A' h' → Fresh h out → (∀ i, In out i → ¬ Mine b A' i) → R (TV.slice out).val h') :
    CallsH Try.prog 22 (TVs.vals [.ptr (some ⟨b, 0⟩), .one f]) h R :=
  take_spec r.p t fun h' A' out p' o' g' f' d' => hr h' A' out ⟨p', r.ok.filter _, (g'.cut r.ext r.mine).2, (g'.cut r.ext r.mine).1⟩ o' g' f' d'

/-! ### PoolBounds -/

theorem tellsB {T : TypeId} {c : Nat} {x : Cl} (v : Var T h c x.tv) : Tells h ⟨(TV.fn (.func 29) [] [.ptr (some ⟨c, 0⟩)]).val, rfl⟩ fun i => decide (i.slot < x.slot) := by
  refine ⟨29, #[], #[(TV.ptr (some ⟨c, 0⟩)).val], rfl, ctx_ok.entP (by kernel_rfl), fun h' i R' x' hr' => ?_⟩
  apply tollerlaw15_PoolBounds_1_calls i.slot i.root i.peer i.fr i.text
  unfold tollerlaw15_PoolBounds_1_vc
  refine newTV_in fun h1 v1 x1 s1 => ⟨i.slot, v_slot (x := i) v1, x.slot, ((v.ext x').ext x1).at1 rfl, hr' h1 x1⟩

theorem srt_at {i : Nat} {x y : It} (hs : Srt S) (hn : (S.map It.root).Nodup) (hx : S[i]? = some x) (hy : S[i + 1]? = some y) : bf x y = true ∧ bf y x = false ∧ x.root ≠ y.root := by
  obtain ⟨hi, ei⟩ := List.getElem?_eq_some_iff.1 hx
  obtain ⟨hj, ej⟩ := List.getElem?_eq_some_iff.1 hy
  have h1 := List.pairwise_iff_getElem.1 hs i (i + 1) hi hj (by omega)
  have h2 := List.pairwise_iff_getElem.1 (List.pairwise_map.1 hn) i (i + 1) hi hj (by omega)
  rw [ei, ej] at h1 h2
  exact ⟨h1, bf_asymm h1, h2⟩

theorem its_root {s : Sl} {i : Int} (e : Elems 67 h s (its L)) (i0 : 0 ≤ i) (i1 : i < L.length) {K : Bs 32 → Prop} (hk : ∀ x, L[i.toNat]? = some x → K x.root) :
    0 ≤ i ∧ i < (s.len : Int) ∧ Nn s.a fun (l : Vc.Loc) => ∃ (c : Bs 32), atBytes h l.b (l.o + i.toNat * 67 + 1) 32 c ∧ K c := by
  have hl := e.len
  rw [List.length_map] at hl
  refine e.read i0 (by omega) fun l t hla ht ha => ?_
  rw [List.getElem?_map] at ht
  obtain ⟨x, hx, rfl⟩ := Option.map_eq_some_iff.1 ht
  exact ⟨x.root, ha.2.1, hk x hx⟩

theorem poolBounds_spec {s : Sl} {l : List Cl} (e : Elems 5 h s (cls l)) (hr : ∀ h', Ext h h' → R (TV.bool true).val h') :
    CallsH Try.prog 8 (TVs.vals [.int .i64 most, .int .i64 quota, .slice s]) h R := by
  apply tollerlaw15_PoolBounds_calls
  unfold tollerlaw15_PoolBounds_vc
  have hel := e.len
  rw [List.length_map] at hel
  refine alive_spec fun h1 x1 => ⟨_, rfl, If.no ?_⟩
  refine great_spec (e.ext x1) fun h2 x2 => ⟨_, rfl, ?_⟩
  have x12 := x1.trans x2
  cases hg : greatB l with
  | true => exact If.yes (hr _ x12)
  | false =>
  have hl := great_few hg
  refine If.no ?_
  refine new_spec (fun _ => ⟨_, rfl, If.yes (hr _ x12)⟩) fun hq h3 p3 x3 s3 => ⟨_, rfl, If.no ?_⟩
  have r3 := Runs.new hq p3 x3
  have e2 := e.ext x12
  refine ⟨fun s hh => 0 ≤ s.2 ∧ s.2 ≤ l.length ∧ ∃ A S, Runs h2 hh h2.size most quota A S, fun s _ => ((l.length : Int) - s.2).toNat, ⟨Int.le_refl _, Int.natCast_nonneg _, _, _, r3⟩, ?_⟩
  rintro ⟨x0, i⟩ hh ⟨i0, i1, A, S, r⟩
  simp only at i0 i1 ⊢
  refine If.dec.2 ⟨fun hi => ?_, fun hi => hr _ (x12.trans r.ext)⟩
  refine cls_at (e2.ext r.ext) i0 (by omega) fun p c _ hc => ?_
  refine newTV_in fun h4 v4 x4 s4 => put_in v4 (t := c.tv) rfl fun h5 v5 o5 s5 => ?_
  have x45 : Ext hh h5 := Only.cut x4 o5 fun j hj => by omega
  have hh2 := r.ext.size
  have hlt : ∀ i, Mine h2.size A i → i < hh.size := fun i hi => r.p.lt hi
  intro J hJ
  -- behind the call
  have key : ∀ (h6 : Heap) (A6 : Sl) (S6 : List It), Runs h2 h6 h2.size most quota A6 S6 → Var 36 h6 hh.size c.tv → J PUnit.unit h6 := by
    intro h6 A6 S6 r6 v6
    refine hJ _ _ ?_
    have few := r6.p.few
    refine all_spec r6.p fun h7 s7 o7 x7 _ => ⟨s7, rfl, ?_⟩
    have r7 := r6.step x7
    have ol := o7.len
    rw [List.length_map] at ol
    intro J2 hJ2
    refine If.dec.2 ⟨fun hm => by have := r6.ok.len; omega, fun _ => ?_⟩
    refine ⟨c.peer, (v6.ext x7).at1 rfl, ?_⟩
    refine of_spec r7.p fun h8 x8 => ⟨_, rfl, ?_⟩
    refine If.dec.2 ⟨fun hm => by have := r6.ok.quota c.peer; omega, fun _ => ?_⟩
    refine hJ2 _ _ ?_
    have r8 := r7.step x8
    refine ⟨fun s h9 => 1 ≤ s.2 ∧ s.2 ≤ S6.length + 1 ∧ Ext h8 h9, fun s _ => ((S6.length : Int) + 1 - s.2).toNat, ⟨Int.le_refl 1, by dsimp only; omega, Ext.refl _⟩, ?_⟩
    rintro ⟨y0, j⟩ h9 ⟨j0, j1, x9⟩
    simp only at j0 j1 ⊢
    have e9 := (o7.ext (x8.trans x9)).elems
    refine If.dec.2 ⟨fun hj => ?_, fun hj => ?_⟩
    · rw [wrap_i64 (n := j - 1) (by omega) (by omega)]
      have ej : j.toNat = (j - 1).toNat + 1 := by omega
      refine its_at e9 (by omega) (by omega) fun q1 x _ hx => its_at e9 (by omega) (by omega) fun q2 y _ hy => ?_
      rw [ej] at hy
      obtain ⟨b1, b2, b3⟩ := srt_at r6.p.srt r6.p.names hx hy
      refine before_spec (x := x) (y := y) fun h10 x10 => ⟨_, rfl, ?_⟩
      rw [b1]
      refine If.no ?_
      have e10 := e9.ext x10
      refine its_at e10 (by omega) (by omega) fun q3 y' _ hy' => its_at e10 (by omega) (by omega) fun q4 x' _ hx' => ?_
      rw [ej, hy] at hy'
      rw [hx] at hx'
      cases hy'; cases hx'
      refine before_spec (x := y) (y := x) fun h11 x11 => ⟨_, rfl, ?_⟩
      rw [b2]
      refine If.no ?_
      have e11 := e10.ext x11
      refine its_root e11 (by omega) (by omega) fun y' hy' => its_root e11 (by omega) (by omega) fun x' hx' => ?_
      rw [ej, hy] at hy'
      rw [hx] at hx'
      cases hy'; cases hx'
      rw [decide_eq_false (fun e => b3 (Bs.ext' e.symm))]
      refine If.no ?_
      rw [wrap_i64 (n := j + 1) (by omega) (by omega)]
      exact ⟨⟨by omega, by omega, (x9.trans x10).trans x11⟩, by first | omega | (dsimp only; omega)⟩
    · rw [wrap_i64 (n := i + 1) (by omega) (by omega)]
      exact ⟨⟨by omega, by omega, A6, S6, r8.step x9⟩, by first | omega | (dsimp only; omega)⟩
  have r5 := r.step x45
  refine ⟨c.kind, v5.at1 rfl, If.dec.2 ⟨fun hk => ?_, fun hk => ?_⟩⟩
  · refine v_cl (x := c) v5 ?_
    refine item_spec c fun h6 x6 => ⟨_, _, _, _, _, rfl, ?_⟩
    refine rput_spec (r5.step x6) hq c.item fun h7 A7 r7 g7 => ⟨_, _, _, _, _, _, rfl, ?_⟩
    exact key h7 A7 _ r7 ((v5.ext x6).only g7.only fun hm => by have := hlt _ hm; omega)
  · refine rtake_spec (f := ⟨(TV.fn (.func 29) [] [.ptr (some ⟨hh.size, 0⟩)]).val, rfl⟩) r5 (tellsB v5) fun h7 A7 out r7 _ g7 _ _ => ⟨_, rfl, ?_⟩
    exact key h7 A7 _ r7 (v5.only g7.only fun hm => by have := hlt _ hm; omega)

theorem poolBounds_whole {s : Sl} {l : List Cl} (i : Elems 5 h s (cls l) ∧ ∀ c ∈ l, c.fit) (hr : ∀ h', Ext h h' → R (TV.bool true).val h') :
    CallsH Try.prog 8 (TVs.vals [.int .i64 most, .int .i64 quota, .slice s]) h R := poolBounds_spec i.1 hr

end
end Go.Proofs.Ytjadpjbiiidioaa.Pool
