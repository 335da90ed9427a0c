/- PoolDoes: a pool answers what the document's pool answers, call by call. -/
import Derived.Test.YtjadpjbiiidioaaPoolN
import Derived.Test.YtjadpjbiiidioaaVsPoolD
namespace Go.Proofs.Ytjadpjbiiidioaa.Pool
open Go Go.Vc

/-- Both pools, with the same items. -/
structure Pair (h0 h : Heap) (b m : Nat) (most quota : Int) (A B : Sl) (S : List It) : Prop where
  run : Runs h0 h b most quota A S
  ref : RL h m B S most quota
  base : h0.size ≤ m
  ne : ∀ i, Mine b A i → i ≠ m
  ap : ∀ i l, Mine b A i → B.a = some l → l.b ≠ i

section
variable {R : Value → Heap → Prop} {h h0 : Heap} {b m : Nat} {A B : Sl} {S : List It} {most quota : Int}

theorem Pair.step {h1 : Heap} (P : Pair h0 h b m most quota A B S) (x : Ext h h1) : Pair h0 h1 b m most quota A B S := ⟨P.run.step x, P.ref.ext x, P.base, P.ne, P.ap⟩

theorem tellsD {T : TypeId} {c : Nat} {x : Cl} (v : Var T h c x.tv) : Tells h ⟨(TV.fn (.func 43) [] [.ptr (some ⟨c, 0⟩)]).val, rfl⟩ fun i => decide (i.slot < x.slot) := by
  refine ⟨43, #[], #[(TV.ptr (some ⟨c, 0⟩)).val], rfl, ctx_ok.entP (by kernel_rfl), fun h' i R' x' hr' => ?_⟩
  apply tollerlaw15_do_1_calls i.slot i.root i.peer i.fr i.text
  unfold tollerlaw15_do_1_vc
  refine newTV_in fun h1 v1 x1 s1 => ⟨i.slot, v_slot (x := i) v1, x.slot, ((v.ext x').ext x1).at1 rfl, hr' h1 x1⟩

theorem tellsN : Tells h ⟨(TV.fn (.func 23) [] []).val, rfl⟩ fun _ => true := by
  refine ⟨23, #[], #[], rfl, ctx_ok.entP (by kernel_rfl), fun h' i R' x' hr' => ?_⟩
  apply tollerlaw15_PoolDoes_1_calls i.slot i.root i.peer i.fr i.text
  unfold tollerlaw15_PoolDoes_1_vc
  exact newTV_in fun h1 v1 x1 s1 => hr' h1 x1

theorem app68 {s : Sl} {x : It} {L : List It} {K : Sl → Heap → Prop} (o : Own 68 67 h s (its L)) (hl : L.length < 1000)
    (hk : ∀ s' h', Own 68 67 h' s' (its (L ++ [x])) → Only (In s) h h' → (∀ l, s'.a = some l → (∃ l', s.a = some l' ∧ l'.b = l.b) ∨ h.size ≤ l.b) → K s' h') :
    ∃ new, slAt (h.push (row (TVs.cells [x.tv]) 68)) (Sl.mk (some (Vc.Loc.mk h.size 0)) 1 1) 67 new ∧ (∀ v ∈ new, isOne v = true) ∧ vcAppend ctx 68 s 1 new (h.push (row (TVs.cells [x.tv]) 68)) K := by
  have ol := o.len
  rw [List.length_map] at ol
  refine append1 (C := ctx) (T := 68) (sz := 67) (x := x.tv) size68 zsize68 (by rw [bytes68]; decide) (by rw [bytes68]; omega) o rfl rfl fun s' h4 o4 f4 b4 => hk s' h4 ?_ f4 b4
  simpa [its] using o4

/-- What may be touched by a call of both. -/
def Both (b m : Nat) (A : Sl) (i : Nat) : Prop := Mine b A i ∨ i = m

set_option maxHeartbeats 1000000 in
theorem do_spec (P : Pair h0 h b m most quota A B S) (hq : 1 ≤ most ∧ most ≤ 64 ∧ 1 ≤ quota ∧ quota ≤ 64) (c : Cl)
    (hr : ∀ h' A' B' S', Pair h0 h' b m most quota A' B' S' → Only (Both b m A) h h' → R (TV.bool true).val h') :
    CallsH Try.prog 25 (TVs.vals [.ptr (some ⟨b, 0⟩), .ptr (some ⟨m, 0⟩), c.tv]) h R := by
  apply tollerlaw15_do_calls (some ⟨b, 0⟩) (some ⟨m, 0⟩) c.kind c.slot c.n c.peer c.text
  unfold tollerlaw15_do_vc
  refine newTV_in fun h1 v1 x1 s1 => ?_
  refine ⟨c.kind, c.slot, c.n, c.peer, c.text, v1.at, item_spec c fun h2 x2 => ⟨_, _, _, _, _, rfl, ?_⟩⟩
  refine newTV_in fun h3 v3 x3 s3 => put_in (t0 := It.zero.tv) (t := c.item.tv) v3 rfl fun h4 v4 o4 s4 => v_it (x := c.item) v4 ?_
  have z2 := x2.size
  have x24 : Ext h2 h4 := Only.cut x3 o4 fun i hi => by omega
  have x04 : Ext h h4 := (x1.trans x2).trans x24
  have oc := Own.new (T := 32) (sz := 67) h4 [c.item.tv] (fun t ht => by rw [List.mem_singleton.1 ht]; rfl)
  have xp := Ext.push h4 (row (TVs.cells [c.item.tv]) 32)
  refine plain_spec (L := [c.item]) oc.elems (by simp) fun h5 s5 o5 x5 _ => ⟨_, rfl, ?_⟩
  have x05 : Ext h h5 := (x04.trans xp).trans x5
  have x45 : Ext h4 h5 := xp.trans x5
  refine its_at (i := 0) o5.elems (by decide) (by simp) fun l y _ hy => ?_
  obtain rfl : c.item = y := by injection hy
  refine newTV_in fun h6 v6 x6 s6 => put_in (t0 := It.zero.tv) (t := c.item.tv) v6 rfl fun h7 v7 o7 s7 => ?_
  have x57 : Ext h5 h7 := Only.cut x6 o7 fun i hi => by omega
  have x07 := x05.trans x57
  have x47 := x45.trans x57
  have z24 := x24.size
  have z45 := x45.size
  have vc7 : Var 36 h7 h.size c.tv := ((v1.ext x2).ext x24).ext x47
  have P7 := P.step x07
  have hmine : ∀ i, Mine b A i → i < h.size := fun i hi => P.run.p.lt hi
  have hml : m < h.size := P.ref.var.lt
  have hB : ∀ l, B.a = some l → l.b < h.size := P.ref.low
  refine ⟨c.kind, vc7.at1 rfl, If.dec.2 ⟨fun hk => ?_, fun hk => ?_⟩⟩
  · refine v_it (x := c.item) (v4.ext x47) ?_
    refine rput_spec P7.run hq c.item fun h8 A8 r8 g8 => ⟨_, _, _, _, _, _, rfl, ?_⟩
    have p8 := r8
    have hput : ∃ v y S', putS most quota c.item S = (v, y, S') := ⟨_, _, _, rfl⟩
    obtain ⟨v, y, S', hv⟩ := hput
    have ef := P.run.ok.len
    have d1 : (putS most quota c.item S).1 = v := by rw [hv]
    have d2 : (putS most quota c.item S).2.1 = y := by rw [hv]
    have d3 : (putS most quota c.item S).2.2 = S' := by rw [hv]
    rw [d3] at r8
    refine newTV_in fun h9 v9 x9 s9 => put_in (t0 := It.zero.tv) (t := (putS most quota c.item S).2.1.tv) v9 rfl fun h10 v10 o10 s10 => ?_
    have x810 : Ext h8 h10 := Only.cut x9 o10 fun i hi => by omega
    have z7 := g8.only.size
    have ref8 : RL h8 m B S most quota := P7.ref.only g8.only (fun hx => P.ne m hx rfl) (fun l hl hx => P.ap _ l hx hl rfl)
    have ref10 := ref8.ext x810
    have z57 := x57.size
    have vy8 : Var 68 h8 h5.size c.item.tv := v7.only g8.only (fun hx => by have := hmine _ hx; omega)
    refine v_it (x := c.item) (vy8.ext x810) ?_
    refine docput_spec ref10 c.item hq.1 hq.2.1 ef fun h11 B11 r11 o11 n11 => ⟨_, _, _, _, _, _, rfl, ?_⟩
    rw [d3] at r11
    refine newTV_in fun h12 v12 x12 s12 => put_in (t0 := It.zero.tv) (t := (putS most quota c.item S).2.1.tv) v12 rfl fun h13 v13 o13 s13 => ?_
    have x1113 : Ext h11 h13 := Only.cut x12 o13 fun i hi => by omega
    have z8 := x810.size
    have z11 := o11.size
    refine If.dec.2 ⟨fun _ => ?_, fun hn => absurd rfl hn⟩
    have vg : Var 32 h13 h8.size (putS most quota c.item S).2.1.tv := (v10.only o11 (by omega)).ext x1113
    refine v_it (x := (putS most quota c.item S).2.1) vg (v_it (x := (putS most quota c.item S).2.1) v13 ?_)
    have og := Own.new (T := 32) (sz := 67) h13 [(putS most quota c.item S).2.1.tv] (fun t ht => by rw [List.mem_singleton.1 ht]; rfl)
    have xg := Ext.push h13 (row (TVs.cells [(putS most quota c.item S).2.1.tv]) 32)
    refine ⟨xg, plain_spec (L := [(putS most quota c.item S).2.1]) og.elems (by simp) fun h14 s14 o14 x14 _ => ⟨_, rfl, x14, ?_⟩⟩
    refine its_at (i := 0) o14.elems (by decide) (by simp) fun l2 y2 _ hy2 => ?_
    obtain rfl : (putS most quota c.item S).2.1 = y2 := by injection hy2
    refine ⟨Ext.refl _, ?_⟩
    have he : eqIt (putS most quota c.item S).2.1 (putS most quota c.item S).2.1 = true := eqIt_iff.2 rfl
    have x1114 := (x1113.trans xg).trans x14
    -- the pool's own state behind all this
    have run11 : Runs h0 h11 b most quota A8 S' := ⟨(r8.p.ext x810).only o11 (fun i hi => by
        rcases g8.new i hi with h9' | h9'
        · exact P.ne i h9'
        · have := x07.size; omega), r8.ok, r8.mine, by
        have hb0 := P.base
        exact Only.cut (r8.ext.trans x810) o11 fun i hi => by omega⟩
    have ne11 : ∀ i, Mine b A8 i → i ≠ m := fun i hi => by
      rcases g8.new i hi with h9' | h9'
      · exact P.ne i h9'
      · have := x07.size; omega
    have Pn : Pair h0 h11 b m most quota A8 B11 S' := ⟨run11, r11, P.base, ne11, fun i l hi hl => by
      have hi8 : i < h8.size := r8.p.lt hi
      rcases n11 l hl with ⟨l', h8', h9'⟩ | h9'
      · rw [← h9']
        rcases g8.new i hi with h5' | h5'
        · exact P.ap i l' h5' h8'
        · have := hB l' h8'; have := x07.size; omega
      · omega⟩
    have Pf := Pn.step x1114
    have of : Only (Both b m A) h h14 := (Only.of_ext x07).trans ((g8.only.mono fun i hi => .inl hi).trans ((Only.of_ext x810).trans ((o11.mono fun i hi => .inr hi).trans (Only.of_ext x1114))))
    have := hr h14 _ _ _ Pf of
    unfold eqIt at he
    rw [he]
    exact this
  · refine rtake_spec P7.run (tellsD vc7) fun h8 A8 out r8 o8 g8 f8 d8 => ⟨_, rfl, ?_⟩
    have z7 := g8.only.size
    have ref8 : RL h8 m B S most quota := P7.ref.only g8.only (fun hx => P.ne m hx rfl) (fun l hl hx => P.ap _ l hx hl rfl)
    have vc8 : Var 36 h8 h.size c.tv := vc7.only g8.only (fun hx => by have := hmine _ hx; omega)
    refine ⟨B, ref8.var.at1 rfl, ?_⟩
    have hbl := ref8.len
    have few := ref8.few
    have fl : ∀ (p : It → Bool) (k : Nat), ((S.take k).filter p).length ≤ 900 := fun p k => by
      have h9 := List.length_filter_le p (S.take k)
      rw [List.length_take] at h9
      omega
    refine ⟨fun σ hh => 0 ≤ σ.2.2 ∧ σ.2.2 ≤ B.len ∧ Own 68 67 hh σ.1 (its ((S.take σ.2.2.toNat).filter fun x => decide (x.slot < c.slot))) ∧ Own 68 67 hh σ.2.1 (its ((S.take σ.2.2.toNat).filter fun x => !decide (x.slot < c.slot))) ∧
      (∀ l, σ.1.a = some l → h8.size ≤ l.b) ∧ (∀ l, σ.2.1.a = some l → h8.size ≤ l.b) ∧ (∀ l l', σ.1.a = some l → σ.2.1.a = some l' → l.b ≠ l'.b) ∧ Ext h8 hh, fun σ _ => ((B.len : Int) - σ.2.2).toNat,
      ⟨Int.le_refl 0, by first | omega | (dsimp only; omega), Own.nil _ _ _, Own.nil _ _ _, (fun l hl => by cases hl), (fun l hl => by cases hl), (fun l l' hl => by cases hl), Ext.refl _⟩, ?_⟩
    rintro ⟨w, t, i⟩ h9 ⟨i0, i1, ow, ot, bw, bt, wt, x9⟩
    dsimp only at i0 i1 ow ot bw bt wt ⊢
    have z9 := x9.size
    refine If.dec.2 ⟨fun hi => ?_, fun hi => ?_⟩
    · refine its_at (ref8.el.ext x9) i0 (by omega) fun l y _ hy => ?_
      refine newTV_in fun h10 v10 x10 s10 => put_in (t0 := It.zero.tv) (t := y.tv) v10 rfl fun h11 v11 o11 s11 => ?_
      have x911 : Ext h9 h11 := Only.cut x10 o11 fun j hj => by omega
      refine ⟨y.slot, v_slot (x := y) v11, c.slot, ((vc8.ext x9).ext x911).at1 rfl, ?_⟩
      have hi1 : (i + 1).toNat = i.toNat + 1 := by omega
      have tf1 := take_filter (fun x : It => decide (x.slot < c.slot)) hy
      have tf2 := take_filter (fun x : It => !decide (x.slot < c.slot)) hy
      rw [wrap_i64 (n := i + 1) (by omega) (by omega)]
      have z911 := x911.size
      have lw := ow.lt
      have lt' := ot.lt
      refine If.dec.2 ⟨fun hs => ?_, fun hs => ?_⟩
      · rw [if_pos (by simp [hs])] at tf1
        rw [if_neg (by simp [hs]), List.append_nil] at tf2
        refine v_it (x := y) v11 (app68 (ow.ext x911) (by have := fl (fun x => decide (x.slot < c.slot)) i.toNat; omega) fun s12 h12 o12 f12 b12 => ?_)
        refine ⟨⟨by first | omega | (dsimp only; omega), by first | omega | (dsimp only; omega), ?_, ?_, fun l hl => ?_, bt, fun l l' hl hl' => ?_, ?_⟩, by first | omega | (dsimp only; omega)⟩
        · rw [hi1, tf1]; exact o12
        · rw [hi1, tf2]
          exact (ot.ext x911).only f12 fun l hl ⟨l', hl', e⟩ => wt l' l hl' hl e
        · rcases b12 l hl with ⟨l', h5', h6'⟩ | h5'
          · rw [← h6']; exact bw l' h5'
          · omega
        · rcases b12 l hl with ⟨l2, h5', h6'⟩ | h5'
          · rw [← h6']; exact wt l2 l' h5' hl'
          · have := lt' l' hl'; omega
        · refine Only.cut (x9.trans x911) f12 fun j ⟨l, hl, e⟩ => ?_
          rw [← e]; exact bw l hl
      · rw [if_neg (by simp [hs]), List.append_nil] at tf1
        rw [if_pos (by simp [hs])] at tf2
        refine v_it (x := y) v11 (app68 (ot.ext x911) (by have := fl (fun x => !decide (x.slot < c.slot)) i.toNat; omega) fun s12 h12 o12 f12 b12 => ?_)
        refine ⟨⟨by first | omega | (dsimp only; omega), by first | omega | (dsimp only; omega), ?_, ?_, bw, fun l hl => ?_, fun l l' hl hl' => ?_, ?_⟩, by first | omega | (dsimp only; omega)⟩
        · rw [hi1, tf1]
          exact (ow.ext x911).only f12 fun l hl ⟨l', hl', e⟩ => wt l l' hl hl' e.symm
        · rw [hi1, tf2]; exact o12
        · rcases b12 l hl with ⟨l', h5', h6'⟩ | h5'
          · rw [← h6']; exact bt l' h5'
          · omega
        · rcases b12 l' hl' with ⟨l2, h5', h6'⟩ | h5'
          · rw [← h6']; exact wt l l2 hl h5'
          · have := lw l hl; omega
        · refine Only.cut (x9.trans x911) f12 fun j ⟨l, hl, e⟩ => ?_
          rw [← e]; exact bt l hl
    · have hi2 : i.toNat = S.length := by omega
      rw [hi2, List.take_length] at ow ot
      have m8 : m < h8.size := ref8.var.lt
      have ref9 := ref8.ext x9
      refine field_in (i := 0) (t := .slice t) (t0 := .slice B) ref9.var rfl rfl rfl rfl fun h10 v10 (o10 : Only (· = m) h9 h10) s10 => ?_
      have v10' : Var 59 h10 m (.agg [.slice t, .int .i64 most, .int .i64 quota]) := v10
      have tm : ∀ l, t.a = some l → l.b ≠ m := fun l hl => by have := bt l hl; omega
      have wm : ∀ l, w.a = some l → ¬ l.b = m := fun l hl => by have := bw l hl; omega
      have ot10 := ot.only o10 tm
      have flS := List.length_filter_le (fun x : It => !decide (x.slot < c.slot)) S
      have r10 : RL h10 m t (S.filter fun x => !decide (x.slot < c.slot)) most quota := ⟨v10', ot10.elems, ot10.cap, tm, fun l hl => ot10.lt l hl, by omega⟩
      have outm : ∀ l, out.a = some l → ¬ l.b = m := fun l hl => by have := f8 l hl; have := x07.size; omega
      have o8' := (o8.ext x9).only o10 outm
      have flS2 := List.length_filter_le (fun x : It => decide (x.slot < c.slot)) S
      refine plain_spec o8'.elems (by omega) fun h11 s11 o11 x11 _ => ⟨_, rfl, ?_⟩
      refine same_spec o11.elems ((ow.only o10 wm).ext x11).elems (by omega) ⟨_, rfl, ?_⟩
      rw [decide_eq_true rfl]
      have hne8 : ∀ i, Mine b A8 i → i ≠ m := fun i hi => by
        rcases g8.new i hi with h9' | h9'
        · exact P.ne i h9'
        · have := x07.size; omega
      have run10 : Runs h0 h10 b most quota A8 (S.filter fun x => !decide (x.slot < c.slot)) := ⟨(r8.p.ext x9).only o10 hne8, r8.ok, r8.mine, by
        have hb0 := P.base
        exact Only.cut (r8.ext.trans x9) o10 fun i hi => by omega⟩
      have Pn : Pair h0 h10 b m most quota A8 t (S.filter fun x => !decide (x.slot < c.slot)) := ⟨run10, r10, P.base, hne8, fun i l hi hl => by
        have := r8.p.lt hi
        have := bt l hl
        omega⟩
      exact hr h11 _ _ _ (Pn.step x11) ((Only.of_ext x07).trans ((g8.only.mono fun i hi => .inl hi).trans ((Only.of_ext x9).trans ((o10.mono fun i hi => .inr hi).trans (Only.of_ext x11)))))

end
end Go.Proofs.Ytjadpjbiiidioaa.Pool
