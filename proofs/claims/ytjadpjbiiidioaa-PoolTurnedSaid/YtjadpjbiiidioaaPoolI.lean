/- PoolTakes, PoolGives. -/
import Derived.Test.YtjadpjbiiidioaaPoolG
namespace Go.Proofs.Ytjadpjbiiidioaa.Pool
open Go Go.Vc
section
variable {R : Value → Heap → Prop} {h h0 : Heap} {b : Nat} {A : Sl} {L S : List It} {most quota : Int}

/-! ### PoolTakes -/

theorem tellsT1 {T : TypeId} {c : Nat} {n : Int} (v : Var T h c (.int .i64 n)) : Tells h ⟨(TV.fn (.func 30) [] [.ptr (some ⟨c, 0⟩)]).val, rfl⟩ fun i => decide (i.slot ≤ n) := by
  refine ⟨30, #[], #[(TV.ptr (some ⟨c, 0⟩)).val], rfl, ctx_ok.entP (by kernel_rfl), fun h' i R' x' hr' => ?_⟩
  apply tollerlaw15_PoolTakes_1_calls i.slot i.root i.peer i.fr i.text
  unfold tollerlaw15_PoolTakes_1_vc
  refine newTV_in fun h1 v1 x1 s1 => ⟨i.slot, v_slot (x := i) v1, n, ((v.ext x').ext x1).at1 rfl, hr' h1 x1⟩

theorem tellsT2 {T : TypeId} {c : Nat} {n : Int} (v : Var T h c (.int .i64 n)) : Tells h ⟨(TV.fn (.func 31) [] [.ptr (some ⟨c, 0⟩)]).val, rfl⟩ fun i => decide (i.slot ≤ n) := by
  refine ⟨31, #[], #[(TV.ptr (some ⟨c, 0⟩)).val], rfl, ctx_ok.entP (by kernel_rfl), fun h' i R' x' hr' => ?_⟩
  apply tollerlaw15_PoolTakes_2_calls i.slot i.root i.peer i.fr i.text
  unfold tollerlaw15_PoolTakes_2_vc
  refine newTV_in fun h1 v1 x1 s1 => ⟨i.slot, v_slot (x := i) v1, n, ((v.ext x').ext x1).at1 rfl, hr' h1 x1⟩

/-- By slots, what is taken stands ahead. -/
theorem slots_ahead (n : Int) : ∀ {S : List It}, Srt S → (S.filter fun x => decide (x.slot ≤ n)) ++ (S.filter fun x => !decide (x.slot ≤ n)) = S
  | [], _ => rfl
  | x :: S, h => by
    have hp := List.pairwise_cons.1 h
    have ih := slots_ahead n hp.2
    by_cases hx : x.slot ≤ n
    · rw [List.filter_cons_of_pos (by simpa using hx), List.filter_cons_of_neg (by simpa using hx), List.cons_append, ih]
    · have all : ∀ y ∈ S, ¬ y.slot ≤ n := fun y hy => by
        rcases bf_iff.1 (hp.1 y hy) with h1 | h1 <;> omega
      rw [List.filter_cons_of_neg (by simpa using hx), List.filter_cons_of_pos (by simpa using hx)]
      have e1 : (S.filter fun x => decide (x.slot ≤ n)) = [] := List.filter_eq_nil_iff.2 fun y hy => by simpa using all y hy
      rw [e1, List.nil_append] at ih ⊢
      rw [ih]

theorem filter_len (n : Int) (S : List It) : (S.filter fun x => decide (x.slot ≤ n)).length + (S.filter fun x => !decide (x.slot ≤ n)).length = S.length := by
  have := (List.filter_append_perm (fun x : It => decide (x.slot ≤ n)) S).length_eq
  rwa [List.length_append] at this

theorem filter_none (n : Int) (S : List It) : ((S.filter fun x => !decide (x.slot ≤ n)).filter fun x => decide (x.slot ≤ n)) = [] := by
  rw [List.filter_filter]
  exact List.filter_eq_nil_iff.2 fun y _ => by simp

theorem app68 {s t : Sl} {M : List It} {K : Sl → Heap → Prop} (o : Own 68 67 h s (its L)) (e : Elems 67 h t (its M)) (hl : L.length + M.length < 1000)
    (hk : ∀ s' h', Own 68 67 h' s' (its (L ++ M)) → Only (In s) h h' → (∀ l, s'.a = some l → (∃ l', s.a = some l' ∧ l'.b = l.b) ∨ h.size ≤ l.b) → K s' h') :
    ∃ new, slAt h t 67 new ∧ (∀ v ∈ new, isOne v = true) ∧ vcAppend ctx 68 s t.len new h K := by
  have ol := o.len
  have el := e.len
  rw [List.length_map] at ol el
  refine appendN (C := ctx) (T := 68) size68 zsize68 (by rw [bytes68]; decide) (by decide) (by rw [bytes68]; omega) o e (its_size M) (its_plain M) fun s' h1 o1 _ f1 b1 => hk s' h1 ?_ f1 b1
  simpa [its] using o1

theorem poolTakes_whole {s : Sl} {l : List Cl} {n : Int} (i : Elems 5 h s (cls l) ∧ ∀ c ∈ l, c.fit) (hr : ∀ h', Ext h h' → R (TV.bool true).val h') :
    CallsH Try.prog 9 (TVs.vals [.int .i64 most, .int .i64 quota, .slice s, .int .i64 n]) h R := by
  obtain ⟨e, _⟩ := i
  apply tollerlaw15_PoolTakes_calls
  unfold tollerlaw15_PoolTakes_vc
  have hel := e.len
  rw [List.length_map] at hel
  refine newTV_in fun h00 v0 x0 s0 => ?_
  refine alive_spec fun h1 x1 => ⟨_, rfl, If.no ?_⟩
  refine great_spec (e.ext (x0.trans x1)) fun h2 x2 => ⟨_, rfl, ?_⟩
  have x12 := (x0.trans x1).trans x2
  cases hg : greatB l with
  | true => exact If.yes (hr _ x12)
  | false =>
  have hl := great_few hg
  refine If.no ?_
  refine new_spec (fun _ => ⟨_, rfl, If.yes (hr _ x12)⟩) fun hq h3 p3 x3 s3 => ⟨_, rfl, If.no ?_⟩
  have r3 := Runs.new hq p3 x3
  have e2 := e.ext x12
  have v2 : Var 3 h2 h.size (.int .i64 n) := v0.ext (x1.trans x2)
  refine ⟨fun s hh => 0 ≤ s ∧ s ≤ l.length ∧ ∃ A S, Runs h2 hh h2.size most quota A S, fun s _ => ((l.length : Int) - s).toNat, ⟨Int.le_refl _, Int.natCast_nonneg _, _, _, r3⟩, ?_⟩
  rintro i hh ⟨i0, i1, A, S, r⟩
  refine If.dec.2 ⟨fun hi => ?_, fun hi => ?_⟩
  · refine cls_at (e2.ext r.ext) i0 (by omega) fun p c _ hc => ?_
    refine newTV_in fun h4 v4 x4 s4 => put_in v4 (t := c.tv) rfl fun h5 v5 o5 s5 => ?_
    have x45 : Ext hh h5 := Only.cut x4 o5 fun j hj => by omega
    refine v_cl (x := c) v5 ?_
    refine item_spec c fun h6 x6 => ⟨_, _, _, _, _, rfl, ?_⟩
    refine rput_spec ((r.step x45).step x6) hq c.item fun h7 A7 r7 g7 => ⟨_, _, _, _, _, _, rfl, ?_⟩
    rw [wrap_i64 (n := i + 1) (by omega) (by omega)]
    exact ⟨⟨by omega, by omega, A7, _, r7⟩, by first | omega | (dsimp only; omega)⟩
  · have few := r.p.few
    refine all_spec r.p fun h4 s4 o4 x4 _ => ⟨s4, rfl, ?_⟩
    refine plain_spec o4.elems (by omega) fun h5 s5 o5 x5 f5 => ⟨s5, rfl, ?_⟩
    have r5 := (r.step x4).step x5
    have v5 := v2.ext r5.ext
    refine rtake_spec (f := ⟨(TV.fn (.func 30) [] [.ptr (some ⟨h.size, 0⟩)]).val, rfl⟩) r5 (tellsT1 v5) fun h6 A6 s6 r6 o6 g6 f6 d6 => ⟨s6, rfl, ?_⟩
    have lo : (S.filter fun x => decide (x.slot ≤ n)).length < 800 := filter_few _ few
    have lr : (S.filter fun x => !decide (x.slot ≤ n)).length < 800 := filter_few _ few
    have flen := filter_len n S
    refine plain_spec o6.elems (by omega) fun h7 s7 o7 x7 f7 => ⟨s7, rfl, ?_⟩
    have r7 := r6.step x7
    refine all_spec r7.p fun h8 s8 o8 x8 _ => ⟨s8, rfl, ?_⟩
    refine plain_spec o8.elems (by omega) fun h9 s9 o9 x9 f9 => ⟨s9, rfl, ?_⟩
    have r9 := (r7.step x8).step x9
    have l5 := o5.len
    have l7 := o7.len
    have l9 := o9.len
    rw [List.length_map] at l5 l7 l9
    rw [wrap_i64 (n := (s7.len : Int) + s9.len) (by omega) (by omega)]
    refine If.split (fun hne => ?_) (fun _ => ?_)
    · simp at hne
      omega
    have v9 := v2.ext r9.ext
    have hm9 := r9.mine
    refine rtake_spec (f := ⟨(TV.fn (.func 31) [] [.ptr (some ⟨h.size, 0⟩)]).val, rfl⟩) r9 (tellsT2 v9) fun h10 A10 s10 r10 o10 g10 f10 _ => ⟨s10, rfl, ?_⟩
    have l10 := o10.len
    rw [List.length_map, filter_none] at l10
    rw [List.length_nil] at l10
    refine If.split (fun hne => ?_) (fun _ => ?_)
    · simp at hne
      omega
    -- blocks of rows laid before, apart from the pool's
    have apart7 : ∀ q, s7.a = some q → ¬ Mine h2.size A6 q.b := fun q hq hm => by
      have := f7 q hq
      have := r6.p.lt hm
      omega
    have apart9 : ∀ q, s9.a = some q → ¬ Mine h2.size A6 q.b := fun q hq hm => by
      have := f9 q hq
      have := r6.p.lt hm
      have := x7.size
      have := x8.size
      omega
    have apart5 : ∀ q, s5.a = some q → ¬ Mine h2.size A6 q.b := fun q hq hm => by
      have h55 := f5 q hq
      have h56 := o5.lt q hq
      have s44 := x4.size
      rcases g6.new _ hm with h9 | h9
      · have := r.p.lt h9
        omega
      · omega
    have o7' := ((o7.ext (x8.trans x9)).only g10.only apart7)
    have o9' := o9.only g10.only apart9
    have o5' := ((o5.only g6.only (fun q hq hm => by
      have := f5 q hq
      have := x4.size
      have := r.p.lt hm
      omega)).ext (x7.trans (x8.trans x9))).only g10.only apart5
    have e1 := Ext.push h10 (row (TVs.cells []) 68)
    have on := Own.new (T := 68) (sz := 67) h10 [] (fun t ht => by cases ht)
    have hz : (h10.push (row (TVs.cells []) 68)).size = h10.size + 1 := by simp
    refine app68 (L := []) (t := s7) on ((o7'.ext e1).elems) (by simp; omega) fun s11 h11 o11 f11 b11 => ?_
    rw [List.nil_append] at o11
    have x11 : Ext h10 h11 := Only.cut e1 f11 fun j ⟨q, hq, hj⟩ => by cases hq; simp at hj; omega
    refine app68 (t := s9) o11 ((o9'.ext x11).elems) (by omega) fun s12 h12 o12 f12 b12 => ?_
    have fresh11 : ∀ q, s11.a = some q → h10.size ≤ q.b := fun q hq => by
      rcases b11 q hq with ⟨q', h9, h10'⟩ | h9
      · cases h9
        simp at h10'
        omega
      · omega
    have x12' : Ext h10 h12 := Only.cut x11 f12 fun j ⟨q, hq, hj⟩ => by have := fresh11 q hq; omega
    rw [slots_ahead n r.p.srt] at o12
    refine same_spec o12.elems (o5'.ext x12').elems (by omega) ⟨_, rfl, ?_⟩
    rw [decide_eq_true rfl]
    exact hr _ (x12.trans (r10.ext.trans x12'))

/-! ### PoolGives -/

theorem has_iff {r : Bs 32} : has r S = true ↔ ∃ x ∈ S, x.root = r := by
  unfold has
  rw [List.any_eq_true]
  exact ⟨fun ⟨x, hx, e⟩ => ⟨x, hx, by simpa using e⟩, fun ⟨x, hx, e⟩ => ⟨x, hx, by simpa using e⟩⟩

theorem has_ins (x : It) (S : List It) : has x.root (insIt x S) = true := has_iff.2 ⟨x, (insIt_perm x S).mem_iff.2 (List.mem_cons_self ..), rfl⟩

/-- What Put's answers say of the items behind it. -/
theorem putS_says (x : It) (hs : Srt S) (hn : (S.map It.root).Nodup) :
    ((putS most quota x S).1 = 1 → (putS most quota x S).2.2.length = S.length + 1 ∧ has x.root (putS most quota x S).2.2 = true) ∧
    ((putS most quota x S).1 = 2 → (putS most quota x S).2.2.length = S.length ∧ has x.root (putS most quota x S).2.2 = true ∧ has (putS most quota x S).2.1.root (putS most quota x S).2.2 = false ∧ ∀ y ∈ (putS most quota x S).2.2, bf y (putS most quota x S).2.1 = true) ∧
    ((putS most quota x S).1 ≠ 1 → (putS most quota x S).1 ≠ 2 → (putS most quota x S).2.2 = S) := by
  unfold putS
  split
  · exact ⟨fun h => absurd h (by simp), fun h => absurd h (by simp), fun _ _ => rfl⟩
  · rename_i hh
    have hh : has x.root S = false := by simpa using hh
    split
    · exact ⟨fun h => absurd h (by simp), fun h => absurd h (by simp), fun _ _ => rfl⟩
    · split
      · exact ⟨fun _ => ⟨by rw [(insIt_perm x S).length_eq, List.length_cons], has_ins x S⟩, fun h => absurd h (by simp), fun h => absurd rfl h⟩
      · split
        · exact ⟨fun h => absurd h (by simp), fun h => absurd h (by simp), fun _ _ => rfl⟩
        · rename_i y hy
          split
          · rename_i hb
            obtain ⟨d1, d2, d3, d4, d5⟩ := dropLast_facts hs hn hy hh
            have hyx : y.root ≠ x.root := fun e => has_false hh y (d4.mem_iff.2 (List.mem_cons_self ..)) e.symm
            have hn' := (nodup_perm d4.symm hn)
            rw [List.map_cons, List.nodup_cons] at hn'
            have hpw : ∀ z ∈ S.dropLast, bf z y = true := by
              have hne : S ≠ [] := fun e => by rw [e] at hy; cases hy
              have hd := List.dropLast_concat_getLast hne
              have hyl : S.getLast hne = y := by rw [List.getLast?_eq_some_getLast hne] at hy; exact Option.some.inj hy
              rw [hyl] at hd
              have := hs
              unfold Srt at this
              rw [← hd, List.pairwise_append] at this
              exact fun z hz => this.2.2 z hz y (List.mem_singleton.2 rfl)
            refine ⟨fun h => absurd h (by simp), fun _ => ⟨by rw [(insIt_perm x _).length_eq, List.length_cons]; omega, has_ins x _, ?_, fun z hz => ?_⟩, fun _ h => absurd rfl h⟩
            · cases h9 : has y.root (insIt x S.dropLast) with
              | false => rfl
              | true =>
                obtain ⟨z, hz, ez⟩ := has_iff.1 h9
                rcases List.mem_cons.1 ((insIt_perm x _).mem_iff.1 hz) with e | hz
                · subst e
                  exact absurd ez.symm hyx
                · exact absurd (List.mem_map.2 ⟨z, hz, ez⟩) hn'.1
            · rcases List.mem_cons.1 ((insIt_perm x _).mem_iff.1 hz) with e | hz
              · subst e; exact hb
              · exact hpw z hz
          · exact ⟨fun h => absurd h (by simp), fun h => absurd h (by simp), fun _ _ => rfl⟩

theorem poolGives_whole {s : Sl} {l : List Cl} (i : Elems 5 h s (cls l) ∧ ∀ c ∈ l, c.fit) (hr : ∀ h', Ext h h' → R (TV.bool true).val h') :
    CallsH Try.prog 4 (TVs.vals [.int .i64 most, .int .i64 quota, .slice s]) h R := by
  obtain ⟨e, _⟩ := i
  apply tollerlaw15_PoolGives_calls
  unfold tollerlaw15_PoolGives_vc
  have hel := e.len
  rw [List.length_map] at hel
  refine alive_spec fun h1 x1 => ⟨_, rfl, If.no ?_⟩
  refine great_spec (e.ext x1) fun h2 x2 => ⟨_, rfl, ?_⟩
  have x12 := x1.trans x2
  cases hg : greatB l with
  | true => exact If.yes (hr _ x12)
  | false =>
  have hl := great_few hg
  refine If.no ?_
  refine new_spec (fun _ => ⟨_, rfl, If.yes (hr _ x12)⟩) fun hq h3 p3 x3 s3 => ⟨_, rfl, If.no ?_⟩
  have r3 := Runs.new hq p3 x3
  have e2 := e.ext x12
  refine ⟨fun s hh => 0 ≤ s.2 ∧ s.2 ≤ l.length ∧ ∃ A S, Runs h2 hh h2.size most quota A S, fun s _ => ((l.length : Int) - s.2).toNat, ⟨Int.le_refl _, Int.natCast_nonneg _, _, _, r3⟩, ?_⟩
  rintro ⟨u0, i⟩ hh ⟨i0, i1, A, S, r⟩
  simp only at i0 i1 ⊢
  refine If.dec.2 ⟨fun hi => ?_, fun hi => hr _ (x12.trans r.ext)⟩
  refine cls_at (e2.ext r.ext) i0 (by omega) fun p c _ hc => ?_
  refine newTV_in fun h4 v4 x4 s4 => put_in v4 (t := c.tv) rfl fun h5 v5 o5 s5 => ?_
  have x45 : Ext hh h5 := Only.cut x4 o5 fun j hj => by omega
  have hlt : ∀ i, Mine h2.size A i → i < hh.size := fun i hi => r.p.lt hi
  have few := r.p.few
  have r5 := r.step x45
  refine all_spec r5.p fun h6 s6 o6 x6 _ => ⟨s6, rfl, ?_⟩
  refine plain_spec o6.elems (by omega) fun h7 s7 o7 x7 f7 => ⟨s7, rfl, ?_⟩
  have v7 := (v5.ext x6).ext x7
  have r7 := (r5.step x6).step x7
  refine v_cl (x := c) v7 ?_
  refine item_spec c fun h8 x8 => ⟨_, _, _, _, _, rfl, ?_⟩
  refine rput_spec (r7.step x8) hq c.item fun h9 A9 r9 g9 => ⟨_, _, _, _, _, _, rfl, ?_⟩
  obtain ⟨say1, say2, say3⟩ := putS_says (most := most) (quota := quota) c.item r.p.srt r.p.names
  generalize hP : putS most quota c.item S = P at *
  obtain ⟨v, gone, S'⟩ := P
  dsimp only at say1 say2 say3 r9 ⊢
  have s67 := x6.size
  have s77 := x7.size
  have s88 := x8.size
  have s99 := g9.only.size
  have v9 : Var 36 h9 hh.size c.tv := (v7.ext x8).only g9.only (fun hm => by have := hlt _ hm; omega)
  have o7' : Own 68 67 h9 s7 (its S) := (o7.ext x8).only g9.only (fun q hq hm => by have := f7 q hq; have := hlt _ hm; omega)
  refine newTV_in fun h10 v10 x10 s10 => put_in v10 (t := gone.tv) rfl fun h11 v11 o11 s11 => ?_
  have x911 : Ext h9 h11 := Only.cut x10 o11 fun j hj => by omega
  have r11 := r9.step x911
  have few9 := r9.p.few
  refine all_spec r11.p fun h12 s12 o12 x12' _ => ⟨s12, rfl, ?_⟩
  have r12 := r11.step x12'
  have v12 := (v9.ext x911).ext x12'
  have l12 := o12.len
  have l7 := o7.len
  rw [List.length_map] at l12 l7
  have again : ∀ hz, Ext h12 hz → (0 ≤ i + 1 ∧ i + 1 ≤ l.length ∧ ∃ A S, Runs h2 hz h2.size most quota A S) ∧ ((l.length : Int) - (i + 1)).toNat < ((l.length : Int) - i).toNat := fun hz xz => ⟨⟨by omega, by omega, _, _, r12.step xz⟩, by omega⟩
  have hw : IntKind.wrap .i64 (i + 1) = i + 1 := wrap_i64 (by omega) (by omega)
  refine If.dec.2 ⟨fun h1 => ?_, fun h1 => ?_⟩
  · obtain ⟨q1, q2⟩ := say1 h1
    rw [wrap_i64 (n := (s7.len : Int) + 1) (by omega) (by omega)]
    refine If.split (fun hne => ?_) (fun _ => ?_)
    · simp at hne
      omega
    refine v_cl (x := c) v12 ?_
    refine item_spec c fun h13 x13 => ⟨_, _, _, _, _, rfl, ?_⟩
    refine has_spec (r := c.item.root) (r12.step x13).p fun h14 x14 => ⟨_, rfl, ?_⟩
    rw [q2]
    refine If.no ?_
    rw [hw]
    exact again _ (x13.trans x14)
  · refine If.dec.2 ⟨fun h2' => ?_, fun h2' => ?_⟩
    · obtain ⟨q1, q2, q3, q4⟩ := say2 h2'
      intro J hJ
      refine If.split (fun hne => ?_) (fun _ => ?_)
      · simp at hne
        omega
      have v11' : Var 32 h12 h9.size gone.tv := v11.ext x12'
      refine ⟨gone.root, v_root v11', ?_⟩
      refine has_spec r12.p fun h13 x13 => ⟨_, rfl, ?_⟩
      rw [q3]
      refine If.no (v_cl (x := c) (v12.ext x13) ?_)
      refine item_spec c fun h14 x14 => ⟨_, _, _, _, _, rfl, ?_⟩
      refine has_spec (r := c.item.root) ((r12.step x13).step x14).p fun h15 x15 => ⟨_, rfl, ?_⟩
      rw [q2]
      refine If.no (hJ _ _ ?_)
      have xx := (x13.trans x14).trans x15
      refine ⟨fun s hz => 0 ≤ s.2 ∧ s.2 ≤ S'.length ∧ Ext h12 hz, fun s _ => ((S'.length : Int) - s.2).toNat, ⟨Int.le_refl _, Int.natCast_nonneg _, xx⟩, ?_⟩
      rintro ⟨y0, j⟩ hz ⟨j0, j1, xz⟩
      simp only at j0 j1 ⊢
      refine If.dec.2 ⟨fun hj => ?_, fun hj => ?_⟩
      · refine its_at (o12.elems.ext xz) j0 (by omega) fun q y _ hy => ?_
        refine newTV_in fun h16 v16 x16 s16 => put_in v16 (t := y.tv) rfl fun h17 v17 o17 s17 => ?_
        have x617 : Ext hz h17 := Only.cut x16 o17 fun k hk => by omega
        refine v_it (x := y) v17 (v_it (x := gone) ((v11'.ext xz).ext x617) ?_)
        refine before_spec (x := y) (y := gone) fun h18 x18 => ⟨_, rfl, ?_⟩
        rw [q4 y (List.mem_of_getElem? hy)]
        refine If.no ?_
        rw [wrap_i64 (n := j + 1) (by omega) (by omega)]
        exact ⟨⟨by omega, by omega, xz.trans (x617.trans x18)⟩, by first | omega | (dsimp only; omega)⟩
      · rw [hw]
        exact again _ xz
    · have hS' := say3 h1 h2'
      subst hS'
      refine plain_spec o12.elems (by omega) fun h13 s13 o13 x13 _ => ⟨s13, rfl, ?_⟩
      refine same_spec o13.elems ((o7'.ext x911).ext (x12'.trans x13)).elems (by omega) ⟨_, rfl, ?_⟩
      rw [decide_eq_true rfl]
      refine If.no ?_
      rw [hw]
      exact again _ x13

end
end Go.Proofs.Ytjadpjbiiidioaa.Pool
