/- PoolTurned, PoolPeers. -/
import Derived.Test.YtjadpjbiiidioaaPoolI
namespace Go.Proofs.Ytjadpjbiiidioaa.Pool
open Go Go.Vc

/-- Two pools side by side. -/
structure Two (h0 h : Heap) (b1 b2 : Nat) (m1 q1 m2 q2 : Int) (A1 A2 : Sl) (S1 S2 : List It) : Prop where
  one : Runs h0 h b1 m1 q1 A1 S1
  two : Runs h0 h b2 m2 q2 A2 S2
  dj : ∀ i, Mine b1 A1 i → ¬ Mine b2 A2 i

section
variable {R : Value → Heap → Prop} {h h0 : Heap} {b b1 b2 : Nat} {A A1 A2 : Sl} {L S S1 S2 : List It} {most quota m1 q1 m2 q2 : Int}

theorem Two.symm (t : Two h0 h b1 b2 m1 q1 m2 q2 A1 A2 S1 S2) : Two h0 h b2 b1 m2 q2 m1 q1 A2 A1 S2 S1 := ⟨t.two, t.one, fun i h2 h1 => t.dj i h1 h2⟩
theorem Two.step {h1 : Heap} (t : Two h0 h b1 b2 m1 q1 m2 q2 A1 A2 S1 S2) (x : Ext h h1) : Two h0 h1 b1 b2 m1 q1 m2 q2 A1 A2 S1 S2 := ⟨t.one.step x, t.two.step x, t.dj⟩

theorem Two.after {h' : Heap} {A' : Sl} {S' : List It} (t : Two h0 h b1 b2 m1 q1 m2 q2 A1 A2 S1 S2) (r : Runs h0 h' b1 m1 q1 A' S') (g : Grown b1 A1 h A' h') : Two h0 h' b1 b2 m1 q1 m2 q2 A' A2 S' S2 := by
  refine ⟨r, ⟨t.two.p.only g.only (fun i hi hm => t.dj i hm hi), t.two.ok, t.two.mine, r.ext⟩, fun i hi h2 => ?_⟩
  rcases g.new i hi with h9 | h9
  · exact t.dj i h9 h2
  · have := t.two.p.lt h2
    omega

theorem put1_spec (t : Two h0 h b1 b2 m1 q1 m2 q2 A1 A2 S1 S2) (hq : 1 ≤ m1 ∧ m1 ≤ 64 ∧ 1 ≤ q1 ∧ q1 ≤ 64) (x : It)
    (hr : ∀ h' A', Two h0 h' b1 b2 m1 q1 m2 q2 A' A2 (putS m1 q1 x S1).2.2 S2 → Grown b1 A1 h A' h' → R (TV.tup [.int .i64 (putS m1 q1 x S1).1, (putS m1 q1 x S1).2.1.tv]).val h') :
    CallsH Try.prog 13 (TVs.vals [.ptr (some ⟨b1, 0⟩), x.tv]) h R :=
  rput_spec t.one hq x fun h' A' r g => hr h' A' (t.after r g) g

theorem put2_spec (t : Two h0 h b1 b2 m1 q1 m2 q2 A1 A2 S1 S2) (hq : 1 ≤ m2 ∧ m2 ≤ 64 ∧ 1 ≤ q2 ∧ q2 ≤ 64) (x : It)
    (hr : ∀ h' A', Two h0 h' b1 b2 m1 q1 m2 q2 A1 A' S1 (putS m2 q2 x S2).2.2 → Grown b2 A2 h A' h' → R (TV.tup [.int .i64 (putS m2 q2 x S2).1, (putS m2 q2 x S2).2.1.tv]).val h') :
    CallsH Try.prog 13 (TVs.vals [.ptr (some ⟨b2, 0⟩), x.tv]) h R :=
  put1_spec t.symm hq x fun h' A' t' o => hr h' A' t'.symm o

theorem Two.new (hq1 : 1 ≤ m1 ∧ m1 ≤ 64 ∧ 1 ≤ q1 ∧ q1 ≤ 64) (hq2 : 1 ≤ m2 ∧ m2 ≤ 64 ∧ 1 ≤ q2 ∧ q2 ≤ 64) {h1 h2 : Heap} (p : PL h1 h.size Sl.nil [] m1 q1) (x : Ext h h1) (s : h1.size = h.size + 1) (p2 : PL h2 h1.size Sl.nil [] m2 q2) (x2 : Ext h1 h2) :
    Two h h2 h.size h1.size m1 q1 m2 q2 Sl.nil Sl.nil [] [] := by
  refine ⟨(Runs.new hq1 p x).step x2, ⟨p2, (Runs.new hq2 p2 x2).ok, fun i hi => ?_, x.trans x2⟩, fun i hi hi2 => ?_⟩
  · have := mine_new h1 i hi
    omega
  · rcases hi with rfl | ⟨l, hl, _⟩
    · have := mine_new h1 _ hi2
      omega
    · cases hl

/-! ### PoolTurned -/

/-- Few items, and much room: each is parked, or there already. -/
theorem putS_few (x : It) (hl : S.length < 64) : (putS 64 64 x S).1 = 1 ∧ (putS 64 64 x S).2.2 = insIt x S ∨ (putS 64 64 x S).1 = 9 := by
  have hc : cnt x.peer S ≤ S.length := List.countP_le_length
  unfold putS
  split
  · exact .inr rfl
  · rw [if_neg (by omega), if_pos (by omega)]
    exact .inl ⟨rfl, rfl⟩

theorem turn_lt {n : Nat} (i by_ : Nat) (hn : 0 < n) : n - 1 - (i + by_) % n < n := by omega

theorem poolTurned_whole {s : Sl} {l : List Cl} {turn : Int} (i : Elems 5 h s (cls l) ∧ ∀ c ∈ l, c.fit) (hr : ∀ h', Ext h h' → R (TV.bool true).val h') :
    CallsH Try.prog 3 (TVs.vals [.slice s, .int .i64 turn]) h R := by
  obtain ⟨e, _⟩ := i
  apply tollerlaw15_PoolTurned_calls
  unfold tollerlaw15_PoolTurned_vc
  have hel := e.len
  rw [List.length_map] at hel
  refine alive_spec fun h1 x1 => ⟨_, rfl, If.no ?_⟩
  intro J hJ
  refine great_spec (e.ext x1) fun h2 x2 => ⟨_, rfl, ?_⟩
  have x12 := x1.trans x2
  cases hg : greatB l with
  | true => exact If.yes (hr _ x12)
  | false =>
  refine If.no (If.dec.2 ⟨fun _ => hr _ x12, fun h60 => If.dec.2 ⟨fun _ => hr _ x12, fun h0 => hJ _ _ ?_⟩⟩)
  have hn : 0 < l.length ∧ l.length ≤ 60 := by omega
  have q64 : (1 : Int) ≤ 64 ∧ (64 : Int) ≤ 64 ∧ (1 : Int) ≤ 64 ∧ (64 : Int) ≤ 64 := by decide
  refine new_spec (fun hx => absurd q64 hx) fun _ h3 p3 x3 s3 => ⟨_, rfl, ?_⟩
  refine new_spec (fun hx => absurd q64 hx) fun _ h4 p4 x4 s4 => ⟨_, rfl, ?_⟩
  have t4 := Two.new q64 q64 p3 x3 s3 p4 x4
  have hwl : IntKind.wrap .u64 (s.len : Int) = s.len := by simp [IntKind.wrap, IntKind.bits, IntKind.signed]; omega
  rw [hwl]
  have hb0 : 0 ≤ IntKind.wrap .u64 turn := by
    simp [IntKind.wrap, IntKind.bits, IntKind.signed]
    omega
  obtain ⟨t, ht⟩ : ∃ t : Nat, IntKind.wrap .u64 turn = t := ⟨(IntKind.wrap .u64 turn).toNat, by omega⟩
  rw [ht]
  have hby : Int.tmod (t : Int) (s.len : Int) = ((t % l.length : Nat) : Int) := by
    rw [Int.tmod_eq_emod_of_nonneg (by omega), ← hel]
    rfl
  rw [hby]
  have hbl : t % l.length < l.length := Nat.mod_lt _ hn.1
  rw [wrap_i64 (n := ((t % l.length : Nat) : Int)) (by omega) (by omega)]
  generalize hbyd : t % l.length = by_ at hbl
  refine ⟨by omega, ?_⟩
  have e2 := e.ext x12
  refine ⟨fun s hh => 0 ≤ s.2 ∧ s.2 ≤ l.length ∧ ∃ A1 A2 S1 S2, Two h2 hh h2.size h3.size 64 64 64 64 A1 A2 S1 S2 ∧ S1.length = s.2.toNat ∧ S2.length = s.2.toNat ∧ (∀ x, x ∈ S1 ↔ ∃ k c, k < s.2.toNat ∧ l[k]? = some c ∧ x = c.item) ∧
      (∀ x, x ∈ S2 ↔ ∃ k c, k < s.2.toNat ∧ l[l.length - 1 - (k + by_) % l.length]? = some c ∧ x = c.item), fun s _ => ((l.length : Int) - s.2).toNat,
    ⟨Int.le_refl _, Int.natCast_nonneg _, _, _, _, _, t4, rfl, rfl, fun x => ⟨fun hx => (by cases hx), fun ⟨k, c, hk, _⟩ => absurd hk (Nat.not_lt_zero _)⟩, fun x => ⟨fun hx => (by cases hx), fun ⟨k, c, hk, _⟩ => absurd hk (Nat.not_lt_zero _)⟩⟩, ?_⟩
  rintro ⟨u0, i⟩ hh ⟨i0, i1, A1, A2, S1, S2, tw, l1, l2, mem1, mem2⟩
  simp only at i0 i1 l1 l2 mem1 mem2 ⊢
  have few1 := tw.one.p.few
  refine If.dec.2 ⟨fun hi => ?_, fun hi => ?_⟩
  · refine cls_at (e2.ext tw.one.ext) i0 (by omega) fun p c _ hc => ?_
    refine item_spec c fun h5 x5 => ⟨_, _, _, _, _, rfl, ?_⟩
    refine put1_spec (tw.step x5) q64 c.item fun h6 A6 t6 o6 => ⟨_, _, _, _, _, _, rfl, ?_⟩
    refine newTV_in fun h7 v7 x7 s7 => put_in v7 (t := (putS 64 64 c.item S1).2.1.tv) rfl fun h8 v8 o8 s8 => ?_
    have x68 : Ext h6 h8 := Only.cut x7 o8 fun j hj => by omega
    have t8 := t6.step x68
    obtain ⟨k, hk⟩ : ∃ k : Nat, i = k := ⟨i.toNat, by omega⟩
    subst hk
    have hkt : ((k : Int)).toNat = k := rfl
    rw [hkt] at l1 l2 mem1 mem2 hc
    have hidx : IntKind.wrap .i64 (IntKind.wrap .i64 ((s.len : Int) - 1) - Int.tmod (IntKind.wrap .i64 ((k : Int) + (by_ : Int))) (s.len : Int)) = ((l.length - 1 - (k + by_) % l.length : Nat) : Int) := by
      rw [wrap_i64 (n := (s.len : Int) - 1) (by omega) (by omega), wrap_i64 (n := (k : Int) + by_) (by omega) (by omega)]
      have : Int.tmod ((k : Int) + (by_ : Int)) (s.len : Int) = (((k + by_) % l.length : Nat) : Int) := by
        rw [Int.tmod_eq_emod_of_nonneg (by omega), ← hel]
        rfl
      rw [this]
      have hm : (k + by_) % l.length < l.length := Nat.mod_lt _ hn.1
      rw [wrap_i64 (by omega) (by omega)]
      omega
    rw [hidx]
    refine ⟨by omega, ?_⟩
    refine cls_at (e2.ext t8.one.ext) (by omega) (by have := turn_lt k by_ hn.1; omega) fun p2 c2 _ hc2 => ?_
    rw [show (((l.length - 1 - (k + by_) % l.length : Nat) : Int)).toNat = l.length - 1 - (k + by_) % l.length from rfl] at hc2
    refine item_spec c2 fun h9 x9 => ⟨_, _, _, _, _, rfl, ?_⟩
    refine put2_spec (t8.step x9) q64 c2.item fun h10 A10 t10 o10 => ⟨_, _, _, _, _, _, rfl, ?_⟩
    refine newTV_in fun h11 v11 x11 s11 => put_in v11 (t := (putS 64 64 c2.item S2).2.1.tv) rfl fun h12 v12 o12 s12 => ?_
    have x1012 : Ext h10 h12 := Only.cut x11 o12 fun j hj => by omega
    have t12 := t10.step x1012
    have xx := x12.trans t12.one.ext
    intro J2 hJ2
    have stop : J2 true h12 := by
      refine hJ2 _ _ (If.yes ?_)
      rcases putS_few (S := S1) c.item (by omega) with ⟨h9, _⟩ | h9
      · rw [h9]; exact If.yes (hr _ xx)
      · rw [h9]; exact If.no (If.yes (hr _ xx))
    rcases putS_few (S := S1) c.item (by omega) with ⟨h9, e9⟩ | h9
    · rw [h9]
      refine If.no ?_
      rcases putS_few (S := S2) c2.item (by omega) with ⟨h10', e10⟩ | h10'
      · rw [h10']
        refine hJ2 _ _ (If.no ?_)
        rw [wrap_i64 (n := (k : Int) + 1) (by omega) (by omega)]
        rw [e9, e10] at t12
        have hk1 : ((k : Int) + 1).toNat = k + 1 := by omega
        refine ⟨⟨by omega, by omega, _, _, _, _, t12, ?_, ?_, fun x => ?_, fun x => ?_⟩, by first | omega | (dsimp only; omega)⟩
        · rw [(insIt_perm _ _).length_eq, List.length_cons, l1]; omega
        · rw [(insIt_perm _ _).length_eq, List.length_cons, l2]; omega
        · rw [(insIt_perm _ _).mem_iff, List.mem_cons, mem1, hk1]
          constructor
          · rintro (rfl | ⟨k', c', h1, h2, h3⟩)
            · exact ⟨k, c, by omega, hc, rfl⟩
            · exact ⟨k', c', by omega, h2, h3⟩
          · rintro ⟨k', c', h1, h2, h3⟩
            by_cases ek : k' = k
            · subst ek
              rw [hc] at h2
              cases h2
              exact .inl h3
            · exact .inr ⟨k', c', by omega, h2, h3⟩
        · rw [(insIt_perm _ _).mem_iff, List.mem_cons, mem2, hk1]
          constructor
          · rintro (rfl | ⟨k', c', h1, h2, h3⟩)
            · exact ⟨k, c2, by omega, hc2, rfl⟩
            · exact ⟨k', c', by omega, h2, h3⟩
          · rintro ⟨k', c', h1, h2, h3⟩
            by_cases ek : k' = k
            · subst ek
              rw [hc2] at h2
              cases h2
              exact .inl h3
            · exact .inr ⟨k', c', by omega, h2, h3⟩
      · rw [h10']
        exact stop
    · rw [h9]
      exact stop
  · have hi2 : i.toNat = l.length := by omega
    rw [hi2] at mem1 mem2
    have heq : S1 = S2 := by
      refine srt_unique tw.one.p.srt tw.two.p.srt ((List.perm_ext_iff_of_nodup (srt_nodup tw.one.p.srt) (srt_nodup tw.two.p.srt)).2 fun x => ?_)
      rw [mem1, mem2]
      constructor
      · rintro ⟨k, c, h1, h2, h3⟩
        refine ⟨(l.length - 1 - k + (l.length - by_)) % l.length, c, Nat.mod_lt _ hn.1, ?_, h3⟩
        have : ((l.length - 1 - k + (l.length - by_)) % l.length + by_) % l.length = l.length - 1 - k := by
          rw [Nat.mod_add_mod]
          have e1 : l.length - 1 - k + (l.length - by_) + by_ = (l.length - 1 - k) + l.length := by omega
          rw [e1, Nat.add_mod_right, Nat.mod_eq_of_lt (by omega)]
        rw [this, show l.length - 1 - (l.length - 1 - k) = k by omega]
        exact h2
      · rintro ⟨k, c, h1, h2, h3⟩
        exact ⟨_, c, turn_lt k by_ hn.1, h2, h3⟩
    subst heq
    refine all_spec tw.one.p fun h5 s5 o5 x5 _ => ⟨s5, rfl, ?_⟩
    refine plain_spec o5.elems (by omega) fun h6 s6 o6 x6 _ => ⟨s6, rfl, ?_⟩
    have t6 := tw.step (x5.trans x6)
    refine all_spec t6.two.p fun h7 s7 o7 x7 _ => ⟨s7, rfl, ?_⟩
    refine plain_spec o7.elems (by omega) fun h8 s8 o8 x8 _ => ⟨s8, rfl, ?_⟩
    refine same_spec (o6.ext (x7.trans x8)).elems o8.elems (by omega) ⟨_, rfl, ?_⟩
    rw [decide_eq_true rfl]
    exact hr _ (x12.trans (t6.one.ext.trans (x7.trans x8)))

end
end Go.Proofs.Ytjadpjbiiidioaa.Pool
