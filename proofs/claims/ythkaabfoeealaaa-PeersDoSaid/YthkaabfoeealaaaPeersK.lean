/- In every row of calls peers answer what the document says. -/
import Derived.Test.YthkaabfoeealaaaPeersJ
import Derived.Test.YthkaabfoeealaaaPeersF
import Derived.Test.YthkaabfoeealaaaVsPeersD
namespace Go.Proofs.Ythkaabfoeealaaa.Peers
open Go Go.Vc

section
variable {R : Value → Heap → Prop} {h h' : Heap} {b r : Nat} {A B : Sl} {L : List (Int × Int)} {most ban decay gone : Int}

theorem failTo_perm {L2 L' L2' : List (Int × Int)} {k pts g g2 : Int} (hp : L.Perm L2) (hn : (keys L).Nodup) (f : FailTo most L k pts L' g) (f2 : FailTo most L2 k pts L2' g2) : L'.Perm L2' ∧ g = g2 := by
  have hk : k ∈ keys L ↔ k ∈ keys L2 := (hp.map (·.1)).mem_iff
  have hl := hp.length_eq
  rcases f with ⟨a, rfl, rfl⟩ | ⟨a, b, rfl, rfl⟩ | ⟨a, b, c, rfl, w, hw, rfl⟩
  · rcases f2 with ⟨_, rfl, rfl⟩ | ⟨a2, _⟩ | ⟨a2, _⟩
    · exact ⟨hp, rfl⟩
    · omega
    · omega
  · rcases f2 with ⟨a2, _⟩ | ⟨_, _, rfl, rfl⟩ | ⟨_, b2, c2, _⟩
    · omega
    · rw [← score_perm hp hn]
      exact ⟨put_perm hp hn _ _, rfl⟩
    · rcases b with b | b
      · exact absurd (hk.1 b) b2
      · omega
  · rcases f2 with ⟨a2, _⟩ | ⟨_, b2, _⟩ | ⟨_, _, _, rfl, w2, hw2, rfl⟩
    · omega
    · rcases b2 with b2 | b2
      · exact absurd (hk.2 b2) b
      · omega
    · have := (hw.perm hp hn).unique hw2
      subst this
      exact ⟨put_perm (drop_perm hp hn _) (drop_keys hn _) _ _, rfl⟩

theorem Fail_nil {k pts : Int} (hr : R (TV.tup []).val h) : CallsH Try.prog 12 (TVs.vals [.ptr none, .int .i64 k, .int .i64 pts]) h R := by
  apply peers_Peers_Fail_calls
  unfold peers_Peers_Fail_vc
  intro J _
  exact If.yes hr
theorem Tick_nil (hr : R (TV.tup []).val h) : CallsH Try.prog 11 (TVs.vals [.ptr none]) h R := by
  apply peers_Peers_Tick_calls
  exact If.yes hr
theorem Score_nil {k : Int} (hr : R (TV.int .i64 0).val h) : CallsH Try.prog 14 (TVs.vals [.ptr none, .int .i64 k]) h R := by
  apply peers_Peers_Score_calls
  exact If.yes hr
theorem Banned_nil {k : Int} (hr : R (TV.bool false).val h) : CallsH Try.prog 15 (TVs.vals [.ptr none, .int .i64 k]) h R := by
  apply peers_Peers_Banned_calls
  exact If.no hr
theorem Known_nil (hr : R (TV.slice Sl.nil).val h) : CallsH Try.prog 13 (TVs.vals [.ptr none]) h R := by
  apply peers_Peers_Known_calls
  exact If.yes hr
theorem Gone_nil (hr : R (TV.int .i64 0).val h) : CallsH Try.prog 16 (TVs.vals [.ptr none]) h R := by
  apply peers_Peers_Gone_calls
  exact If.yes hr

theorem Good.perm {L2 : List (Int × Int)} (g : Good L) (hp : L.Perm L2) : Good L2 :=
  ⟨(hp.map _).nodup_iff.1 g.one, fun k hk => g.fit k ((hp.map (·.1)).mem_iff.2 hk), fun e he => g.low e (hp.mem_iff.2 he)⟩

theorem peersDo_spec (hd : DropOk) {s : Sl} {cs : List Call} {odd : Int} (hs : Calls h s cs) (hr : ∀ h', Ext h h' → R (TV.bool true).val h') :
    CallsH Try.prog 5 (TVs.vals [.int .i64 most, .int .i64 ban, .int .i64 decay, .slice s, .int .i64 odd]) h R := by
  apply tollerlaw18_PeersDo_calls
  unfold tollerlaw18_PeersDo_vc
  refine alive_spec fun h1 x1 => ⟨_, rfl, If.no ?_⟩
  have hlen := hs.len
  refine If.dec.2 ⟨fun _ => hr _ x1, fun h200 => ?_⟩
  refine Fail_nil ⟨rfl, Tick_nil ⟨rfl, ?_⟩⟩
  intro J0 hJ0
  refine Score_nil ⟨_, rfl, If.no (Banned_nil ⟨_, rfl, If.no (Known_nil ⟨_, rfl, If.no (Gone_nil ⟨_, rfl, If.no (hJ0 _ _ ?_)⟩)⟩)⟩)⟩
  by_cases hv : Valid most ban decay
  · refine New_spec (fun _ h2 x2 p2 => ⟨_, rfl, ?_⟩) (fun hn => absurd hv hn)
    refine RNew_spec fun h3 ok x3 q3 s3 hok => ⟨_, ok, rfl, ?_⟩
    have hokt := hok.2 hv
    subst hokt
    intro J1 hJ1
    refine If.no (If.no (hJ1 _ _ ?_))
    have gp2 := p2.var.lt
    have hv' := hv
    unfold Valid at hv'
    refine ⟨fun s' hh => 0 ≤ s'.2 ∧ s'.2 ≤ cs.length ∧ Ext h1 hh ∧ ∃ L g A B L2, Pe hh (h1.size + 1) h1.size L most ban decay g ∧ Rf hh h2.size A B L2 most ban decay g ∧ L.Perm L2 ∧ (∀ i, Mine h2.size A B i → h2.size ≤ i) ∧ 0 ≤ g ∧ g ≤ s'.2,
      fun s' _ => ((cs.length : Int) - s'.2).toNat, ⟨Int.le_refl _, Int.natCast_nonneg _, x2.trans x3, [], 0, Sl.nil, Sl.nil, [], p2.ext x3, q3, List.Perm.refl _, ?_, Int.le_refl _, Int.le_refl _⟩, ?_⟩
    · rintro i (rfl | ⟨l, hl, _⟩ | ⟨l, hl, _⟩)
      · exact Nat.le_refl _
      · cases hl
      · cases hl
    rintro ⟨u, i⟩ hh ⟨i0, i1, x, L, g, A, B, L2, p, q, hperm, hmine, g0, g1⟩
    simp only at i0 i1 g1 ⊢
    refine If.dec.2 ⟨fun hi => ?_, fun hi => hr _ (x1.trans x)⟩
    refine (hs.ext (x1.trans x)).at i0 (by omega) fun l c hc hw a0 a1 a2 => ⟨c.tick, c.peer, c.pts, ⟨a0, a1, a2⟩, ?_⟩
    obtain ⟨w3, h4, e3, v3, x4, s4⟩ := newput_spec hh (.agg [.bool false, .int .i64 0, .int .i64 0]) (.agg [.bool c.tick, .int .i64 c.peer, .int .i64 c.pts]) 27 rfl
    refine ⟨w3, ?_⟩
    rw [e3]
    intro J2 hJ2
    have p4 := p.ext x4
    have q4 := q.ext x4
    have x14 := x.trans x4
    have hmlt : ∀ i, Mine h2.size A B i → i < hh.size := fun i hi => q.lt hi
    have hxs := x2.size
    have rest : ∀ (h5 : Heap) (L5 L6 : List (Int × Int)) (g5 : Int) (A5 B5 : Sl), Pe h5 (h1.size + 1) h1.size L5 most ban decay g5 → Rf h5 h2.size A5 B5 L6 most ban decay g5 → L5.Perm L6 → (∀ i, Mine h2.size A5 B5 i → h2.size ≤ i) →
        Ext h1 h5 → Var 27 h5 hh.size (.agg [.bool c.tick, .int .i64 c.peer, .int .i64 c.pts]) → 0 ≤ g5 → g5 ≤ i + 1 → J2 PUnit.unit h5 := by
      intro h5 L5 L6 g5 A5 B5 p5 q5 hp5 hm5 x5 v5 g50 g51
      refine hJ2 _ _ ?_
      have hl5 := p5.len
      have hl6 := hp5.length_eq
      have hn5 := p5.good.one
      have hsl := srt_length L5
      refine Known_spec p5 fun h6 s6 x6 o6 _ => ⟨s6, rfl, ?_⟩
      refine RKnown_spec (q5.ext x6) (by omega) fun h7 s7 x7 o7 => ⟨s7, rfl, ?_⟩
      have p7 := (p5.ext x6).ext x7
      have q7 := (q5.ext x6).ext x7
      have v7 := (v5.ext x6).ext x7
      refine Same_spec (o6.ext x7).elems o7.elems (srt_congr hp5) (by omega) ⟨_, rfl, If.no ?_⟩
      refine ⟨g5, q7.var.at1 rfl, ?_⟩
      refine Gone_spec p7 ⟨_, rfl, Ext.refl _, ?_⟩
      rw [decide_eq_true rfl]
      have hsc : ∀ k, score L6 k = score L5 k := fun k => (score_perm hp5 hn5 k).symm
      refine If.no (Score_spec p7 ⟨_, rfl, RScore_spec q7 (by omega) ⟨_, rfl, ?_⟩⟩)
      rw [hsc, decide_eq_true rfl]
      refine If.no ⟨c.peer, v7.at1 rfl, c.peer, v7.at1 rfl, ?_⟩
      refine Score_spec p7 ⟨_, rfl, Ext.refl _, RScore_spec q7 (by omega) ⟨_, rfl, ?_⟩⟩
      rw [hsc, decide_eq_true rfl]
      refine If.no ⟨c.peer, v7.at1 rfl, c.peer, v7.at1 rfl, ?_⟩
      refine Banned_spec p7 ⟨_, rfl, Ext.refl _, RBanned_spec q7 (by omega) (fun k => by rw [hsc]; exact score_low p5.good k) ⟨_, rfl, ?_⟩⟩
      rw [hsc]
      have hban : decide (ban ≤ -score L5 c.peer) = decide (score L5 c.peer ≤ -ban) := by rw [decide_eq_decide]; omega
      rw [hban]
      have ebb : ∀ b : Bool, (!b == b) = false := by decide
      have enb : ∀ b : Bool, (! (b == b)) = false := by decide
      rw [show (!decide (score L5 c.peer ≤ -ban) == decide (score L5 c.peer ≤ -ban)) = false by first | exact ebb _ | exact enb _]
      rw [wrap_i64 (n := i + 1) (by omega) (by omega)]
      exact If.no ⟨⟨by omega, by omega, (x5.trans x6).trans x7, L5, g5, A5, B5, L6, p7, q7, hp5, hm5, g50, g51⟩, by omega⟩
    have grown : ∀ {A5 B5 : Sl} {h5 h6 : Heap}, hh.size ≤ h5.size → Grown h2.size A B h5 A5 B5 h6 → ∀ i, Mine h2.size A5 B5 i → h2.size ≤ i := by
      intro A5 B5 h5 h6 hle gg i hi
      rcases gg.2 i hi with h9 | h9
      · exact hmine i h9
      · have := x.size
        have := x2.size
        have := hmlt h2.size (.inl rfl)
        omega
    have apart : ∀ i, Mine h2.size A B i → ¬ (i = h1.size + 1 ∨ i = h1.size) := fun i hi => by have := hmine i hi; omega
    have h2hh := hmlt h2.size (.inl rfl)
    refine ⟨c.tick, v3.at1 rfl, If.split (fun _ => ?_) (fun _ => ?_)⟩
    · refine Tick_spec p4 fun h5 p5 o5 => ⟨rfl, ?_⟩
      have q5 := q4.only o5 apart
      have v5 := v3.only o5 (by omega)
      have x5 := cut2 x14 o5 (by omega) (by omega)
      have hl4 := p.len
      have hl6 := hperm.length_eq
      have hG2 := p.good.perm hperm
      refine RTick_spec hd q5 (by omega) hG2.low ⟨by omega, by omega⟩ fun h6 A6 B6 q6 g6 => ⟨rfl, ?_⟩
      have p6 := p5.only g6.1 (fun hx => apart _ hx (.inl rfl)) (fun hx => apart _ hx (.inr rfl))
      have v6 := v5.only g6.1 (fun hx => by have := hmlt _ hx; omega)
      have x6 : Ext h1 h6 := Only.cut x5 g6.1 (fun i hi => by have := hmine i hi; omega)
      exact rest h6 _ _ g A6 B6 p6 q6 (tick_perm hperm) (grown (by have := x4.size; have := o5.size; omega) g6) x6 v6 g0 (by omega)
    · refine ⟨c.peer, v3.at1 rfl, c.pts, v3.at1 rfl, ?_⟩
      refine Fail_spec p4 hw (by omega) fun h5 L5 g5 f5 p5 o5 => ⟨rfl, ?_⟩
      have q5 := q4.only o5 apart
      have v5 := v3.only o5 (by omega)
      have x5 := cut2 x14 o5 (by omega) (by omega)
      have hl4 := p.len
      have hl6 := hperm.length_eq
      have hG2 := p.good.perm hperm
      refine ⟨c.peer, v5.at1 rfl, c.pts, v5.at1 rfl, ?_⟩
      refine RFail_spec hd q5 (by omega) hG2 hw (by omega) (by omega) fun h6 A6 B6 L6 g6 f6 q6 gr6 => ⟨rfl, ?_⟩
      obtain ⟨hp6, hge⟩ := failTo_perm hperm p.good.one f5 f6
      subst hge
      have hgg := failTo_gone f5
      have p6 := p5.only gr6.1 (fun hx => apart _ hx (.inl rfl)) (fun hx => apart _ hx (.inr rfl))
      have v6 := v5.only gr6.1 (fun hx => by have := hmlt _ hx; omega)
      have x6 : Ext h1 h6 := Only.cut x5 gr6.1 (fun i hi => by have := hmine i hi; omega)
      exact rest h6 _ _ _ A6 B6 p6 q6 hp6 (grown (by have := x4.size; have := o5.size; omega) gr6) x6 v6 (by omega) (by omega)
  · refine New_spec (fun hv' => absurd hv' hv) (fun _ => ⟨_, rfl, ?_⟩)
    refine RNew_spec fun h3 ok x3 q3 s3 hok => ⟨_, ok, rfl, ?_⟩
    have hokf : ok = false := by
      cases ok with
      | false => rfl
      | true => exact absurd (hok.1 rfl) hv
    subst hokf
    intro J1 hJ1
    exact If.yes (If.yes (hr _ (x1.trans x3)))

end
end Go.Proofs.Ythkaabfoeealaaa.Peers
