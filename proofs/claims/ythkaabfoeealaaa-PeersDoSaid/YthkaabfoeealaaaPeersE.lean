/- The laws of peers: bounds, splitting, ticks. -/
import Derived.Test.YthkaabfoeealaaaPeersD
import Derived.Test.YthkaabfoeealaaaVsPeersL
namespace Go.Proofs.Ythkaabfoeealaaa.Peers
open Go Go.Vc

section
variable {R : Value → Heap → Prop} {h h' : Heap} {b r : Nat} {L : List (Int × Int)} {most ban decay gone : Int}

theorem cut2 {h h1 h2 : Heap} {b r : Nat} (x : Ext h h1) (o : Only (fun i => i = b ∨ i = r) h1 h2) (hb : h.size ≤ b) (hr : h.size ≤ r) : Ext h h2 :=
  Only.cut x o (by rintro i (rfl | rfl) <;> assumption)

theorem failTo_gone {k pts g : Int} {L' : List (Int × Int)} (f : FailTo most L k pts L' g) : 0 ≤ g ∧ g ≤ 1 := by
  rcases f with ⟨_, _, rfl⟩ | ⟨_, _, rfl, _⟩ | ⟨_, _, _, rfl, _⟩ <;> omega

theorem peersBound_spec {s : Sl} {cs : List Call} (hs : Calls h s cs) (hr : ∀ h', Ext h h' → R (TV.bool true).val h') :
    CallsH Try.prog 3 (TVs.vals [.int .i64 most, .int .i64 ban, .int .i64 decay, .slice s]) h R := by
  apply tollerlaw18_PeersBound_calls
  unfold tollerlaw18_PeersBound_vc
  refine alive_spec fun h1 x1 => ⟨_, rfl, If.no ?_⟩
  have hlen := hs.len
  refine If.dec.2 ⟨fun _ => hr _ x1, fun h200 => ?_⟩
  refine New_spec (fun hv h2 x2 p2 => ⟨_, rfl, If.no ?_⟩) (fun _ => ⟨_, rfl, If.yes (hr _ x1)⟩)
  refine ⟨fun s' hh => 0 ≤ s'.2 ∧ s'.2 ≤ cs.length ∧ Ext h1 hh ∧ ∃ L gone, Pe hh (h1.size + 1) h1.size L most ban decay gone ∧ 0 ≤ gone ∧ gone ≤ s'.2, fun s' _ => ((cs.length : Int) - s'.2).toNat, ⟨by simp, by simp, x2, [], 0, p2, by simp, by simp⟩, ?_⟩
  rintro ⟨u, i⟩ hh ⟨i0, i1, x, L, g, p, g0, g1⟩
  simp only at i0 i1 g1 ⊢
  refine If.dec.2 ⟨fun hi => ?_, fun hi => hr _ (x1.trans x)⟩
  refine (hs.ext (x1.trans x)).at i0 (by omega) fun l c hc hw a0 a1 a2 => ⟨c.tick, c.peer, c.pts, ⟨a0, a1, a2⟩, ?_⟩
  obtain ⟨w3, h3, e3, v3, x3, s3⟩ := newput_spec hh (.agg [.bool false, .int .i64 0, .int .i64 0]) (.agg [.bool c.tick, .int .i64 c.peer, .int .i64 c.pts]) 27 rfl
  refine ⟨w3, ?_⟩
  rw [e3]
  intro J hJ
  have p3 := p.ext x3
  have rest : ∀ (h4 : Heap) (L4 : List (Int × Int)) (g4 : Int), Pe h4 (h1.size + 1) h1.size L4 most ban decay g4 → Ext h1 h4 → 0 ≤ g4 → g4 ≤ i + 1 → J PUnit.unit h4 := by
    intro h4 L4 g4 p4 x4 g40 g41
    refine hJ _ _ ?_
    refine Known_spec p4 fun h5 s5 x5 o5 _ => ⟨s5, rfl, ?_⟩
    have hl := o5.len
    rw [List.length_map] at hl
    have hsl := srt_length L4
    have hm := p4.len
    have hcf := p4.cfg
    unfold Valid at hcf
    have p5 := p4.ext x5
    have hst := srt_strict p4.good.one
    refine If.dec.2 ⟨fun hx => by omega, fun _ => ?_⟩
    refine ⟨fun s' hh => 0 ≤ s'.2 ∧ s'.2 ≤ (srt L4).length ∧ hh = h5, fun s' _ => (((srt L4).length : Int) - s'.2).toNat, ⟨by simp, by simp, rfl⟩, ?_⟩
    rintro ⟨u2, j⟩ _ ⟨j0, j1, rfl⟩
    simp only at j0 j1 ⊢
    refine If.dec.2 ⟨fun hj => ?_, fun hj => ?_⟩
    · refine ints_at o5.elems j0 (by omega) fun l2 y hy hat => ⟨y, hat, ?_⟩
      refine Score_spec p5 ⟨_, rfl, ?_⟩
      have hyk : y ∈ keys L4 := (srt_perm L4).mem_iff.1 (List.mem_of_getElem? hy)
      have hneg := (score_known p4.good).1 hyk
      have hlow := (score_low p4.good y).1
      refine If.dec.2 ⟨fun hx => by omega, fun _ => If.dec.2 ⟨fun hx => by omega, fun _ => ?_⟩⟩
      rw [wrap_i64 (n := j + 1) (by omega) (by omega), wrap_i64 (n := j - 1) (by omega) (by omega)]
      refine If.dec.2 ⟨fun hpos => ?_, fun _ => ⟨⟨by omega, by omega, by trivial⟩, by omega⟩⟩
      refine ints_at o5.elems (i := j - 1) (by omega) (by omega) fun l3 z hz hat3 => ⟨z, hat3, ?_⟩
      have hlt : z < y := by
        obtain ⟨q1, e1⟩ := List.getElem?_eq_some_iff.1 hz
        obtain ⟨q2, e2⟩ := List.getElem?_eq_some_iff.1 hy
        have := List.pairwise_iff_getElem.1 hst _ _ q1 q2 (by omega)
        omega
      exact If.dec.2 ⟨fun hx => by omega, fun _ => ⟨⟨by omega, by omega, by trivial⟩, by omega⟩⟩
    · rw [wrap_i64 (n := i + 1) (by omega) (by omega)]
      exact ⟨⟨by omega, by omega, x4.trans x5, L4, g4, p5, g40, g41⟩, by omega⟩
  have x13 := x.trans x3
  refine ⟨c.tick, v3.at1 rfl, If.split (fun _ => ?_) (fun _ => ?_)⟩
  · exact Tick_spec p3 fun h4 p4 o4 => ⟨rfl, rest h4 _ g p4 (cut2 x13 o4 (by omega) (by omega)) g0 (by omega)⟩
  · refine ⟨c.peer, v3.at1 rfl, c.pts, v3.at1 rfl, ?_⟩
    refine Fail_spec p3 hw (by omega) fun h4 L4 g4 f4 p4 o4 => ⟨rfl, ?_⟩
    have := failTo_gone f4
    exact rest h4 _ _ p4 (cut2 x13 o4 (by omega) (by omega)) (by omega) (by omega)

theorem put_one {k v w : Int} : put k v [(k, w)] = [(k, v)] := by simp [put]

theorem peersSplit_spec {a b0 none : Int} (hr : ∀ h', Ext h h' → R (TV.bool true).val h') :
    CallsH Try.prog 4 (TVs.vals [.int .i64 a, .int .i64 b0, .int .i64 none]) h R := by
  apply tollerlaw18_PeersSplit_calls
  unfold tollerlaw18_PeersSplit_vc
  refine alive_spec fun h1 x1 => ⟨_, rfl, If.no ?_⟩
  intro J hJ
  refine If.dec.2 ⟨fun _ => hr _ x1, fun ha => If.dec.2 ⟨fun _ => hr _ x1, fun hb => If.dec.2 ⟨fun _ => hr _ x1, fun ha1 => If.dec.2 ⟨fun _ => hr _ x1, fun hb1 => If.dec.2 ⟨fun _ => hr _ x1, fun hn => hJ _ _ ?_⟩⟩⟩⟩⟩
  have hv : Valid 3 5 1 := by unfold Valid; omega
  refine New_spec (fun _ h2 x2 p2 => ⟨_, rfl, ?_⟩) (fun hn => absurd hv hn)
  refine New_spec (fun _ h3 x3 q3 => ⟨_, rfl, ?_⟩) (fun hn => absurd hv hn)
  have p3 := p2.ext x3
  have gp2 := p2.var.lt
  have w1 : (Lit.int .i64 1).wf = true := by decide
  have w2 : (Lit.int .i64 2).wf = true := by decide
  have x13 := x2.trans x3
  -- three failings of the first
  refine Fail_spec p3 w1 (by omega) fun h4 L4 g4 f4 p4 o4 => ⟨rfl, ?_⟩
  have e4 : L4 = [(1, lower 0 a)] ∧ g4 = 0 := by
    rcases f4 with ⟨h, _⟩ | ⟨_, _, rfl, rfl⟩ | ⟨_, _, h, _⟩
    · omega
    · exact ⟨rfl, rfl⟩
    · simp at h
  obtain ⟨rfl, rfl⟩ := e4
  have q4 := q3.only o4 (by omega) (by omega)
  have x4 := cut2 x13 o4 (by omega) (by omega)
  refine Fail_spec p4 w1 (by omega) fun h5 L5 g5 f5 p5 o5 => ⟨rfl, ?_⟩
  have e5 : L5 = [(1, lower 0 a)] ∧ g5 = 0 := by
    rcases f5 with ⟨_, rfl, rfl⟩ | ⟨h, _⟩ | ⟨h, _⟩
    · exact ⟨rfl, rfl⟩
    · omega
    · omega
  obtain ⟨rfl, rfl⟩ := e5
  have q5 := q4.only o5 (by omega) (by omega)
  have x5 := cut2 x4 o5 (by omega) (by omega)
  refine Fail_spec p5 w1 (by omega) fun h6 L6 g6 f6 p6 o6 => ⟨rfl, ?_⟩
  have e6 : L6 = [(1, lower (lower 0 a) b0)] ∧ g6 = 0 := by
    rcases f6 with ⟨h, _⟩ | ⟨_, _, rfl, rfl⟩ | ⟨_, h, _⟩
    · omega
    · exact ⟨put_one, rfl⟩
    · exact absurd (List.mem_singleton.2 rfl) h
  obtain ⟨rfl, rfl⟩ := e6
  have q6 := q5.only o6 (by omega) (by omega)
  have x6 := cut2 x5 o6 (by omega) (by omega)
  -- two of the other
  rw [wrap_i64 (n := a + b0) (by omega) (by omega)]
  refine Fail_spec q6 w1 (by omega) fun h7 L7 g7 f7 q7 o7 => ⟨rfl, ?_⟩
  have e7 : L7 = [(1, lower 0 (a + b0))] ∧ g7 = 0 := by
    rcases f7 with ⟨h, _⟩ | ⟨_, _, rfl, rfl⟩ | ⟨_, _, h, _⟩
    · omega
    · exact ⟨rfl, rfl⟩
    · simp at h
  obtain ⟨rfl, rfl⟩ := e7
  have p7 := p6.only o7 (by omega) (by omega)
  have x7 := cut2 x6 o7 (by omega) (by omega)
  refine Fail_spec q7 w2 (by omega) fun h8 L8 g8 f8 q8 o8 => ⟨rfl, ?_⟩
  have e8 : L8 = [(1, lower 0 (a + b0))] ∧ g8 = 0 := by
    rcases f8 with ⟨_, rfl, rfl⟩ | ⟨h, _⟩ | ⟨h, _⟩
    · exact ⟨rfl, rfl⟩
    · omega
    · omega
  obtain ⟨rfl, rfl⟩ := e8
  have p8 := p7.only o8 (by omega) (by omega)
  have x8 := cut2 x7 o8 (by omega) (by omega)
  have s1 : ∀ v : Int, score [(1, v)] 1 = v := fun v => rfl
  have low : lower (lower 0 a) b0 = mx (-a - b0) (-1048576) := by
    unfold lower mx mn
    repeat' split
    all_goals omega
  have low2 : lower 0 (a + b0) = mx (-a - b0) (-1048576) := by
    unfold lower mx mn
    repeat' split
    all_goals omega
  refine Score_spec p8 ⟨_, rfl, Score_spec q8 ⟨_, rfl, ?_⟩⟩
  rw [s1, s1, low, low2, decide_eq_true rfl]
  refine If.yes (Score_spec p8 ⟨_, rfl, ?_⟩)
  rw [s1, low, wrap_i64 (n := 0 - a) (by omega) (by omega), wrap_i64 (n := 0 - a - b0) (by omega) (by omega)]
  have : (0 : Int) - a - b0 = -a - b0 := by omega
  rw [this, decide_eq_true rfl]
  refine If.yes (Known_spec q8 fun h9 s9 x9 o9 _ => ⟨s9, rfl, ?_⟩)
  have hl := o9.len
  rw [List.length_map, srt_length] at hl
  have : (s9.len : Int) = 1 := by rw [← hl]; rfl
  rw [this]
  exact hr _ ((x1.trans x8).trans x9)

theorem peersTicks_spec {points ticks : Int} (hr : ∀ h', Ext h h' → R (TV.bool true).val h') :
    CallsH Try.prog 7 (TVs.vals [.int .i64 ban, .int .i64 decay, .int .i64 points, .int .i64 ticks]) h R := by
  apply tollerlaw18_PeersTicks_calls
  unfold tollerlaw18_PeersTicks_vc
  refine alive_spec fun h1 x1 => ⟨_, rfl, If.no ?_⟩
  intro J hJ
  refine If.dec.2 ⟨fun _ => hr _ x1, fun ht => If.dec.2 ⟨fun _ => hr _ x1, fun ht1 => If.dec.2 ⟨fun _ => hr _ x1, fun hp => If.dec.2 ⟨fun _ => hr _ x1, fun hp1 => hJ _ _ ?_⟩⟩⟩⟩
  refine New_spec (fun hv h2 x2 p2 => ⟨_, rfl, If.no ?_⟩) (fun hn => ⟨_, rfl, If.yes ?_⟩)
  · have hv' := hv
    unfold Valid at hv'
    have w7 : (Lit.int .i64 7).wf = true := by decide
    refine Fail_spec p2 w7 (by omega) fun h3 L3 g3 f3 p3 o3 => ⟨rfl, ?_⟩
    have e3 : L3 = [(7, -points)] ∧ g3 = 0 := by
      rcases f3 with ⟨h, _⟩ | ⟨_, _, rfl, rfl⟩ | ⟨_, _, h, _⟩
      · omega
      · refine ⟨?_, rfl⟩
        have : lower (score [] 7) points = -points := by
          have : score [] 7 = 0 := rfl
          rw [this]
          unfold lower mx mn
          repeat' split
          all_goals omega
        rw [this]
        rfl
      · simp at h
    obtain ⟨rfl, rfl⟩ := e3
    have x3 := cut2 x2 o3 (by omega) (by omega)
    have hmulb : ∀ k : Int, 1 ≤ k → k ≤ 301 → 1 ≤ k * decay ∧ k * decay ≤ 315621376 := fun k h0 h1 =>
      ⟨by have := Int.mul_le_mul h0 hv'.2.2.2.2.1 (by omega) (by omega); simpa using this, by have := Int.mul_le_mul h1 hv'.2.2.2.2.2 (by omega) (by omega); simpa using this⟩
    refine ⟨fun s' hh => 1 ≤ s'.2 ∧ s'.2 ≤ ticks + 1 ∧ Ext h1 hh ∧ Pe hh (h1.size + 1) h1.size (if (s'.2 - 1) * decay - points < 0 then [(7, (s'.2 - 1) * decay - points)] else []) 3 ban decay 0, fun s' _ => (ticks + 1 - s'.2).toNat, ⟨by simp, by simp; omega, x3, ?_⟩, ?_⟩
    · have : (((1 : Int) - 1) * decay - points) = -points := by rw [Int.sub_self, Int.zero_mul]; omega
      simp only [this]
      rw [if_pos (by omega)]
      exact p3
    rintro ⟨u, k⟩ hh ⟨k0, k1, x, p⟩
    simp only at k0 k1 p ⊢
    refine If.dec.2 ⟨fun hk => ?_, fun hk => ?_⟩
    · refine Tick_spec p fun h4 p4 o4 => ⟨rfl, ?_⟩
      have x4 := cut2 x o4 (by omega) (by omega)
      have hkd := hmulb k k0 (by omega)
      have hsub : (k - 1) * decay = k * decay - decay := by rw [Int.sub_mul, Int.one_mul]
      have ht4 : tick decay (if (k - 1) * decay - points < 0 then [(7, (k - 1) * decay - points)] else []) = (if k * decay - points < 0 then [(7, k * decay - points)] else []) := by
        rw [hsub]
        by_cases h0 : k * decay - decay - points < 0
        · rw [if_pos h0]
          unfold tick tickOne
          by_cases h9 : k * decay - points < 0
          · rw [if_pos h9]
            have e : ¬ (0 ≤ k * decay - decay - points + decay) := by omega
            simp only [List.filterMap_cons, List.filterMap_nil, if_neg e]
            congr 2
            omega
          · rw [if_neg h9]
            have e : 0 ≤ k * decay - decay - points + decay := by omega
            simp only [List.filterMap_cons, List.filterMap_nil, if_pos e]
        · rw [if_neg h0, if_neg (by omega)]
          rfl
      rw [ht4] at p4
      have hsc : score (if k * decay - points < 0 then [(7, k * decay - points)] else []) 7 = mn (k * decay - points) 0 := by
        by_cases h9 : k * decay - points < 0
        · rw [if_pos h9]
          unfold mn
          rw [if_neg (by omega)]
          rfl
        · rw [if_neg h9]
          unfold mn
          split
          · rfl
          · have : k * decay - points = 0 := by omega
            rw [this]; rfl
      rw [wrap_i64 (n := k * decay) (by omega) (by omega), wrap_i64 (n := k * decay - points) (by omega) (by omega)]
      refine Score_spec p4 ⟨_, rfl, ?_⟩
      rw [hsc, decide_eq_true rfl]
      refine If.no (Banned_spec p4 ⟨_, rfl, ?_⟩)
      rw [hsc, wrap_i64 (n := 0 - ban) (by omega) (by omega)]
      have e0 : (0 : Int) - ban = -ban := by omega
      rw [e0]
      have ebb : ∀ b : Bool, (!b == b) = false := by decide
      have enb : ∀ b : Bool, (! (b == b)) = false := by decide
      rw [show (!decide (mn (k * decay - points) 0 ≤ -ban) == decide (mn (k * decay - points) 0 ≤ -ban)) = false by first | exact ebb _ | exact enb _]
      refine If.no (Known_spec p4 fun h5 s5 x5 o5 _ => ⟨s5, rfl, ?_⟩)
      have hl := o5.len
      rw [List.length_map, srt_length] at hl
      have hone : decide ((s5.len : Int) = 1) = decide (mn (k * decay - points) 0 < 0) := by
        rw [decide_eq_decide, ← hl]
        by_cases h9 : k * decay - points < 0
        · rw [if_pos h9]
          unfold mn
          rw [if_neg (by omega)]
          simp [h9]
        · rw [if_neg h9]
          unfold mn
          split <;> simp <;> omega
      rw [hone]
      rw [show (!decide (mn (k * decay - points) 0 < 0) == decide (mn (k * decay - points) 0 < 0)) = false by first | exact ebb _ | exact enb _]
      refine If.no ?_
      rw [wrap_i64 (n := k + 1) (by omega) (by omega)]
      have ek : k + 1 - 1 = k := by omega
      refine ⟨⟨by omega, by omega, x4.trans x5, ?_⟩, by omega⟩
      rw [ek]
      exact p4.ext x5
    · refine Gone_spec p ⟨_, rfl, ?_⟩
      rw [decide_eq_true rfl]
      exact hr _ (x1.trans x)
  · unfold Valid at hn
    refine If.dec.2 ⟨fun _ => hr _ x1, fun hb => If.dec.2 ⟨fun _ => hr _ x1, fun hb1 => If.dec.2 ⟨fun _ => hr _ x1, fun hd => ?_⟩⟩⟩
    have : decide (1048576 < decay) = true := by rw [decide_eq_true_eq]; omega
    rw [this]
    exact hr _ x1

end
end Go.Proofs.Ythkaabfoeealaaa.Peers
