/- Who gives way is the one with the least score. -/
import Derived.Test.YthkaabfoeealaaaPeersF
namespace Go.Proofs.Ythkaabfoeealaaa.Peers
open Go Go.Vc

section
variable {R : Value → Heap → Prop} {h h' : Heap} {b r : Nat} {L : List (Int × Int)} {most ban decay gone : Int}

theorem score_put (hn : (keys L).Nodup) (k v x : Int) : score (put k v L) x = if x = k then v else score L x := by
  unfold score
  rw [get_put hn]
  split <;> rfl
theorem score_drop (hn : (keys L).Nodup) (k x : Int) : score (drop k L) x = if x = k then 0 else score L x := by
  unfold score
  rw [get_drop hn]
  split <;> rfl

theorem peersWorst_spec {s : Sl} {cs : List Call} {peer points : Int} (hs : Calls h s cs) (hpw : (Lit.int .i64 peer).wf = true) (hr : ∀ h', Ext h h' → R (TV.bool true).val h') :
    CallsH Try.prog 8 (TVs.vals [.int .i64 most, .int .i64 ban, .slice s, .int .i64 peer, .int .i64 points]) h R := by
  apply tollerlaw18_PeersWorst_calls
  unfold tollerlaw18_PeersWorst_vc
  refine alive_spec fun h1 x1 => ⟨_, rfl, If.no ?_⟩
  have hlen := hs.len
  intro J0 hJ0
  refine If.dec.2 ⟨fun _ => hr _ x1, fun h200 => If.dec.2 ⟨fun _ => hr _ x1, fun hpts => hJ0 _ _ ?_⟩⟩
  refine New_spec (fun hv h2 x2 p2 => ⟨_, rfl, If.no ?_⟩) (fun _ => ⟨_, rfl, If.yes (hr _ x1)⟩)
  have hv' := hv
  unfold Valid at hv'
  refine ⟨fun i hh => 0 ≤ i ∧ i ≤ cs.length ∧ Ext h1 hh ∧ ∃ L gone, Pe hh (h1.size + 1) h1.size L most ban 1 gone ∧ 0 ≤ gone ∧ gone ≤ i, fun i _ => ((cs.length : Int) - i).toNat, ⟨by simp, by simp, x2, [], 0, p2, by simp, by simp⟩, ?_⟩
  rintro i hh ⟨i0, i1, x, L, g, p, g0, g1⟩
  refine If.dec.2 ⟨fun hi => ?_, fun hi => ?_⟩
  · refine (hs.ext (x1.trans x)).at i0 (by omega) fun l c hc hw a0 a1 a2 => ⟨c.tick, c.peer, c.pts, ⟨a0, a1, a2⟩, ?_⟩
    obtain ⟨w3, h4, e3, v3, x4, s3⟩ := newput_spec hh (.agg [.bool false, .int .i64 0, .int .i64 0]) (.agg [.bool c.tick, .int .i64 c.peer, .int .i64 c.pts]) 27 rfl
    refine ⟨w3, ?_⟩
    rw [e3, wrap_i64 (n := i + 1) (by omega) (by omega)]
    have p4 := p.ext x4
    have x14 := x.trans x4
    refine ⟨c.tick, v3.at1 rfl, If.split (fun _ => ?_) (fun _ => ?_)⟩
    · refine ⟨c.peer, v3.at1 rfl, c.pts, v3.at1 rfl, ?_⟩
      refine Fail_spec p4 hw (by omega) fun h5 L5 g5 f5 p5 o5 => ⟨rfl, ?_⟩
      have := failTo_gone f5
      exact ⟨⟨by omega, by omega, cut2 x14 o5 (by omega) (by omega), L5, g + g5, p5, by omega, by omega⟩, by dsimp only; omega⟩
    · exact ⟨⟨by omega, by omega, x14, L, g, p4, g0, by omega⟩, by dsimp only; omega⟩
  · refine Known_spec p fun h3 s2 x3 o3 _ => ⟨s2, rfl, ?_⟩
    have p3 := p.ext x3
    have x13 := x.trans x3
    have hl := o3.len
    rw [List.length_map] at hl
    have hsl := srt_length L
    have hm := p.len
    have hmem : ∀ x, x ∈ srt L ↔ x ∈ keys L := fun x => (srt_perm L).mem_iff
    have hss := srt_sorted L
    have hst := srt_strict p.good.one
    refine ⟨fun s' hh => 0 ≤ s'.2.2.2 ∧ s'.2.2.2 ≤ (srt L).length ∧ Ext h3 hh ∧ Own 3 1 hh s'.1 ((((srt L).take s'.2.2.2.toNat).map (score L)).map intTV) ∧ Up s'.1 h3.size ∧ s'.2.2.1 = decide (peer ∈ (srt L).take s'.2.2.2.toNat) ∧
      0 ≤ s'.2.1 ∧ s'.2.1 < max s'.2.2.2 1 ∧ (∀ (a z : Int) (j : Nat), (srt L)[s'.2.1.toNat]? = some a → (j : Int) < s'.2.2.2 → (srt L)[j]? = some z → score L a < score L z ∨ score L a = score L z ∧ a ≤ z),
      fun s' _ => (((srt L).length : Int) - s'.2.2.2).toNat, ⟨Int.le_refl _, Int.natCast_nonneg _, Ext.refl _, Own.nil 3 1 h3, (fun l hl => by cases hl), (decide_eq_false (by simp)).symm, Int.le_refl _, by decide, fun a z j _ hj _ => by have : (j : Int) < 0 := hj; omega⟩, ?_⟩
    rintro ⟨sc, wi, has, j⟩ h4 ⟨j0, j1, x4, o4, up4, hhas, w0, w1, hall⟩
    simp only at j0 j1 o4 up4 hhas w0 w1 hall ⊢
    have p4 := p3.ext x4
    have oK := o3.ext x4
    have lsc := o4.len
    simp only [List.length_map, List.length_take] at lsc
    refine If.dec.2 ⟨fun hj => ?_, fun hj => ?_⟩
    · refine ints_at oK.elems j0 (by omega) fun l y hy hat => ⟨y, hat, ?_⟩
      refine Score_spec p4 ⟨_, rfl, ?_⟩
      refine append1 (C := ctx) (T := 3) (x := .int .i64 (score L y)) rfl rfl (by decide) (by show (sc.len + 1) * 8 ≤ _; omega) o4 rfl rfl fun s5 h5 o5 w5 b5 => ?_
      have hj' : (j + 1).toNat = j.toNat + 1 := by omega
      have htake : (srt L).take (j + 1).toNat = (srt L).take j.toNat ++ [y] := by rw [hj', List.take_add_one, hy]; rfl
      have x5 : Ext h3 h5 := Only.cut x4 w5 (by rintro i ⟨l, hl, rfl⟩; exact up4 l hl)
      have up5 : Up s5 h3.size := fun l hl => by
        rcases b5 l hl with ⟨l', hl', he⟩ | hx
        · rw [← he]; exact up4 l' hl'
        · have := x4.size; omega
      have o5' : Own 3 1 h5 s5 ((((srt L).take (j + 1).toNat).map (score L)).map intTV) := by
        rw [htake, List.map_append, List.map_append]
        exact o5
      intro J hJ
      have hasv : ∀ v, v = decide (peer ∈ (srt L).take (j + 1).toNat) → J v h5 := by
        intro v hv2
        refine hJ _ _ ?_
        have l5 := o5'.len
        simp only [List.length_map, List.length_take] at l5
        have scat : ∀ (k : Int) (hk0 : 0 ≤ k) (hk1 : k < j + 1) (z : Int) (hz : (srt L)[k.toNat]? = some z) {K : Go.Vc.Loc → Prop} (_ : ∀ p, at1 h5 p.b (p.o + k.toNat * 1) (.int .i64 (score L z)) → K p), 0 ≤ k ∧ k < (s5.len : Int) ∧ Nn s5.a K := by
          intro k hk0 hk1 z hz K hK
          refine ints_at o5'.elems hk0 (by simp only [List.length_map, List.length_take]; omega) fun p v hv3 hat => ?_
          rw [List.getElem?_map, List.getElem?_take_of_lt (by omega), hz] at hv3
          cases hv3
          exact hK p hat
        obtain ⟨a, ha⟩ : ∃ a, (srt L)[wi.toNat]? = some a := ⟨_, List.getElem?_eq_getElem (by omega)⟩
        refine scat j j0 (by omega) y hy fun p hat2 => ⟨_, hat2, ?_⟩
        refine scat wi w0 (by omega) a ha fun p hat3 => ⟨_, hat3, ?_⟩
        rw [wrap_i64 (n := j + 1) (by omega) (by omega)]
        refine If.dec.2 ⟨fun hlt => ⟨⟨by omega, by omega, x5, o5', up5, hv2, by omega, by omega, fun a' z k ha' hk hz => ?_⟩, by omega⟩, fun hlt => ⟨⟨by omega, by omega, x5, o5', up5, hv2, by omega, by omega, fun a' z k ha' hk hz => ?_⟩, by omega⟩⟩
        · rw [hy] at ha'
          cases ha'
          by_cases e : (k : Int) = j
          · have : k = j.toNat := by omega
            rw [this, hy] at hz
            cases hz
            exact .inr ⟨rfl, Int.le_refl _⟩
          · have := hall a z k ha (by omega) hz
            left; omega
        · by_cases e : (k : Int) = j
          · have : k = j.toNat := by omega
            rw [this, hy] at hz
            cases hz
            rw [ha] at ha'
            cases ha'
            have hwj : wi.toNat ≤ j.toNat := by omega
            have := sorted_le hss hwj ha hy
            omega
          · exact hall a' z k ha' (by omega) hz
      have hmore : (peer ∈ (srt L).take (j + 1).toNat) ↔ (peer ∈ (srt L).take j.toNat ∨ peer = y) := by rw [htake]; simp
      refine If.split (fun ht => hasv true ?_) (fun hf => hasv _ ?_)
      · rw [ht] at hhas
        have := of_decide_eq_true hhas.symm
        exact (decide_eq_true (hmore.2 (.inl this))).symm
      · rw [hf] at hhas
        have := of_decide_eq_false hhas.symm
        rw [decide_eq_decide, hmore]
        constructor
        · intro e; exact .inr e.symm
        · rintro (e | e)
          · exact absurd e this
          · exact e.symm
    · have hjn : j.toNat = (srt L).length := by omega
      rw [hjn, List.take_length] at o4 hhas
      rw [hjn] at lsc
      refine Gone_spec p4 ⟨_, rfl, ?_⟩
      have x14 := x13.trans x4
      refine Fail_spec p4 hpw (by omega) fun h5 L5 g5 f5 p5 o5 => ⟨rfl, ?_⟩
      have x5 := cut2 x14 o5 (by omega) (by omega)
      have hgh := x13.size
      have oK5 : Own 3 1 h5 s2 _ := oK.only o5 (fun l hl => by
        rintro (e | e)
        · have := oK.row
          rcases this with rfl | ⟨bb, rest, ha, hb, _⟩
          · cases hl
          · rw [ha] at hl
            cases hl
            simp only at e
            rw [e] at hb
            have := p4.var
            unfold Var at this
            rw [hb] at this
            have := congrArg (fun o => match o with | some (Obj.cells _ t _) => t | _ => 0) this
            simp [row] at this
        · have := oK.row
          rcases this with rfl | ⟨bb, rest, ha, hb, _⟩
          · cases hl
          · rw [ha] at hl
            cases hl
            simp only at e
            rw [e] at hb
            obtain ⟨es, c, hm2, _⟩ := p4.map
            rw [hb] at hm2
            cases hm2)
      have oS5 : Own 3 1 h5 sc _ := o4.only o5 (fun l hl => by have := up4 l hl; have := p3.var.lt; omega)
      have hk : peer ∈ srt L ↔ peer ∈ keys L := hmem peer
      intro J hJ
      have stay : (peer ∈ keys L ∨ (L.length : Int) < most) → ∀ (J4 : Bool → Heap → Prop), (∀ s h, (If s (CallsH Try.prog 16 (TVs.vals [TV.ptr (some ⟨h1.size + 1, 0⟩)]) h fun v h => ∃ n_1 : Int, v = (TV.int .i64 n_1).val ∧ If (decide (n_1 = g)) (CallsH Try.prog 14 (TVs.vals [TV.ptr (some ⟨h1.size + 1, 0⟩), TV.int .i64 peer]) h fun v h => ∃ n : Int, v = (TV.int .i64 n).val ∧ R (TV.bool (decide (n < 0))).val h) (R (TV.bool false).val h)) (J false h)) → J4 s h) → J4 true h5 := by
        intro hroom J4 hJ4
        refine hJ4 _ _ (If.yes ?_)
        rcases f5 with ⟨h9, _⟩ | ⟨_, _, rfl, rfl⟩ | ⟨_, h8, h9, _⟩
        · omega
        · refine Gone_spec p5 ⟨_, rfl, ?_⟩
          rw [decide_eq_true (by omega : g + 0 = g)]
          refine If.yes (Score_spec p5 ⟨_, rfl, ?_⟩)
          have hlow := lower_range (pts := points) (score_low p.good peer) (by omega)
          have : decide (score (put peer (lower (score L peer) points) L) peer < 0) = true := by
            rw [score_put p.good.one, if_pos rfl, decide_eq_true_eq]
            exact hlow.2
          rw [this]
          exact hr _ (x1.trans x5)
        · rcases hroom with h7 | h7
          · exact absurd h7 h8
          · omega
      intro J4 hJ4
      refine If.split (fun ht => ?_) (fun hf => ?_)
      · rw [ht] at hhas
        have := of_decide_eq_true hhas.symm
        exact stay (.inl (hk.1 this)) J4 hJ4
      · rw [hf] at hhas
        have hnk : peer ∉ keys L := fun hx => of_decide_eq_false hhas.symm (hk.2 hx)
        by_cases hroom : (s2.len : Int) < most
        · rw [decide_eq_true hroom]
          exact stay (.inr (by omega)) J4 hJ4
        · rw [decide_eq_false hroom]
          refine hJ4 _ _ (If.no ?_)
          refine hJ _ _ ?_
          obtain ⟨w, hw, rfl, rfl⟩ : ∃ w, IsWorst L w ∧ g5 = 1 ∧ L5 = put peer (lower 0 points) (drop w L) := by
            rcases f5 with ⟨h9, _⟩ | ⟨_, h9, _⟩ | ⟨_, _, _, h9, w, h10, h11⟩
            · omega
            · rcases h9 with h9 | h9
              · exact absurd h9 hnk
              · omega
            · exact ⟨w, h10, h9, h11⟩
          have hpos : 0 < (srt L).length := by omega
          obtain ⟨a, ha⟩ : ∃ a, (srt L)[wi.toNat]? = some a := ⟨_, List.getElem?_eq_getElem (by omega)⟩
          have haw : IsWorst L a := ⟨(hmem a).1 (List.mem_of_getElem? ha), fun z hz => by
            obtain ⟨q, hq, rfl⟩ := List.getElem_of_mem ((hmem z).2 hz)
            exact hall a _ q ha (by omega) (List.getElem?_eq_getElem hq)⟩
          have hwa := hw.unique haw
          subst hwa
          have hgd := p.good.drop w
          have hlow := lower_range (pts := points) (s := 0) (by omega) (by omega)
          refine ⟨fun s' hh => 0 ≤ s'.2 ∧ s'.2 ≤ (srt L).length ∧ Ext h5 hh, fun s' _ => (((srt L).length : Int) - s'.2).toNat, ⟨by simp, by simp, Ext.refl _⟩, ?_⟩
          rintro ⟨u, k⟩ h6 ⟨k0, k1, x6⟩
          simp only at k0 k1 ⊢
          have p6 := p5.ext x6
          refine If.dec.2 ⟨fun hk2 => ?_, fun hk2 => ?_⟩
          · refine ints_at (oK5.ext x6).elems k0 (by omega) fun l y hy hat => ⟨y, hat, ?_⟩
            have hyk : y ∈ keys L := (hmem y).1 (List.mem_of_getElem? hy)
            have hyp : y ≠ peer := fun hx => hnk (hx ▸ hyk)
            have hsc : score (put peer (lower 0 points) (drop w L)) y = if y = w then 0 else score L y := by
              rw [score_put hgd.one, if_neg hyp, score_drop p.good.one]
            rw [wrap_i64 (n := k + 1) (by omega) (by omega)]
            refine If.dec.2 ⟨fun hkw => ?_, fun hkw => ?_⟩
            · refine Score_spec p6 ⟨_, rfl, ?_⟩
              have hyw : y = w := by
                rw [hkw, ha] at hy
                exact (Option.some.inj hy).symm
              rw [hsc, if_pos hyw, decide_eq_true rfl]
              refine If.no ?_
              rw [decide_eq_true hkw]
              exact If.no ⟨⟨by omega, by omega, x6⟩, by omega⟩
            · rw [decide_eq_false hkw]
              refine If.yes ?_
              have l6 := (oS5.ext x6).len
              simp only [List.length_map] at l6
              refine ints_at (oS5.ext x6).elems k0 (by simp only [List.length_map]; omega) fun l2 v hv3 hat2 => ⟨v, hat2, ?_⟩
              rw [List.getElem?_map, hy] at hv3
              cases hv3
              refine Score_spec p6 ⟨_, rfl, Ext.refl _, ?_⟩
              have hyw : y ≠ w := by
                rintro rfl
                obtain ⟨q1, e1⟩ := List.getElem?_eq_some_iff.1 hy
                obtain ⟨q2, e2⟩ := List.getElem?_eq_some_iff.1 ha
                have hne : k.toNat ≠ wi.toNat := by omega
                rcases Nat.lt_or_ge k.toNat wi.toNat with h9 | h9
                · have := List.pairwise_iff_getElem.1 hst _ _ q1 q2 h9
                  omega
                · have := List.pairwise_iff_getElem.1 hst _ _ q2 q1 (by omega)
                  omega
              rw [hsc, if_neg hyw, decide_eq_true rfl]
              exact If.no ⟨⟨by omega, by omega, x6⟩, by omega⟩
          · refine Gone_spec p6 ⟨_, rfl, ?_⟩
            rw [wrap_i64 (n := g + 1) (by omega) (by omega), decide_eq_true rfl]
            refine If.yes (Score_spec p6 ⟨_, rfl, ?_⟩)
            have hneg : decide (score (put peer (lower 0 points) (drop w L)) peer < 0) = true := by
              rw [score_put hgd.one, if_pos rfl, decide_eq_true_eq]
              exact hlow.2
            rw [hneg]
            refine If.yes (Known_spec p6 fun h7 s7 x7 o7 _ => ⟨s7, rfl, ?_⟩)
            have l7 := o7.len
            rw [List.length_map, srt_length, put_length, if_neg (fun hx => hnk (by
              obtain ⟨e, he, h2⟩ := List.mem_map.1 hx
              exact List.mem_map.2 ⟨e, ((mem_drop p.good.one).1 he).1, h2⟩))] at l7
            have hd := drop_length hw.1
            have : decide ((s7.len : Int) = most) = true := by rw [decide_eq_true_eq]; omega
            rw [this]
            exact hr _ (((x1.trans x5).trans x6).trans x7)

end
end Go.Proofs.Ythkaabfoeealaaa.Peers
