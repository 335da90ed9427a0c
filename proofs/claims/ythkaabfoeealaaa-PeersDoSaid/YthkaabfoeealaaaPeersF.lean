/- Scripts that come in; that a peer's score hangs on its own failings alone. -/
import Derived.Test.YthkaabfoeealaaaPeersE
import Derived.Deep.Strs
namespace Go.Proofs.Ythkaabfoeealaaa.Peers
open Go Go.Vc

instance : Inhabited Call := ⟨⟨false, 0, 0⟩⟩

theorem calls_in {H : Type} {enc : TypeId × Value → H} {w : World} {base fuel : Nat} {spare : Nat → Bool} {held : Bool} {a : Option Addr} {len cap : Nat} {x : DataW H × List MemPlace} (hs : ∀ x, a = some x → x.spot = none)
    (h : DataW.trod enc Try.prog w base spare held fuel 22 [.slice a len cap] = some x) : ∃ sl cs, Value.slice a len cap = (TV.slice sl).val ∧ Calls w.heap sl cs := by
  rcases Deep.open_slice Try.underlying22 h with ⟨hc, _⟩ | ⟨a', l', c', m, n, D, Pl, hc, _, hl, _, hm, _, hel⟩
  · simp only [List.cons.injEq, Value.slice.injEq, and_true] at hc
    obtain ⟨rfl, rfl, rfl⟩ := hc
    exact ⟨Sl.nil, [], rfl, Elems.nil_ 3 _, fun c hc => by cases hc⟩
  · simp only [List.cons.injEq, Value.slice.injEq, and_true] at hc
    obtain ⟨rfl, rfl, rfl⟩ := hc
    have hsp := hs a' rfl
    have hlm : len ≤ m := by rw [hm]; split <;> omega
    have h3 : Try.prog.cellsOf 27 = 3 := by kernel_rfl
    have each : ∀ i, i < len → ∃ c : Call, ((Lit.int .i64 c.peer).wf = true ∧ (Lit.int .i64 c.pts).wf = true) ∧ (callTV c).at w.heap a'.block (a'.off + i * 3) := by
      intro i hi
      obtain ⟨cs', h1, h2⟩ := hel i (by omega)
      rw [h3] at h1
      obtain ⟨_, hlen, hcell⟩ := World.cells?_some h1
      obtain ⟨y0, y1, y2, n', _, _, t0, t1, t2⟩ := Deep.trod_struct3 Try.underlying27 h2
      have c4 : Try.prog.cellsOf 4 = 1 := by kernel_rfl
      have c3 : Try.prog.cellsOf 3 = 1 := by kernel_rfl
      simp only [c4, c3] at t0 t1 t2
      obtain ⟨b, hb, _⟩ := DataW.trod_bool Try.underlying4 t0
      obtain ⟨p, hp, _, wp⟩ := DataW.trod_int Try.underlying3 t1
      obtain ⟨q, hq, _, wq⟩ := DataW.trod_int Try.underlying3 t2
      match cs', hlen with
      | [v0, v1, v2], _ =>
        simp only [List.drop_zero, List.take_succ_cons, List.take_zero, List.drop_succ_cons, List.cons.injEq, and_true] at hb hp hq
        subst hb; subst hp; subst hq
        refine ⟨⟨b, p, q⟩, ⟨wp, wq⟩, ?_⟩
        rw [TV.at_iff]
        intro j hj
        have hj3 : j < 3 := hj
        have := hcell j hj3
        rw [Deep.add_add] at this
        have hc2 := cel_of_cell hsp (i := i * 3 + j) (v := (callTV ⟨b, p, q⟩).cells[j]'(by rw [TV.cells_length]; exact hj)) (by
          rw [this]
          match j, hj3 with
          | 0, _ => rfl
          | 1, _ => rfl
          | 2, _ => rfl)
        rw [List.getElem?_eq_getElem (by rw [TV.cells_length]; exact hj), ← hc2, Nat.add_assoc]
    obtain ⟨f, hf⟩ := Deep.choose_lt each
    refine ⟨⟨some ⟨a'.block, a'.off⟩, len, cap⟩, (List.range len).map f, ?_, ⟨?_, ?_, ?_⟩, ?_⟩
    · cases a'
      simp only at hsp
      subst hsp
      rfl
    · simp
    · intro hn; cases hn
    · rintro l ⟨rfl⟩ i t ht
      rw [List.getElem?_map, Option.map_eq_some_iff] at ht
      obtain ⟨c, hc, rfl⟩ := ht
      rw [List.getElem?_map, Option.map_eq_some_iff] at hc
      obtain ⟨k, hk, rfl⟩ := hc
      have hk' := List.getElem?_eq_some_iff.1 hk
      obtain ⟨hi, he⟩ := hk'
      simp only [List.length_range] at hi
      simp only [List.getElem_range] at he
      subst he
      exact (hf i hi).2
    · intro c hc
      obtain ⟨i, hi, rfl⟩ := List.mem_map.1 hc
      exact (hf i (List.mem_range.1 hi)).1

section
variable {R : Value → Heap → Prop} {h h' : Heap} {b r : Nat} {L : List (Int × Int)} {most ban decay gone : Int}

/-- What is left of scores for one peer alone. -/
def onlyOf (who : Int) (L : List (Int × Int)) : List (Int × Int) := match get who L with
  | none => []
  | some v => [(who, v)]

theorem score_only (who : Int) (L : List (Int × Int)) : score (onlyOf who L) who = score L who := by
  unfold onlyOf score
  cases get who L with
  | none => rfl
  | some v => simp [get]

theorem only_tick {d who : Int} (hn : (keys L).Nodup) : onlyOf who (tick d L) = tick d (onlyOf who L) := by
  unfold onlyOf
  rw [get_tick hn]
  cases get who L with
  | none => rfl
  | some v =>
    simp only [Option.bind_some]
    unfold tick tickOne
    by_cases h : 0 ≤ v + d
    · simp [h]
    · simp [h]

theorem peersApart_spec {s : Sl} {cs : List Call} {who : Int} (hs : Calls h s cs) (hr : ∀ h', Ext h h' → R (TV.bool true).val h') :
    CallsH Try.prog 6 (TVs.vals [.int .i64 most, .int .i64 ban, .int .i64 decay, .slice s, .int .i64 who]) h R := by
  apply tollerlaw18_PeersApart_calls
  unfold tollerlaw18_PeersApart_vc
  refine alive_spec fun h1 x1 => ⟨_, rfl, If.no ?_⟩
  have hlen := hs.len
  refine If.dec.2 ⟨fun _ => hr _ x1, fun h200 => ?_⟩
  by_cases hv : Valid most ban decay
  · refine New_spec (fun _ h2 x2 p2 => ⟨_, rfl, ?_⟩) (fun hn => absurd hv hn)
    refine New_spec (fun _ h3 x3 q3 => ⟨_, rfl, ?_⟩) (fun hn => absurd hv hn)
    have gp := p2.var.lt
    intro J hJ
    refine If.no (If.no (hJ _ _ ?_))
    have hv' := hv
    unfold Valid at hv'
    refine ⟨fun s' hh => 0 ≤ s'.2 ∧ s'.2 ≤ cs.length ∧ Ext h1 hh ∧ ∃ L gq, Pe hh (h1.size + 1) h1.size L most ban decay 0 ∧ Pe hh (h2.size + 1) h2.size (onlyOf who L) most ban decay gq ∧ 0 ≤ gq ∧ gq ≤ s'.2,
      fun s' _ => ((cs.length : Int) - s'.2).toNat, ⟨by simp, by simp, x2.trans x3, [], 0, p2.ext x3, q3, by simp, by simp⟩, ?_⟩
    rintro ⟨u, i⟩ hh ⟨i0, i1, x, L, gq, p, q, g0, g1⟩
    simp only at i0 i1 g1 ⊢
    refine If.dec.2 ⟨fun hi => ?_, fun hi => ?_⟩
    · refine (hs.ext (x1.trans x)).at i0 (by omega) fun l c hc hw a0 a1 a2 => ⟨c.tick, c.peer, c.pts, ⟨a0, a1, a2⟩, ?_⟩
      obtain ⟨w3, h4, e3, v3, x4, s3⟩ := newput_spec hh (.agg [.bool false, .int .i64 0, .int .i64 0]) (.agg [.bool c.tick, .int .i64 c.peer, .int .i64 c.pts]) 27 rfl
      refine ⟨w3, ?_⟩
      rw [e3, wrap_i64 (n := i + 1) (by omega) (by omega)]
      have p4 := p.ext x4
      have q4 := q.ext x4
      have x14 := x.trans x4
      have gh := q.var.lt
      have gv := v3.lt
      refine ⟨c.tick, v3.at1 rfl, If.split (fun _ => ?_) (fun _ => ?_)⟩
      · refine Tick_spec p4 fun h5 p5 o5 => ⟨rfl, ?_⟩
        have q5 := q4.only o5 (by omega) (by omega)
        have x5 := cut2 x14 o5 (by omega) (by omega)
        refine Tick_spec q5 fun h6 q6 o6 => ⟨rfl, ?_⟩
        have p6 := p5.only o6 (by omega) (by omega)
        refine ⟨⟨by omega, by omega, cut2 x5 o6 (by have := x2.size; omega) (by have := x2.size; omega), tick decay L, gq, p6, ?_, g0, by omega⟩, by omega⟩
        rw [only_tick p.good.one]
        exact q6
      · refine ⟨c.peer, v3.at1 rfl, c.pts, v3.at1 rfl, ?_⟩
        refine Fail_spec p4 hw (by omega) fun h5 L5 g5 f5 p5 o5 => ⟨rfl, ?_⟩
        have q5 := q4.only o5 (by omega) (by omega)
        have v5 := v3.only o5 (by omega)
        have x5 := cut2 x14 o5 (by omega) (by omega)
        have hg5 := failTo_gone f5
        intro J2 hJ2
        have rest : ∀ (h6 : Heap) (Lq : List (Int × Int)) (gq' : Int), Pe h6 (h1.size + 1) h1.size L5 most ban decay (0 + g5) → Pe h6 (h2.size + 1) h2.size Lq most ban decay gq' → Ext h1 h6 → 0 ≤ gq' → gq' ≤ i + 1 → (g5 = 0 → Lq = onlyOf who L5) → J2 PUnit.unit h6 := by
          intro h6 Lq gq' p6 q6 x6 gq0 gq1 hrel
          refine hJ2 _ _ ?_
          refine Gone_spec p6 ⟨_, rfl, ?_⟩
          refine If.dec.2 ⟨fun _ => hr _ (x1.trans x6), fun hg => ?_⟩
          have hg0 : g5 = 0 := by omega
          have hL := hrel hg0
          subst hL
          refine Score_spec p6 ⟨_, rfl, Score_spec q6 ⟨_, rfl, ?_⟩⟩
          rw [score_only, decide_eq_true rfl]
          refine If.no (Banned_spec p6 ⟨_, rfl, Banned_spec q6 ⟨_, rfl, ?_⟩⟩)
          rw [score_only]
          have ebb : ∀ b : Bool, (!b == b) = false := by decide
          have enb : ∀ b : Bool, (! (b == b)) = false := by decide
          rw [show (!decide (score L5 who ≤ -ban) == decide (score L5 who ≤ -ban)) = false by first | exact ebb _ | exact enb _]
          refine If.no ⟨⟨by omega, by omega, x6, L5, gq', ?_, q6, gq0, gq1⟩, by omega⟩
          rw [hg0] at p6
          exact p6
        refine ⟨c.peer, v5.at1 rfl, ?_⟩
        refine If.dec.2 ⟨fun hwho => ?_, fun hwho => ?_⟩
        · refine ⟨c.peer, v5.at1 rfl, c.pts, v5.at1 rfl, ?_⟩
          refine Fail_spec q5 hw (by omega) fun h6 L6 g6 f6 q6 o6 => ⟨rfl, ?_⟩
          have p6 := p5.only o6 (by omega) (by omega)
          have hg6 := failTo_gone f6
          refine rest h6 L6 (gq + g6) p6 q6 (cut2 x5 o6 (by have := x2.size; omega) (by have := x2.size; omega)) (by omega) (by omega) (fun hg => ?_)
          rw [hwho] at f5 f6
          rcases f5 with ⟨hp, rfl, _⟩ | ⟨hp, hroom, _, rfl⟩ | ⟨_, _, _, h1, _⟩
          · rcases f6 with ⟨_, rfl, _⟩ | ⟨h2, _⟩ | ⟨h2, _⟩
            · rfl
            · omega
            · omega
          · have e5 : onlyOf who (put who (lower (score L who) c.pts) L) = [(who, lower (score L who) c.pts)] := by
              unfold onlyOf
              rw [get_put p.good.one, if_pos rfl]
            rw [e5]
            rcases f6 with ⟨h2, _⟩ | ⟨_, _, _, rfl⟩ | ⟨_, h3, h4, _⟩
            · omega
            · rw [score_only]
              unfold onlyOf
              cases get who L <;> simp [put]
            · exfalso
              unfold onlyOf at h3 h4
              cases hg2 : get who L with
              | none => rw [hg2] at h4; simp at h4; omega
              | some v => rw [hg2] at h3; exact h3 (List.mem_singleton.2 rfl)
          · omega
        · refine rest h5 (onlyOf who L) gq p5 q5 x5 g0 (by omega) (fun hg => ?_)
          rcases f5 with ⟨_, rfl, _⟩ | ⟨_, _, _, rfl⟩ | ⟨_, _, _, h1, _⟩
          · rfl
          · unfold onlyOf
            rw [get_put p.good.one, if_neg (fun hx => hwho hx.symm)]
          · omega
    · refine Score_spec p ⟨_, rfl, Score_spec q ⟨_, rfl, ?_⟩⟩
      rw [score_only, decide_eq_true rfl]
      exact hr _ (x1.trans x)
  · refine New_spec (fun hv' => absurd hv' hv) (fun _ => ⟨_, rfl, ?_⟩)
    refine New_spec (fun hv' => absurd hv' hv) (fun _ => ⟨_, rfl, ?_⟩)
    intro J hJ
    exact If.yes (If.yes (hr _ x1))

end
end Go.Proofs.Ythkaabfoeealaaa.Peers
