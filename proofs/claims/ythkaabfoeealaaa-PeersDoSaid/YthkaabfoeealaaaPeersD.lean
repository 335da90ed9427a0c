/- What a tick does; that peers are alive; calls in memory. -/
import Derived.Test.YthkaabfoeealaaaPeersC
namespace Go.Proofs.Ythkaabfoeealaaa.Peers
open Go Go.Vc

theorem filterMap_same {α β : Type} {f g : α → Option β} : ∀ {l : List α}, (∀ x ∈ l, f x = g x) → l.filterMap f = l.filterMap g
  | [], _ => rfl
  | x :: l, h => by
    rw [List.filterMap_cons, List.filterMap_cons, h x (List.mem_cons_self ..), filterMap_same (fun y hy => h y (List.mem_cons_of_mem _ hy))]

/-- An entry behind a tick. -/
def tickE (d : Int) (e : Int × Int × Nat) : Option (Int × Int × Nat) := if 0 ≤ e.2.1 + d then none else some (e.1, e.2.1 + d, e.2.2)

/-- The entries where some have had their tick. -/
def part (d : Int) (s : Nat → Bool) (es : List (Int × Int × Nat)) : List (Int × Int × Nat) := es.filterMap fun e => if s e.2.2 then tickE d e else some e

def more (s : Nat → Bool) (b : Nat) : Nat → Bool := fun n => s n || decide (n = b)

theorem tickE_key {d : Int} {e y : Int × Int × Nat} (h : tickE d e = some y) : y.1 = e.1 ∧ y.2.2 = e.2.2 := by
  unfold tickE at h
  split at h
  · cases h
  · cases h; exact ⟨rfl, rfl⟩

theorem part_mem {d : Int} {s : Nat → Bool} {es : List (Int × Int × Nat)} {y : Int × Int × Nat} (h : y ∈ part d s es) : ∃ e ∈ es, y.1 = e.1 ∧ y.2.2 = e.2.2 ∧ (s e.2.2 = false → y = e) := by
  obtain ⟨e, he, hy⟩ := List.mem_filterMap.1 h
  refine ⟨e, he, ?_⟩
  cases hs : s e.2.2 with
  | true =>
    rw [hs, if_pos rfl] at hy
    obtain ⟨h1, h2⟩ := tickE_key hy
    exact ⟨h1, h2, fun hx => by cases hx⟩
  | false =>
    rw [hs, if_neg (by simp)] at hy
    cases hy
    exact ⟨rfl, rfl, fun _ => rfl⟩

theorem part_same {d : Int} {s : Nat → Bool} {b : Nat} : ∀ {es : List (Int × Int × Nat)}, (∀ e ∈ es, e.2.2 ≠ b) → part d (more s b) es = part d s es := by
  intro es h
  unfold part
  refine filterMap_same fun e he => ?_
  have : more s b e.2.2 = s e.2.2 := by unfold more; rw [decide_eq_false (h e he), Bool.or_false]
  rw [this]

theorem drop_skip (k : Int) (e : Int × Int × Nat) (es : List (Int × Int × Nat)) (h : k ≠ e.1) : dropE (.int .i64 k) (encE (e :: es)) = (.int .i64 e.1, .int .i64 e.2.1, e.2.2) :: dropE (.int .i64 k) (encE es) := by
  have d1 : encE (e :: es) = (.int .i64 e.1, .int .i64 e.2.1, e.2.2) :: encE es := rfl
  rw [d1]
  simp only [dropE, keyEq, decide_eq_true_eq, if_neg h]
theorem put_skip (k v : Int) (c : Nat) (e : Int × Int × Nat) (es : List (Int × Int × Nat)) (h : k ≠ e.1) : putE (.int .i64 k) (.int .i64 v) c (encE (e :: es)) = (.int .i64 e.1, .int .i64 e.2.1, e.2.2) :: putE (.int .i64 k) (.int .i64 v) c (encE es) := by
  have d1 : encE (e :: es) = (.int .i64 e.1, .int .i64 e.2.1, e.2.2) :: encE es := rfl
  rw [d1]
  simp only [putE, keyEq, decide_eq_true_eq, if_neg h]

/-- One more entry has its tick. -/
theorem part_step {d : Int} {s : Nat → Bool} {x : Int × Int × Nat} {c : Nat} (hs : s x.2.2 = false) : ∀ {es : List (Int × Int × Nat)}, x ∈ es → (keys (abs es)).Nodup → (es.map (·.2.2)).Nodup →
    (tickE d x = none → dropE (.int .i64 x.1) (encE (part d s es)) = encE (part d (more s x.2.2) es)) ∧
    (∀ y, tickE d x = some y → putE (.int .i64 x.1) (.int .i64 y.2.1) c (encE (part d s es)) = encE (part d (more s x.2.2) es)) := by
  intro es
  induction es with
  | nil => intro h; cases h
  | cons e es ih =>
    intro hx hk hb
    have hk' : e.1 ∉ keys (abs es) ∧ (keys (abs es)).Nodup := by simpa [keys, abs] using hk
    have hb' : e.2.2 ∉ es.map (·.2.2) ∧ (es.map (·.2.2)).Nodup := List.nodup_cons.1 hb
    have hp : ∀ s, part d s (e :: es) = (match (if s e.2.2 then tickE d e else some e) with | some y => y :: part d s es | none => part d s es) := fun s => by
      unfold part
      rw [List.filterMap_cons]
      cases (if s e.2.2 then tickE d e else some e) <;> rfl
    rcases List.mem_cons.1 hx with rfl | hx'
    · have hsame : part d (more s x.2.2) es = part d s es := part_same fun e he hxe => hb'.1 (List.mem_map.2 ⟨e, he, hxe⟩)
      have hm : more s x.2.2 x.2.2 = true := by unfold more; simp
      rw [hp s, hp (more s x.2.2), hs, hm, hsame]
      simp only [Bool.false_eq_true, if_false, if_true]
      have d1 : encE (x :: part d s es) = (.int .i64 x.1, .int .i64 x.2.1, x.2.2) :: encE (part d s es) := rfl
      refine ⟨fun ht => ?_, fun y ht => ?_⟩
      · rw [ht, d1]
        simp [dropE, keyEq]
      · obtain ⟨h1, h2⟩ := tickE_key ht
        rw [ht, d1]
        have d2 : encE (y :: part d s es) = (.int .i64 y.1, .int .i64 y.2.1, y.2.2) :: encE (part d s es) := rfl
        simp only [putE, keyEq, decide_eq_true_eq, if_true]
        rw [d2, h1, h2]
    · have hne : x.1 ≠ e.1 := by
        intro h
        exact hk'.1 (List.mem_map.2 ⟨(x.1, x.2.1), List.mem_map.2 ⟨x, hx', rfl⟩, h⟩)
      have hbe : e.2.2 ≠ x.2.2 := by
        intro h
        exact hb'.1 (List.mem_map.2 ⟨x, hx', h.symm⟩)
      have hm : more s x.2.2 e.2.2 = s e.2.2 := by unfold more; rw [decide_eq_false hbe, Bool.or_false]
      obtain ⟨i1, i2⟩ := ih hx' hk'.2 hb'.2
      rw [hp s, hp (more s x.2.2), hm]
      cases hf : (if s e.2.2 then tickE d e else some e) with
      | none => exact ⟨i1, i2⟩
      | some y =>
        have hy : y.1 = e.1 := by
          cases hse : s e.2.2 with
          | true => rw [hse, if_pos rfl] at hf; exact (tickE_key hf).1
          | false => rw [hse, if_neg (by simp)] at hf; cases hf; rfl
        simp only
        refine ⟨fun ht => ?_, fun z ht => ?_⟩
        · rw [drop_skip _ _ _ (by rw [hy]; exact hne), i1 ht]; rfl
        · rw [put_skip _ _ _ _ _ (by rw [hy]; exact hne), i2 z ht]; rfl

theorem part_none (d : Int) (es : List (Int × Int × Nat)) : part d (fun _ => false) es = es := by
  unfold part
  simp

theorem part_all {d : Int} {s : Nat → Bool} {es : List (Int × Int × Nat)} (h : ∀ e ∈ es, s e.2.2 = true) : abs (part d s es) = tick d (abs es) := by
  unfold part tick abs
  rw [List.map_filterMap, List.filterMap_map]
  refine filterMap_same fun e he => ?_
  rw [h e he, if_pos rfl]
  unfold tickE tickOne
  simp only [Function.comp]
  split <;> rfl

theorem get_some_of_mem {es : List (Int × Int × Nat)} {x : Int × Int × Nat} (hx : x ∈ es) : get x.1 (abs es) ≠ none := by
  intro hn
  rw [get_none] at hn
  exact hn (List.mem_map.2 ⟨(x.1, x.2.1), List.mem_map.2 ⟨x, hx, rfl⟩, rfl⟩)

section
variable {R : Value → Heap → Prop} {h h' : Heap} {b r : Nat} {L : List (Int × Int)} {most ban decay gone : Int}

/-- How many are still to come. -/
def leftIn (it : Nat) (es : List (Int × Int × Nat)) (h : Heap) : Nat := match h[it]? with
  | some (.mapIter _ _ seen _) => (es.filter fun e => !seen.contains e.2.2).length
  | _ => 0

theorem left_less {es : List (Int × Int × Nat)} {seen : Array Nat} {x : Int × Int × Nat} (hx : x ∈ es) (hs : seen.contains x.2.2 = false) :
    (es.filter fun e => !(seen.push x.2.2).contains e.2.2).length < (es.filter fun e => !seen.contains e.2.2).length := by
  induction es with
  | nil => cases hx
  | cons e es ih =>
    have hle : ∀ es : List (Int × Int × Nat), (es.filter fun e => !(seen.push x.2.2).contains e.2.2).length ≤ (es.filter fun e => !seen.contains e.2.2).length := fun es => by
      induction es with
      | nil => simp
      | cons e es ih =>
        simp only [List.filter_cons]
        cases h1 : seen.contains e.2.2 with
        | true =>
          have : (seen.push x.2.2).contains e.2.2 = true := by
            rw [Array.contains_iff_mem] at h1 ⊢
            exact Array.mem_push_of_mem _ h1
          rw [this]
          simpa using ih
        | false =>
          simp only [Bool.not_false, if_true]
          split
          · simp only [List.length_cons]; omega
          · simp only [List.length_cons]; omega
    simp only [List.filter_cons]
    rcases List.mem_cons.1 hx with rfl | hx
    · have : (seen.push x.2.2).contains x.2.2 = true := by
        rw [Array.contains_iff_mem]
        exact Array.mem_push_self
      rw [this, hs]
      simp only [Bool.not_true, Bool.false_eq_true, if_false, Bool.not_false, if_true, List.length_cons]
      have := hle es
      omega
    · have := ih hx
      cases h1 : seen.contains e.2.2 with
      | true =>
        have h2 : (seen.push x.2.2).contains e.2.2 = true := by
          rw [Array.contains_iff_mem] at h1 ⊢
          exact Array.mem_push_of_mem _ h1
        rw [h2]
        simpa using this
      | false =>
        simp only [Bool.not_false, if_true, List.length_cons]
        split
        · simp only [List.length_cons]; omega
        · omega

theorem contains_push (seen : Array Nat) (b n : Nat) : (seen.push b).contains n = more (fun n => seen.contains n) b n := by
  unfold more
  rw [Bool.eq_iff_iff, Bool.or_eq_true, decide_eq_true_eq, Array.contains_iff_mem, Array.contains_iff_mem, Array.mem_push]

theorem Good.tick (g : Good L) (hd : 1 ≤ decay) : Good (Peers.tick decay L) := by
  refine ⟨tick_keys g.one, fun x hx => ?_, fun e he => ?_⟩
  · obtain ⟨e, he, rfl⟩ := List.mem_map.1 hx
    exact g.fit _ (List.mem_map.2 ⟨_, (mem_tick.1 he).1, rfl⟩)
  · obtain ⟨h1, h2⟩ := mem_tick.1 he
    have := g.low _ h1
    simp only at this
    omega

theorem Tick_spec (p : Pe h b r L most ban decay gone) (hr : ∀ h', Pe h' b r (tick decay L) most ban decay gone → Only (fun i => i = b ∨ i = r) h h' → R (TV.tup []).val h') :
    CallsH Try.prog 11 (TVs.vals [.ptr (some ⟨b, 0⟩)]) h R := by
  apply peers_Peers_Tick_calls
  unfold peers_Peers_Tick_vc
  have hcf := p.cfg
  unfold Valid at hcf
  have hrl := p.map.lt
  have hbl := p.var.lt
  have hne := p.ne
  have hgood := p.good
  obtain ⟨es, c, hb, hL, hs⟩ := p.map
  have hkn : (keys (abs es)).Nodup := by rw [hL]; exact hgood.one
  refine If.no ⟨some r, p.var.at1 rfl, encE es, c, hb, ?_⟩
  have x1 := Ext.push h (.mapIter (some r) c #[] c)
  refine ⟨fun _ hh => ∃ seen, hh[h.size]? = some (.mapIter (some r) c seen c) ∧ hh[r]? = some (mapO (encE (part decay (fun n => seen.contains n) es)) c) ∧ Only (fun i => i = r) h hh, fun _ hh => leftIn h.size es hh, ⟨#[], by simp, ?_, Only.of_ext x1⟩, ?_⟩
  · rw [x1.same r hrl, hb]
    have : part decay (fun n => (#[] : Array Nat).contains n) es = es := by
      have e : (fun n => (#[] : Array Nat).contains n) = fun _ => false := by funext n; simp
      rw [e, part_none]
    rw [this]
  rintro _ h1 ⟨seen, hit, hm, o1⟩
  have pv : Var 48 h1 b (.agg [.map (some r), .int .i64 most, .int .i64 ban, .int .i64 decay, .int .i64 gone]) := p.var.only o1 hne
  have hpb : ∀ y ∈ part decay (fun n => seen.contains n) es, y.2.2 < c := fun y hy => by
    obtain ⟨e, he, _, h2, _⟩ := part_mem hy
    rw [h2]
    exact hs.1 e he
  have hnb : ∀ es0 : List (Int × Int × Nat), (es0.map (·.2.2)).Nodup → ((part decay (fun n => seen.contains n) es0).map (·.2.2)).Nodup := fun es0 => by
    induction es0 with
    | nil => intro _; exact List.nodup_nil
    | cons e es0 ih =>
      intro hn
      obtain ⟨n1, n2⟩ := List.nodup_cons.1 hn
      have hp : part decay (fun n => seen.contains n) (e :: es0) = (match (if seen.contains e.2.2 then tickE decay e else some e) with | some y => y :: part decay (fun n => seen.contains n) es0 | none => part decay (fun n => seen.contains n) es0) := by
        unfold part
        rw [List.filterMap_cons]
        cases (if seen.contains e.2.2 then tickE decay e else some e) <;> rfl
      rw [hp]
      cases hf : (if seen.contains e.2.2 then tickE decay e else some e) with
      | none => exact ih n2
      | some y =>
        have hy : y.2.2 = e.2.2 := by
          split at hf
          · exact (tickE_key hf).2
          · cases hf; rfl
        simp only [List.map_cons, List.nodup_cons]
        refine ⟨fun hx => ?_, ih n2⟩
        obtain ⟨z, hz, h2⟩ := List.mem_map.1 hx
        obtain ⟨e', he', _, h3, _⟩ := part_mem hz
        exact n1 (List.mem_map.2 ⟨e', he', by rw [← h3, h2, hy]⟩)
  refine ⟨rfl, r, c, c, seen, encE (part decay (fun n => seen.contains n) es), c, hit, hm, fun e he => ?_, Nat.le_refl _, fun hall => ?_, fun e he hsn => ?_⟩
  · obtain ⟨y, hy, rfl⟩ := List.mem_map.1 he
    exact hpb y hy
  · -- all have come
    have hall' : ∀ e ∈ es, seen.contains e.2.2 = true := fun e he => by
      cases hc : seen.contains e.2.2 with
      | true => rfl
      | false =>
        have hin : e ∈ part decay (fun n => seen.contains n) es := List.mem_filterMap.2 ⟨e, he, by show (if seen.contains e.2.2 = true then tickE decay e else some e) = some e; rw [hc, if_neg (by simp)]⟩
        have := hall _ (List.mem_map.2 ⟨e, hin, rfl⟩)
        rw [← hc]
        exact this
    refine hr h1 ⟨pv, ⟨_, c, hm, ?_, ⟨hpb, hnb es hs.2⟩⟩, hgood.tick (by omega), ?_, p.cfg⟩ (o1.mono fun i hi => .inr hi)
    · rw [part_all hall', hL]
    · have h1 := tick_length decay L
      have h2 := p.len
      omega
  · obtain ⟨x, hx, rfl⟩ := List.mem_map.1 he
    simp only at hsn
    obtain ⟨e0, he0, _, hb0, hun⟩ := part_mem hx
    have hx0 : x = e0 := hun (by rw [← hb0]; exact hsn)
    subst hx0
    have hitl : h.size < h1.size := (Array.getElem?_eq_some_iff.1 hit).1
    have o2 := set_only (h := h1) (r := h.size) (o := .mapIter (some r) c (seen.push x.2.2) c)
    have hm2 : (h1.setIfInBounds h.size (.mapIter (some r) c (seen.push x.2.2) c))[r]? = some (mapO (encE (part decay (fun n => seen.contains n) es)) c) := by
      rw [o2.same r (by have := o1.size; omega) (by omega), hm]
    have hit2 : (h1.setIfInBounds h.size (.mapIter (some r) c (seen.push x.2.2) c))[h.size]? = some (.mapIter (some r) c (seen.push x.2.2) c) := set_get hitl
    have pv2 := pv.only o2 (by omega)
    have o12 : Only (fun i => i = r) h (h1.setIfInBounds h.size (.mapIter (some r) c (seen.push x.2.2) c)) :=
      ⟨Nat.le_trans o1.size o2.size, fun i hi hn => (o2.same i (Nat.lt_of_lt_of_le hi o1.size) (by omega)).trans (o1.same i hi hn)⟩
    have hsz2 : (h1.setIfInBounds h.size (.mapIter (some r) c (seen.push x.2.2) c)).size = h1.size := by simp
    generalize h1.setIfInBounds h.size (.mapIter (some r) c (seen.push x.2.2) c) = h2 at *
    refine ⟨rfl, r, c, seen, encE (part decay (fun n => seen.contains n) es), c, (.int .i64 x.1, .int .i64 x.2.1, x.2.2), hit2, hm2, List.mem_map.2 ⟨x, hx, rfl⟩, ?_, ⟨.int .i64 x.1, rfl⟩, ⟨.int .i64 x.2.1, rfl⟩, rfl, rfl, x.1, rfl, x.2.1, rfl, decay, pv2.at1 rfl, ?_⟩
    · have : (encE (part decay (fun n => seen.contains n) es)).map (fun x => x.2.2) = (part decay (fun n => seen.contains n) es).map (·.2.2) := by
        unfold encE
        rw [List.map_map]
        rfl
      rw [this]
      exact hnb es hs.2
    have hxl := hgood.low (x.1, x.2.1) (by rw [← hL]; exact List.mem_map.2 ⟨x, he0, rfl⟩)
    simp only at hxl
    rw [wrap_i64 (n := x.2.1 + decay) (by omega) (by omega)]
    have hseen : (fun n => (seen.push x.2.2).contains n) = more (fun n => seen.contains n) x.2.2 := by
      funext n
      exact contains_push seen x.2.2 n
    have hr2 : r < h2.size := by have := o1.size; omega
    have fin : ∀ o : Obj, o = mapO (encE (part decay (fun n => (seen.push x.2.2).contains n) es)) c →
        (∃ seen, (h2.setIfInBounds r o)[h.size]? = some (.mapIter (some r) c seen c) ∧ (h2.setIfInBounds r o)[r]? = some (mapO (encE (part decay (fun n => seen.contains n) es)) c) ∧ Only (fun i => i = r) h (h2.setIfInBounds r o)) ∧ leftIn h.size es (h2.setIfInBounds r o) < leftIn h.size es h1 := by
      rintro o rfl
      have o3 := set_only (h := h2) (r := r) (o := mapO (encE (part decay (fun n => (seen.push x.2.2).contains n) es)) c)
      have hit3 := o3.same h.size (by omega) (by omega)
      rw [hit2] at hit3
      refine ⟨⟨seen.push x.2.2, hit3, set_get hr2, o12.trans o3⟩, ?_⟩
      unfold leftIn
      rw [hit3, hit]
      exact left_less he0 hsn
    refine If.dec.2 ⟨fun h0 => ?_, fun h0 => ?_⟩
    · refine ⟨some r, pv2.at1 rfl, encE (part decay (fun n => seen.contains n) es), c, hm2, like_enc _, ?_⟩
      have ht : tickE decay x = none := by unfold tickE; rw [if_pos h0]
      have := (part_step (c := c) (s := fun n => seen.contains n) hsn he0 hkn hs.2).1 ht
      rw [this, ← hseen]
      exact fin _ rfl
    · refine ⟨some r, pv2.at1 rfl, encE (part decay (fun n => seen.contains n) es), c, hm2, like_enc _, ?_⟩
      have ht : tickE decay x = some (x.1, x.2.1 + decay, x.2.2) := by unfold tickE; rw [if_neg h0]
      have h3 := (part_step (c := c) (s := fun n => seen.contains n) hsn he0 hkn hs.2).2 _ ht
      simp only at h3
      have hcl : clockE (.int .i64 x.1) c (encE (part decay (fun n => seen.contains n) es)) = c := by
        unfold clockE
        rw [find_enc]
        have := get_some_of_mem hx
        cases hg : get x.1 (abs (part decay (fun n => seen.contains n) es)) with
        | none => exact absurd hg this
        | some v => rfl
      rw [h3, hcl, ← hseen]
      exact fin _ rfl

theorem alive_spec (hr : ∀ h', Ext h h' → R (TV.bool true).val h') : CallsH Try.prog 9 (TVs.vals []) h R := by
  apply tollerlaw18_alive_calls
  unfold tollerlaw18_alive_vc
  have hv : Valid 2 10 1 := by unfold Valid; omega
  refine New_spec (fun _ h1 x1 p1 => ⟨_, rfl, ?_⟩) (fun hn => absurd hv hn)
  have cut : ∀ {h1 h2 : Heap}, Ext h h1 → Only (fun i => i = h.size + 1 ∨ i = h.size) h1 h2 → Ext h h2 := fun x o => Only.cut x o (by rintro i (rfl | rfl) <;> omega)
  have w7 : (Lit.int .i64 7).wf = true := by decide
  refine Fail_spec p1 w7 (by omega) fun h2 L2 g2 f2 p2 o2 => ⟨rfl, ?_⟩
  have e2 : L2 = [(7, -5)] ∧ g2 = 0 := by
    rcases f2 with ⟨h, _⟩ | ⟨_, _, rfl, rfl⟩ | ⟨_, _, h, _⟩
    · omega
    · exact ⟨by decide, rfl⟩
    · simp at h
  obtain ⟨rfl, rfl⟩ := e2
  have x2 := cut x1 o2
  refine Fail_spec p2 w7 (by omega) fun h3 L3 g3 f3 p3 o3 => ⟨rfl, ?_⟩
  have e3 : L3 = [(7, -10)] ∧ g3 = 0 := by
    rcases f3 with ⟨h, _⟩ | ⟨_, _, rfl, rfl⟩ | ⟨_, _, h, _⟩
    · omega
    · exact ⟨by decide, rfl⟩
    · simp at h
  obtain ⟨rfl, rfl⟩ := e3
  have x3 := cut x2 o3
  intro J hJ
  refine Banned_spec p3 ⟨_, rfl, ?_⟩
  have b1 : decide (score [(7, -10)] 7 ≤ -10) = true := by decide
  rw [b1]
  refine If.no ?_
  refine Score_spec p3 ⟨_, rfl, ?_⟩
  have s1 : score [(7, -10)] 7 = -10 := by decide
  rw [s1]
  refine If.no ?_
  refine Score_spec p3 ⟨_, rfl, ?_⟩
  have s2 : score [(7, -10)] 8 = 0 := by decide
  rw [s2]
  refine If.no (hJ _ _ ?_)
  refine Tick_spec p3 fun h4 p4 o4 => ⟨rfl, ?_⟩
  have x4 := cut x3 o4
  have t1 : tick 1 [(7, -10)] = [(7, -9)] := by decide
  rw [t1] at p4
  refine Banned_spec p4 ⟨_, rfl, ?_⟩
  have b2 : decide (score [(7, -9)] 7 ≤ -10) = false := by decide
  rw [b2]
  refine If.yes ?_
  refine Known_spec p4 fun h5 s x5 o5 _ => ⟨s, rfl, ?_⟩
  have hl := o5.len
  rw [List.length_map, srt_length] at hl
  have : (s.len : Int) = 1 := by rw [← hl]; rfl
  rw [this]
  exact hr _ (x4.trans x5)

/-! ### Calls in memory -/

structure Call where
  tick : Bool
  peer : Int
  pts : Int

def callTV (c : Call) : TV := .agg [.bool c.tick, .int .i64 c.peer, .int .i64 c.pts]

/-- A script that came in. -/
structure Calls (h : Heap) (s : Sl) (cs : List Call) : Prop where
  el : Elems 3 h s (cs.map callTV)
  fit : ∀ c ∈ cs, (Lit.int .i64 c.peer).wf = true ∧ (Lit.int .i64 c.pts).wf = true

theorem Calls.ext {s : Sl} {cs : List Call} (c : Calls h s cs) (e : Ext h h') : Calls h' s cs := ⟨c.el.ext e, c.fit⟩
theorem Calls.len {s : Sl} {cs : List Call} (c : Calls h s cs) : s.len = cs.length := by have := c.el.len; simp at this; omega

theorem Calls.at {s : Sl} {cs : List Call} (c : Calls h s cs) {i : Int} (h0 : 0 ≤ i) (h1 : i < s.len) {K : Go.Vc.Loc → Prop}
    (hk : ∀ l x, cs[i.toNat]? = some x → (Lit.int .i64 x.peer).wf = true → at1 h l.b (l.o + i.toNat * 3) (.bool x.tick) → at1 h l.b (l.o + i.toNat * 3 + 1) (.int .i64 x.peer) → at1 h l.b (l.o + i.toNat * 3 + 1 + 1) (.int .i64 x.pts) → K l) : 0 ≤ i ∧ i < s.len ∧ Nn s.a K := by
  refine c.el.read h0 h1 fun l t _ ht hat => ?_
  rw [List.getElem?_map, Option.map_eq_some_iff] at ht
  obtain ⟨x, hx, rfl⟩ := ht
  rw [TV.at_iff] at hat
  have a0 := hat 0 (show 0 < 3 by decide)
  have a1 := hat 1 (show 1 < 3 by decide)
  have a2 := hat 2 (show 2 < 3 by decide)
  exact hk l x hx (c.fit x (List.mem_of_getElem? hx)).1 a0 a1 a2

end
end Go.Proofs.Ythkaabfoeealaaa.Peers
