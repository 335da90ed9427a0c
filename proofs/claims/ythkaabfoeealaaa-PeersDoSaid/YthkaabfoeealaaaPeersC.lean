/- What peers' functions do: New, Score, Banned, Known, Gone, worst, Fail. -/
import Derived.Test.YthkaabfoeealaaaPeersB
import Derived.Test.YthkaabfoeealaaaVsPeers
namespace Go.Proofs.Ythkaabfoeealaaa.Peers
open Go Go.Vc

/-- What rows of scores are good for. -/
structure Good (L : List (Int × Int)) : Prop where
  one : (keys L).Nodup
  fit : ∀ k ∈ keys L, (Lit.int .i64 k).wf = true
  low : ∀ e ∈ L, -1048576 ≤ e.2 ∧ e.2 < 0

def Valid (most ban decay : Int) : Prop := 1 ≤ most ∧ most ≤ 16 ∧ 1 ≤ ban ∧ ban ≤ 1048576 ∧ 1 ≤ decay ∧ decay ≤ 1048576

/-- Peers in memory. -/
structure Pe (h : Heap) (b r : Nat) (L : List (Int × Int)) (most ban decay gone : Int) : Prop where
  var : Var 48 h b (.agg [.map (some r), .int .i64 most, .int .i64 ban, .int .i64 decay, .int .i64 gone])
  map : MapI h r L
  good : Good L
  len : (L.length : Int) ≤ most
  cfg : Valid most ban decay

section
variable {R : Value → Heap → Prop} {h h' : Heap} {b r : Nat} {L : List (Int × Int)} {most ban decay gone : Int}

theorem Pe.ext (p : Pe h b r L most ban decay gone) (e : Ext h h') : Pe h' b r L most ban decay gone := ⟨p.var.ext e, p.map.ext e, p.good, p.len, p.cfg⟩
theorem Pe.only {S : Nat → Prop} (p : Pe h b r L most ban decay gone) (o : Only S h h') (hb : ¬ S b) (hr : ¬ S r) : Pe h' b r L most ban decay gone := ⟨p.var.only o hb, p.map.only o hr, p.good, p.len, p.cfg⟩
theorem Pe.ne (p : Pe h b r L most ban decay gone) : b ≠ r := by
  rintro rfl
  obtain ⟨es, c, h1, _⟩ := p.map
  have := p.var
  unfold Var at this
  rw [h1] at this
  cases this

theorem score_low (g : Good L) (k : Int) : -1048576 ≤ score L k ∧ score L k ≤ 0 := by
  unfold score
  cases hg : get k L with
  | none => simp
  | some v =>
    have := g.low _ ((get_mem g.one).1 hg)
    simp only [Option.getD_some]
    simp only at this
    omega

theorem score_known (g : Good L) {k : Int} : k ∈ keys L ↔ score L k < 0 := by
  unfold score
  cases hg : get k L with
  | none =>
    have := get_none.1 hg
    simp [this]
  | some v =>
    have h1 := g.low _ ((get_mem g.one).1 hg)
    have h2 : k ∈ keys L := List.mem_map.2 ⟨_, (get_mem g.one).1 hg, rfl⟩
    simp only [h2, Option.getD_some, true_iff]
    exact h1.2

theorem in_spec {n top : Int} (hr : R (TV.bool (decide (1 ≤ n ∧ n ≤ top))).val h) : CallsH Try.prog 24 (TVs.vals [.int .i64 n, .int .i64 top]) h R := by
  apply peers_New_1_calls
  refine If.dec.2 ⟨fun h1 => ?_, fun h1 => ?_⟩
  · have : decide (1 ≤ n ∧ n ≤ top) = decide (n ≤ top) := by rw [decide_eq_decide]; simp [h1]
    rw [this] at hr
    exact hr
  · have : decide (1 ≤ n ∧ n ≤ top) = false := by rw [decide_eq_false_iff_not]; exact fun hx => h1 hx.1
    rw [this] at hr
    exact hr

theorem New_spec (hr1 : Valid most ban decay → ∀ h', Ext h h' → Pe h' (h.size + 1) h.size [] most ban decay 0 → R (TV.ptr (some ⟨h.size + 1, 0⟩)).val h') (hr2 : ¬ Valid most ban decay → R (TV.ptr none).val h) :
    CallsH Try.prog 10 (TVs.vals [.int .i64 most, .int .i64 ban, .int .i64 decay]) h R := by
  apply peers_New_calls
  unfold peers_New_vc
  refine in_spec ⟨_, rfl, ?_⟩
  refine If.split (fun h1 => hr2 (fun hv => ?_)) (fun h1 => ?_)
  · simp only [Bool.not_eq_true', decide_eq_false_iff_not] at h1
    exact h1 ⟨hv.1, hv.2.1⟩
  refine in_spec ⟨_, rfl, ?_⟩
  refine If.split (fun h2 => hr2 (fun hv => ?_)) (fun h2 => ?_)
  · simp only [Bool.not_eq_true', decide_eq_false_iff_not] at h2
    exact h2 ⟨hv.2.2.1, hv.2.2.2.1⟩
  refine in_spec ⟨_, rfl, ?_⟩
  refine If.split (fun h3 => hr2 (fun hv => ?_)) (fun h3 => ?_)
  · simp only [Bool.not_eq_true', decide_eq_false_iff_not] at h3
    exact h3 hv.2.2.2.2
  simp only [Bool.not_eq_false', decide_eq_true_eq] at h1 h2 h3
  have hv : Valid most ban decay := ⟨h1.1, h1.2, h2.1, h2.2, h3.1, h3.2⟩
  have x1 := Ext.push h (mapO [] 0)
  have hsz : (h.push (mapO [] 0)).size = h.size + 1 := by simp
  obtain ⟨h2, e2, v2, x2, s2⟩ := newTV_spec (h.push (mapO [] 0)) (.agg [.map (some h.size), .int .i64 most, .int .i64 ban, .int .i64 decay, .int .i64 0]) 48
  rw [e2]
  rw [hsz] at v2 ⊢
  have hm : MapI (h.push (mapO [] 0)) h.size [] := ⟨[], 0, by simp [encE], rfl, (fun e he => by cases he), List.nodup_nil⟩
  exact hr1 hv h2 (x1.trans x2) ⟨v2, hm.ext x2, ⟨List.nodup_nil, (fun k hk => by cases hk), (fun e he => by cases he)⟩, by simp; omega, hv⟩

theorem Score_spec (p : Pe h b r L most ban decay gone) {k : Int} (hr : R (TV.int .i64 (score L k)).val h) : CallsH Try.prog 14 (TVs.vals [.ptr (some ⟨b, 0⟩), .int .i64 k]) h R := by
  apply peers_Peers_Score_calls
  unfold peers_Peers_Score_vc
  obtain ⟨es, c, hb, rfl, _⟩ := p.map
  refine If.no ⟨some r, p.var.at1 rfl, encE es, c, hb, like_enc es, _, or_enc k es, hr⟩

theorem Banned_spec (p : Pe h b r L most ban decay gone) {k : Int} (hr : R (TV.bool (decide (score L k ≤ -ban))).val h) : CallsH Try.prog 15 (TVs.vals [.ptr (some ⟨b, 0⟩), .int .i64 k]) h R := by
  apply peers_Peers_Banned_calls
  unfold peers_Peers_Banned_vc
  have hc := p.cfg
  unfold Valid at hc
  refine If.yes ⟨ban, p.var.at1 rfl, Score_spec p ⟨_, rfl, Ext.refl _, ?_⟩⟩
  rw [wrap_i64 (by omega) (by omega)]
  have : (0 : Int) - ban = -ban := by omega
  rw [this]
  exact hr

theorem Gone_spec (p : Pe h b r L most ban decay gone) (hr : R (TV.int .i64 gone).val h) : CallsH Try.prog 16 (TVs.vals [.ptr (some ⟨b, 0⟩)]) h R := by
  apply peers_Peers_Gone_calls
  unfold peers_Peers_Gone_vc
  exact If.no ⟨gone, p.var.at1 rfl, hr⟩

theorem Known_spec (p : Pe h b r L most ban decay gone) (hr : ∀ h' s, Ext h h' → Own 3 1 h' s ((srt L).map intTV) → Up s h.size → R (TV.slice s).val h') :
    CallsH Try.prog 13 (TVs.vals [.ptr (some ⟨b, 0⟩)]) h R := by
  apply peers_Peers_Known_calls
  unfold peers_Peers_Known_vc
  have hl := p.len
  have hc := p.cfg
  unfold Valid at hc
  refine If.no ⟨some r, p.var.at1 rfl, ?_⟩
  refine (keys_sorted p.map p.good.one p.good.fit (by omega) (R := fun v h => ∃ s : Sl, v = (TV.slice s).val ∧ R (TV.slice s).val h) fun h' s x o u => ⟨s, rfl, hr h' s x o u⟩)

theorem ints_at {h : Heap} {A : Sl} {l : List Int} (e : Elems 1 h A (l.map intTV)) {i : Int} (h0 : 0 ≤ i) (h1 : i < l.length) {K : Go.Vc.Loc → Prop}
    (hk : ∀ p x, l[i.toNat]? = some x → at1 h p.b (p.o + i.toNat * 1) (.int .i64 x) → K p) : 0 ≤ i ∧ i < A.len ∧ Nn A.a K := by
  have hl := e.len
  rw [List.length_map] at hl
  refine e.read h0 (by omega) fun p t _ ht hat => ?_
  rw [List.getElem?_map, Option.map_eq_some_iff] at ht
  obtain ⟨x, hx, rfl⟩ := ht
  exact hk p x hx hat

theorem sorted_le {l : List Int} (hs : l.Pairwise (fun x y => x ≤ y)) {i j : Nat} {x y : Int} (hij : i ≤ j) (hx : l[i]? = some x) (hy : l[j]? = some y) : x ≤ y := by
  obtain ⟨hi, rfl⟩ := List.getElem?_eq_some_iff.1 hx
  obtain ⟨hj, rfl⟩ := List.getElem?_eq_some_iff.1 hy
  rcases Nat.lt_or_eq_of_le hij with h | h
  · exact List.pairwise_iff_getElem.1 hs i j hi hj h
  · subst h; exact Int.le_refl _

theorem worst_spec (p : Pe h b r L most ban decay gone) (hne : L ≠ []) (hr : ∀ h' w, Ext h h' → IsWorst L w → R (TV.int .i64 w).val h') : CallsH Try.prog 25 (TVs.vals [.ptr (some ⟨b, 0⟩)]) h R := by
  apply peers_Peers_worst_calls
  unfold peers_Peers_worst_vc
  refine Known_spec p fun h1 s x1 o _ => ⟨s, rfl, ?_⟩
  have hlen := srt_length L
  have hpos : 0 < L.length := List.length_pos_iff.2 hne
  have hol := o.len
  rw [List.length_map] at hol
  have hm := p.len
  have hc := p.cfg
  unfold Valid at hc
  have hss := srt_sorted L
  have hmem : ∀ x, x ∈ srt L ↔ x ∈ keys L := fun x => (srt_perm L).mem_iff
  refine ints_at o.elems (i := 0) (by omega) (by omega) fun l n hn hat => ⟨n, hat, ?_⟩
  refine ⟨fun s' hh => 0 ≤ s'.2 ∧ s'.2 ≤ (srt L).length ∧ Ext h1 hh ∧ (∃ q : Nat, (srt L)[q]? = some s'.1 ∧ (q : Int) < max s'.2 1) ∧ (∀ (j : Nat) (x : Int), (j : Int) < s'.2 → (srt L)[j]? = some x → score L s'.1 < score L x ∨ score L s'.1 = score L x ∧ s'.1 ≤ x),
    fun s' _ => (((srt L).length : Int) - s'.2).toNat, ⟨by simp, by simp, Ext.refl _, ⟨0, hn, by simp; omega⟩, fun j x hj => by simp at hj; omega⟩, ?_⟩
  rintro ⟨a, i⟩ hh ⟨i0, i1, x, ⟨q, hq, hq1⟩, hall⟩
  simp only at i0 i1 hq hq1 hall ⊢
  have pp := (p.ext x1).ext x
  refine If.dec.2 ⟨fun hi => ?_, fun hi => ?_⟩
  · refine ints_at (o.ext x).elems i0 (by omega) fun l' y hy hat' => ⟨y, hat', ?_⟩
    obtain ⟨es, c, hb, hL, _⟩ := pp.map
    have o1 := or_enc y es
    have o2 := or_enc a es
    rw [hL] at o1 o2
    refine ⟨some r, pp.var.at1 rfl, encE es, c, hb, like_enc es, _, o1, some r, pp.var.at1 rfl, encE es, c, hb, like_enc es, _, o2, ?_⟩
    rw [wrap_i64 (n := i + 1) (by omega) (by omega)]
    have hqi : q ≤ i.toNat := by omega
    have hay := sorted_le hss hqi hq hy
    refine If.dec.2 ⟨fun hlt => ⟨⟨by omega, by omega, x, ⟨i.toNat, hy, by omega⟩, fun j z hj hz => ?_⟩, by omega⟩, fun hlt => ⟨⟨by omega, by omega, x, ⟨q, hq, by omega⟩, fun j z hj hz => ?_⟩, by omega⟩⟩
    · by_cases e : (j : Int) = i
      · have : j = i.toNat := by omega
        rw [this, hy] at hz
        cases hz
        exact .inr ⟨rfl, Int.le_refl _⟩
      · have := hall j z (by omega) hz
        left; omega
    · by_cases e : (j : Int) = i
      · have : j = i.toNat := by omega
        rw [this, hy] at hz
        cases hz
        omega
      · exact hall j z (by omega) hz
  · refine hr _ a (x1.trans x) ⟨(hmem a).1 (List.mem_of_getElem? hq), fun z hz => ?_⟩
    obtain ⟨j, hj, rfl⟩ := List.getElem_of_mem ((hmem z).2 hz)
    exact hall j _ (by omega) (List.getElem?_eq_getElem hj)

/-! ### Fail -/

def lower (s pts : Int) : Int := mx (s - mn pts 1048576) (-1048576)

theorem lower_range {s pts : Int} (hs : -1048576 ≤ s ∧ s ≤ 0) (hp : 0 < pts) : -1048576 ≤ lower s pts ∧ lower s pts < 0 := by
  unfold lower mx mn
  split <;> split <;> omega

/-- What a failing makes of the scores, and whether one gives way. -/
def FailTo (most : Int) (L : List (Int × Int)) (k pts : Int) (L' : List (Int × Int)) (g : Int) : Prop :=
  (pts ≤ 0 ∧ L' = L ∧ g = 0) ∨
  (0 < pts ∧ (k ∈ keys L ∨ (L.length : Int) < most) ∧ g = 0 ∧ L' = put k (lower (score L k) pts) L) ∨
  (0 < pts ∧ k ∉ keys L ∧ most ≤ L.length ∧ g = 1 ∧ ∃ w, IsWorst L w ∧ L' = put k (lower 0 pts) (drop w L))

theorem Good.put (g : Good L) {k v : Int} (hk : (Lit.int .i64 k).wf = true) (hv : -1048576 ≤ v ∧ v < 0) : Good (Peers.put k v L) := by
  have hp := put_perm_drop g.one k v
  refine ⟨put_keys g.one k v, fun x hx => ?_, fun e he => ?_⟩
  · have := (hp.map (·.1)).mem_iff.1 hx
    simp only [List.map_cons, List.mem_cons] at this
    rcases this with rfl | h1
    · exact hk
    · obtain ⟨e, he, rfl⟩ := List.mem_map.1 h1
      exact g.fit _ (List.mem_map.2 ⟨e, ((mem_drop g.one).1 he).1, rfl⟩)
  · have := hp.mem_iff.1 he
    rcases List.mem_cons.1 this with rfl | h1
    · exact hv
    · exact g.low _ ((mem_drop g.one).1 h1).1

theorem Good.drop (g : Good L) (k : Int) : Good (Peers.drop k L) :=
  ⟨drop_keys g.one k, fun x hx => by
    obtain ⟨e, he, rfl⟩ := List.mem_map.1 hx
    exact g.fit _ (List.mem_map.2 ⟨e, ((mem_drop g.one).1 he).1, rfl⟩), fun e he => g.low _ ((mem_drop g.one).1 he).1⟩

theorem set_only {h : Heap} {r : Nat} {o : Obj} : Only (· = r) h (h.setIfInBounds r o) :=
  ⟨by simp, fun i hi hn => by rw [Array.getElem?_setIfInBounds_ne (fun hx => hn hx.symm)]⟩
theorem set_get {h : Heap} {r : Nat} {o : Obj} (hr : r < h.size) : (h.setIfInBounds r o)[r]? = some o := by simp [hr]

theorem MapI.put {es : List (Int × Int × Nat)} {c : Nat} {k v : Int} (hr : r < h.size) (hs : Stamps es c) : MapI (h.setIfInBounds r (mapO (putE (.int .i64 k) (.int .i64 v) c (encE es)) (clockE (.int .i64 k) c (encE es)))) r (Peers.put k v (abs es)) := by
  obtain ⟨es', h1, h2, h3⟩ := put_enc k v hs
  rw [h1]
  exact ⟨es', _, set_get hr, h2, h3⟩
theorem MapI.drop {es : List (Int × Int × Nat)} {c : Nat} {k : Int} (hr : r < h.size) (hs : Stamps es c) : MapI (h.setIfInBounds r (mapO (dropE (.int .i64 k) (encE es)) c)) r (Peers.drop k (abs es)) := by
  obtain ⟨es', h1, h2, h3, _⟩ := drop_enc k hs
  rw [h1]
  exact ⟨es', _, set_get hr, h2, h3⟩

theorem put_at {T : TypeId} {h : Heap} {b i : Nat} {ts : List TV} (v : Var T h b (.agg ts)) (h1 : ∀ t ∈ ts, t.size = 1) (hi : i < ts.length) {t : TV} (ht : t.size = 1) (hc : ∀ ts : List TV, (∀ t ∈ ts, t.size = 1) → i < ts.length → (TVs.cells ts).take i ++ t.cells ++ (TVs.cells ts).drop (i + 1) = TVs.cells (ts.set i t)) :
    wok h b i 1 ∧ ∃ h1, t.put h b i = h1 ∧ Var T h1 b (.agg (ts.set i t)) ∧ Only (· = b) h h1 ∧ h1.size = h.size := by
  have hlen : (TVs.cells ts).length = ts.length := by rw [TVs.cells_uniform (sz := 1) ts h1, Nat.mul_one]
  have hl : i + t.size ≤ (TV.agg ts).cells.length := by simp only [TV.cells, hlen, ht]; omega
  refine ⟨wok_row v (by rw [← ht]; exact hl), _, rfl, ?_, put_only v hl, put_size v hl⟩
  have := put_row (t := t) v hl
  unfold Var
  rw [this]
  simp only [TV.cells, ht]
  rw [hc ts h1 hi]

theorem Fail_spec (p : Pe h b r L most ban decay gone) {k pts : Int} (hk : (Lit.int .i64 k).wf = true) (hg : 0 ≤ gone ∧ gone < 1000000)
    (hr : ∀ h' L' g, FailTo most L k pts L' g → Pe h' b r L' most ban decay (gone + g) → Only (fun i => i = b ∨ i = r) h h' → R (TV.tup []).val h') : CallsH Try.prog 12 (TVs.vals [.ptr (some ⟨b, 0⟩), .int .i64 k, .int .i64 pts]) h R := by
  apply peers_Peers_Fail_calls
  unfold peers_Peers_Fail_vc
  have hc := p.cfg
  unfold Valid at hc
  have hlen := p.len
  intro J hJ
  refine If.no ?_
  refine If.dec.2 ⟨fun hp => hr h L 0 (.inl ⟨hp, rfl, rfl⟩) (by simpa using p) (Only.refl _ _), fun hp => hJ _ _ ?_⟩
  intro J2 hJ2
  -- what is laid at the end
  have last : ∀ (h1 : Heap) (L1 : List (Int × Int)) (g : Int), Pe h1 b r L1 most ban decay (gone + g) → Only (fun i => i = b ∨ i = r) h h1 → FailTo most L k pts (Peers.put k (lower (score L1 k) pts) L1) g →
      (k ∈ keys L1 ∨ (L1.length : Int) < most) → J2 PUnit.unit h1 := by
    intro h1 L1 g p1 o1 hf hroom
    refine hJ2 _ _ ?_
    have hrl := p1.map.lt
    obtain ⟨es, c, hb, rfl, hs⟩ := p1.map
    have hsl := score_low p1.good k
    refine ⟨some r, p1.var.at1 rfl, some r, p1.var.at1 rfl, encE es, c, hb, like_enc es, _, or_enc k es, encE es, c, hb, like_enc es, ?_⟩
    have hmn : 0 < mn pts 1048576 ∧ mn pts 1048576 ≤ 1048576 := by unfold mn; split <;> omega
    rw [wrap_i64 (n := score (abs es) k - mn pts 1048576) (by omega) (by omega)]
    have hlow := lower_range (pts := pts) hsl (by omega)
    have o2 := set_only (h := h1) (r := r) (o := mapO (putE (.int .i64 k) (.int .i64 (lower (score (abs es) k) pts)) c (encE es)) (clockE (.int .i64 k) c (encE es)))
    refine hr _ _ g hf ⟨p1.var.only o2 p1.ne, MapI.put hrl hs, p1.good.put hk hlow, ?_, p.cfg⟩ (o1.trans (o2.mono fun i hi => .inr hi))
    have hl1 := p1.len
    rw [put_length]
    split
    · exact hl1
    · rename_i hn
      rcases hroom with h9 | h9
      · exact absurd h9 hn
      · omega
  obtain ⟨es, c, hb, hL, hs⟩ := p.map
  have o1 := or_enc k es
  rw [hL] at o1
  refine ⟨some r, p.var.at1 rfl, encE es, c, hb, like_enc es, _, o1, ?_⟩
  have hh := has_enc k es
  rw [hL] at hh
  rw [hh]
  have hkeys : (get k L).isSome = true ↔ k ∈ keys L := by
    cases hgk : get k L with
    | none => simp [get_none.1 hgk]
    | some v => simp only [Option.isSome_some, true_iff]; exact List.mem_map.2 ⟨_, (get_mem p.good.one).1 hgk, rfl⟩
  intro J3 hJ3
  have stay : (k ∈ keys L ∨ (L.length : Int) < most) → J3 false h := fun hroom =>
    hJ3 _ _ (If.no (last h L 0 (by simpa using p) (Only.refl _ _) (.inr (.inl ⟨by omega, hroom, rfl, rfl⟩)) hroom))
  refine If.split (fun hnk => ?_) (fun hnk => stay (.inl (hkeys.1 (by simpa using hnk))))
  have hnk' : k ∉ keys L := fun hx => by rw [hkeys.2 hx] at hnk; cases hnk
  have hel : (encE es).length = L.length := by rw [← hL]; simp [encE, abs]
  refine ⟨some r, p.var.at1 rfl, encE es, c, hb, most, p.var.at1 rfl, ?_⟩
  rw [hel]
  by_cases hfull : most ≤ (L.length : Int)
  · rw [decide_eq_true hfull]
    refine hJ3 _ _ (If.yes ⟨some r, p.var.at1 rfl, ?_⟩)
    refine worst_spec p (by rintro rfl; simp at hfull; omega) fun h1 w x1 hw => ⟨w, rfl, x1, ?_⟩
    have p1 := p.ext x1
    have hrl := p1.map.lt
    obtain ⟨es1, c1, hb1, hL1, hs1⟩ := p1.map
    refine ⟨encE es1, c1, hb1, like_enc es1, ?_⟩
    have o2 := set_only (h := h1) (r := r) (o := mapO (dropE (.int .i64 w) (encE es1)) c1)
    have m2 := MapI.drop (k := w) hrl hs1
    have v2 := p1.var.only o2 p1.ne
    refine ⟨gone, v2.at1 rfl, ?_⟩
    obtain ⟨w3, h3, e3, v3, o3, s3⟩ := put_at (i := 4) (t := .int .i64 (gone + 1)) v2 (by simp [TV.size]) (by simp) rfl (fun ts h1 hi => by
      match ts, h1, hi with
      | [a, b, c, d, e], h1, _ =>
        have g : ∀ t ∈ [a, b, c, d, e], t.cells.length = 1 := fun t ht => by rw [TV.cells_length]; exact h1 t ht
        obtain ⟨a', ha⟩ := List.length_eq_one_iff.1 (g a (by simp))
        obtain ⟨b', hb⟩ := List.length_eq_one_iff.1 (g b (by simp))
        obtain ⟨c', hc⟩ := List.length_eq_one_iff.1 (g c (by simp))
        obtain ⟨d', hd⟩ := List.length_eq_one_iff.1 (g d (by simp))
        obtain ⟨e', he⟩ := List.length_eq_one_iff.1 (g e (by simp))
        simp [TVs.cells, ha, hb, hc, hd, he]
      | a :: b :: c :: d :: e :: f :: rest, h1, _ =>
        have g : ∀ t ∈ a :: b :: c :: d :: e :: f :: rest, t.cells.length = 1 := fun t ht => by rw [TV.cells_length]; exact h1 t ht
        obtain ⟨a', ha⟩ := List.length_eq_one_iff.1 (g a (by simp))
        obtain ⟨b', hb⟩ := List.length_eq_one_iff.1 (g b (by simp))
        obtain ⟨c', hc⟩ := List.length_eq_one_iff.1 (g c (by simp))
        obtain ⟨d', hd⟩ := List.length_eq_one_iff.1 (g d (by simp))
        obtain ⟨e', he⟩ := List.length_eq_one_iff.1 (g e (by simp))
        simp [TVs.cells, ha, hb, hc, hd, he])
    refine ⟨w3, ?_⟩
    rw [wrap_i64 (n := gone + 1) (by omega) (by omega)]
    have e3' : (TV.int .i64 (gone + 1)).put (h1.setIfInBounds r (mapO (dropE (.int .i64 w) (encE es1)) c1)) b (0 + 4) = h3 := e3
    rw [e3']
    have hlen2 := drop_length (hw.1)
    have hsc : score (Peers.drop w L) k = 0 := by
      unfold score
      rw [get_drop p.good.one]
      split
      · rfl
      · rw [get_none.2 hnk']; rfl
    have p3 : Pe h3 b r (Peers.drop w L) most ban decay (gone + 1) :=
      ⟨v3, by rw [← hL1]; exact m2.only o3 (fun hx => p1.ne hx.symm), p.good.drop w, by omega, p.cfg⟩
    refine last h3 (Peers.drop w L) 1 p3 (((Only.of_ext x1).trans (o2.mono fun i hi => .inr hi)).trans (o3.mono fun i hi => .inl hi)) ?_ (.inr (by omega))
    rw [hsc]
    exact .inr (.inr ⟨by omega, hnk', hfull, rfl, w, hw, rfl⟩)
  · rw [decide_eq_false hfull]
    exact stay (.inr (by omega))

end
end Go.Proofs.Ythkaabfoeealaaa.Peers
