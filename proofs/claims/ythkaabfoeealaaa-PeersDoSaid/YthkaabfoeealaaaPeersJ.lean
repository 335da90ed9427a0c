/- What the document's peers do: Fail and Tick. -/
import Derived.Test.YthkaabfoeealaaaPeersI
import Derived.Test.YthkaabfoeealaaaPeersD
namespace Go.Proofs.Ythkaabfoeealaaa.Peers
open Go Go.Vc

theorem Nn.of {α : Type} {p : Option α} {x : α} (h : p = some x) {K : α → Prop} (hk : K x) : Nn p K := by rw [h]; exact hk

section
variable {R : Value → Heap → Prop} {h h' : Heap} {b : Nat} {A B : Sl} {L : List (Int × Int)} {most ban decay gone : Int}

/-- Blocks that a call has turned, or made. -/
def Grown (b : Nat) (A B : Sl) (h : Heap) (A' B' : Sl) (h' : Heap) : Prop := Only (Mine b A B) h h' ∧ ∀ i, Mine b A' B' i → Mine b A B i ∨ h.size ≤ i

theorem Grown.refl (b : Nat) (A B : Sl) (h : Heap) : Grown b A B h A B h := ⟨Only.refl _ _, fun _ hi => .inl hi⟩
theorem Grown.trans {A' B' A'' B'' : Sl} {h h' h'' : Heap} (g : Grown b A B h A' B' h') (g' : Grown b A' B' h' A'' B'' h'') : Grown b A B h A'' B'' h'' := by
  refine ⟨⟨Nat.le_trans g.1.size g'.1.size, fun i hi hn => ?_⟩, fun i hi => ?_⟩
  · rw [g'.1.same i (Nat.lt_of_lt_of_le hi g.1.size) (fun hx => by
      rcases g.2 i hx with h1 | h1
      · exact hn h1
      · omega), g.1.same i hi hn]
  · rcases g'.2 i hi with h1 | h1
    · exact g.2 i h1
    · right
      have := g.1.size
      omega

theorem get_keys {i : Nat} {e : Int × Int} (h : L[i]? = some e) : (keys L)[i]? = some e.1 ∧ (vals L)[i]? = some e.2 := by
  unfold keys vals
  rw [List.getElem?_map, List.getElem?_map, h]
  exact ⟨rfl, rfl⟩

theorem keys_set {i : Nat} {k n m : Int} (h : L[i]? = some (k, n)) : keys (L.set i (k, m)) = keys L := by
  unfold keys
  rw [List.map_set]
  apply List.ext_getElem?
  intro j
  rw [List.getElem?_set]
  split
  · rename_i hij
    subst hij
    have hlt := (List.getElem?_eq_some_iff.1 h).1
    rw [if_pos (by simpa using hlt), List.getElem?_map, h]
    rfl
  · rfl
theorem vals_set {i : Nat} {k m : Int} : vals (L.set i (k, m)) = (vals L).set i m := by
  unfold vals
  rw [List.map_set]

/-- A score is written where it stands. -/
theorem Rf.set (p : Rf h b A B L most ban decay gone) {i : Nat} {k n : Int} (hi : L[i]? = some (k, n)) (m : Int) :
    ∃ l, B.a = some l ∧ wok h l.b (l.o + i * 1) 1 ∧ ∃ h1, (TV.int .i64 m).put h l.b (l.o + i * 1) = h1 ∧ Rf h1 b A B (L.set i (k, m)) most ban decay gone ∧ Grown b A B h A B h1 := by
  have hlt := (List.getElem?_eq_some_iff.1 hi).1
  obtain ⟨l, hl, w, h1, e1, o1, on1, s1⟩ := Own.set p.b (i := i) (t := .int .i64 m) (by rw [List.length_map, vals_len]; exact hlt) rfl
  refine ⟨l, hl, w, h1, e1, ⟨p.var.only on1 p.offB, ?_, ?_, p.far⟩, on1.mono fun j hj => .inr (.inr hj), fun _ hx => .inl hx⟩
  · rw [keys_set hi]
    exact p.a.only on1 (fun l' hl' hx => p.far _ ⟨l', hl', rfl⟩ hx)
  · rw [vals_set, List.map_set]
    exact o1

def DropOk : Prop := ∀ (R : Value → Heap → Prop) (h : Heap) (b : Nat) (A B : Sl) (L : List (Int × Int)) (most ban decay gone : Int) (i : Nat), Rf h b A B L most ban decay gone → L.length < 1000 → i < L.length →
  (∀ h' A' B', Rf h' b A' B' (L.eraseIdx i) most ban decay gone → Grown b A B h A' B' h' → R (TV.tup []).val h') → CallsH Try.prog 28 (TVs.vals [.ptr (some ⟨b, 0⟩), .int .i64 (i : Int)]) h R

theorem RTick_spec (hd : DropOk) (p : Rf h b A B L most ban decay gone) (hl : L.length < 1000) (hg : ∀ e ∈ L, -1048576 ≤ e.2 ∧ e.2 < 0) (hdc : 1 ≤ decay ∧ decay ≤ 1048576)
    (hr : ∀ h' A' B', Rf h' b A' B' (tick decay L) most ban decay gone → Grown b A B h A' B' h' → R (TV.tup []).val h') : CallsH Try.prog 18 (TVs.vals [.ptr (some ⟨b, 0⟩)]) h R := by
  apply tollerref18_Peers_Tick_calls
  unfold tollerref18_Peers_Tick_vc
  have lA := p.lenA
  refine ⟨A, p.var.at1 rfl, ?_⟩
  rw [wrap_i64 (n := (A.len : Int) - 1) (by omega) (by omega)]
  refine ⟨fun i hh => -1 ≤ i ∧ i < L.length ∧ ∃ A' B', Rf hh b A' B' (L.take (i + 1).toNat ++ tick decay (L.drop (i + 1).toNat)) most ban decay gone ∧ Grown b A B h A' B' hh, fun i _ => (i + 1).toNat, ⟨by omega, by omega, A, B, ?_, Grown.refl _ _ _ _⟩, ?_⟩
  · have : ((A.len : Int) - 1 + 1).toNat = L.length := by omega
    rw [this, List.take_length, List.drop_length]
    simpa [tick] using p
  rintro i hh ⟨i0, i1, A1, B1, p1, g1⟩
  refine If.dec.2 ⟨fun hi => ?_, fun hi => ?_⟩
  · obtain ⟨⟨k, n⟩, he⟩ : ∃ e, L[i.toNat]? = some e := ⟨_, List.getElem?_eq_getElem (by omega)⟩
    have hi' : (i + 1).toNat = i.toNat + 1 := by omega
    have hcur : (L.take (i + 1).toNat ++ tick decay (L.drop (i + 1).toNat))[i.toNat]? = some (k, n) := by
      rw [List.getElem?_append_left (by simp only [List.length_take]; omega), List.getElem?_take_of_lt (by omega), he]
    have hC : L.take (i + 1).toNat = L.take i.toNat ++ [(k, n)] := by rw [hi', List.take_add_one, he]; rfl
    have hD : L.drop i.toNat = (k, n) :: L.drop (i + 1).toNat := by
      rw [hi']
      obtain ⟨hlt, hge⟩ := List.getElem?_eq_some_iff.1 he
      rw [List.drop_eq_getElem_cons hlt, hge]
    have hng := hg (k, n) (List.mem_of_getElem? he)
    simp only at hng
    generalize hCur : L.take (i + 1).toNat ++ tick decay (L.drop (i + 1).toNat) = C at p1 hcur
    have hClen : C.length ≤ L.length := by
      rw [← hCur]
      have := tick_length decay (L.drop (i + 1).toNat)
      simp only [List.length_append, List.length_take, List.length_drop] at this ⊢
      omega
    have hClt := (List.getElem?_eq_some_iff.1 hcur).1
    obtain ⟨hk1, hv1⟩ := get_keys hcur
    dsimp only at hk1 hv1
    have lB := p1.lenB
    refine ⟨B1, p1.var.at1 rfl, B1, p1.var.at1 rfl, ?_⟩
    refine ints_at p1.b.elems hi (by rw [vals_len]; omega) fun l y hy hat => ⟨y, hat, ?_⟩
    rw [hv1] at hy
    cases hy
    rw [wrap_i64 (n := i - 1) (by omega) (by omega)]
    obtain ⟨l2, hl2, w2, h2, e2, p2, g2⟩ := p1.set hcur (n + decay)
    refine ⟨decay, p1.var.at1 rfl, hi, by omega, Nn.of hl2 ⟨w2, ?_⟩⟩
    rw [wrap_i64 (n := n + decay) (by omega) (by omega), e2]
    have hcur2 : (C.set i.toNat (k, n + decay))[i.toNat]? = some (k, n + decay) := by rw [List.getElem?_set, if_pos rfl, if_pos hClt]
    obtain ⟨_, hv2⟩ := get_keys hcur2
    dsimp only at hv2
    refine ⟨B1, p2.var.at1 rfl, ?_⟩
    refine ints_at p2.b.elems hi (by rw [vals_len, List.length_set]; omega) fun l3 y hy hat3 => ⟨y, hat3, ?_⟩
    rw [hv2] at hy
    cases hy
    have g12 := g1.trans g2
    have hset : C.set i.toNat (k, n + decay) = L.take i.toNat ++ (k, n + decay) :: tick decay (L.drop (i + 1).toNat) := by
      rw [← hCur, hC, List.append_assoc]
      have hlen : (L.take i.toNat).length = i.toNat := by simp only [List.length_take]; omega
      rw [List.set_append_right _ _ (by omega), hlen, Nat.sub_self]
      rfl
    have hi2 : (i - 1 + 1).toNat = i.toNat := by omega
    refine If.dec.2 ⟨fun h0 => ?_, fun h0 => ?_⟩
    · have hin : i = ((i.toNat : Nat) : Int) := by omega
      rw [hin]
      refine hd _ h2 b A1 B1 _ most ban decay gone i.toNat p2 (by rw [List.length_set]; omega) (by rw [List.length_set]; exact hClt) fun h3 A3 B3 p3 g3 => ⟨rfl, ?_⟩
      rw [← hin]
      refine ⟨⟨by omega, by omega, A3, B3, ?_, g12.trans g3⟩, by dsimp only; omega⟩
      rw [hi2]
      have : (C.set i.toNat (k, n + decay)).eraseIdx i.toNat = L.take i.toNat ++ tick decay (L.drop i.toNat) := by
        rw [hset, hD]
        have hlen : (L.take i.toNat).length = i.toNat := by simp only [List.length_take]; omega
        rw [List.eraseIdx_append_of_length_le (by omega), hlen, Nat.sub_self, List.eraseIdx_cons_zero]
        congr 1
        unfold tick tickOne
        rw [List.filterMap_cons, if_pos (by simpa using h0)]
      rw [this] at p3
      exact p3
    · refine ⟨⟨by omega, by omega, A1, B1, ?_, g12⟩, by dsimp only; omega⟩
      rw [hi2]
      have : C.set i.toNat (k, n + decay) = L.take i.toNat ++ tick decay (L.drop i.toNat) := by
        rw [hset, hD]
        congr 1
        unfold tick tickOne
        rw [List.filterMap_cons, if_neg (by simpa using h0)]
      rw [this] at p2
      exact p2
  · have : (i + 1).toNat = 0 := by omega
    rw [this] at p1
    simp only [List.take_zero, List.nil_append, List.drop_zero] at p1
    exact hr _ _ _ p1 g1

/-! ### Fail -/

theorem put_set : ∀ {L : List (Int × Int)} {i : Nat} {k v w : Int}, L[i]? = some (k, v) → (keys L).Nodup → put k w L = L.set i (k, w)
  | [], i, k, v, w, h, _ => by simp at h
  | e :: L, 0, k, v, w, h, _ => by
    simp only [List.getElem?_cons_zero, Option.some.injEq] at h
    subst h
    simp [put]
  | e :: L, i + 1, k, v, w, h, hn => by
    have hn' : e.1 ∉ keys L ∧ (keys L).Nodup := by simpa [keys] using hn
    simp only [List.getElem?_cons_succ] at h
    have hk : k ∈ keys L := List.mem_map.2 ⟨_, List.mem_of_getElem? h, rfl⟩
    unfold put
    rw [if_neg (show ¬ k = e.1 from fun hx => hn'.1 (by rw [← hx]; exact hk)), put_set h hn'.2]
    rfl

theorem put_new : ∀ {L : List (Int × Int)} {k w : Int}, k ∉ keys L → put k w L = L ++ [(k, w)]
  | [], k, w, _ => rfl
  | e :: L, k, w, h => by
    simp only [keys, List.map_cons, List.mem_cons, not_or] at h
    unfold put
    rw [if_neg h.1, put_new h.2]
    rfl

theorem put_twice : ∀ {L : List (Int × Int)} {k v w : Int}, put k w (put k v L) = put k w L
  | [], k, v, w => by simp [put]
  | e :: L, k, v, w => by
    have ih := put_twice (L := L) (k := k) (v := v) (w := w)
    simp only [put]
    by_cases h : k = e.1
    · rw [if_pos h, if_pos h]
      simp [put, h]
    · rw [if_neg h, if_neg h]
      simp only [put, if_neg h, ih]

theorem drop_erase : ∀ {L : List (Int × Int)} {i : Nat} {k v : Int}, L[i]? = some (k, v) → (keys L).Nodup → drop k L = L.eraseIdx i
  | [], i, k, v, h, _ => by simp at h
  | e :: L, 0, k, v, h, _ => by
    simp only [List.getElem?_cons_zero, Option.some.injEq] at h
    subst h
    simp [drop]
  | e :: L, i + 1, k, v, h, hn => by
    have hn' : e.1 ∉ keys L ∧ (keys L).Nodup := by simpa [keys] using hn
    simp only [List.getElem?_cons_succ] at h
    have hk : k ∈ keys L := List.mem_map.2 ⟨_, List.mem_of_getElem? h, rfl⟩
    unfold drop
    rw [if_neg (show ¬ k = e.1 from fun hx => hn'.1 (by rw [← hx]; exact hk)), drop_erase h hn'.2]
    rfl

theorem in_append {A A' : Sl} {h : Heap} (hb : ∀ l, A'.a = some l → (∃ l', A.a = some l' ∧ l'.b = l.b) ∨ h.size ≤ l.b) {i : Nat} (hi : In A' i) : In A i ∨ h.size ≤ i := by
  obtain ⟨l, hl, rfl⟩ := hi
  rcases hb l hl with ⟨l', hl', he⟩ | hx
  · exact .inl ⟨l', hl', he⟩
  · exact .inr hx

theorem RFail_spec (hd : DropOk) (p : Rf h b A B L most ban decay gone) (hl : L.length < 900) (hG : Good L) {k pts : Int} (_hk : (Lit.int .i64 k).wf = true) (hgn : 0 ≤ gone ∧ gone < 1000000) (hm : 1 ≤ most)
    (hr : ∀ h' A' B' L' g, FailTo most L k pts L' g → Rf h' b A' B' L' most ban decay (gone + g) → Grown b A B h A' B' h' → R (TV.tup []).val h') : CallsH Try.prog 19 (TVs.vals [.ptr (some ⟨b, 0⟩), .int .i64 k, .int .i64 pts]) h R := by
  apply tollerref18_Peers_Fail_calls
  unfold tollerref18_Peers_Fail_vc
  refine If.dec.2 ⟨fun hp => hr h A B L 0 (.inl ⟨hp, rfl, rfl⟩) (by simpa using p) (Grown.refl _ _ _ _), fun hp => ?_⟩
  intro J hJ
  -- the score is lowered
  have last : ∀ (h1 : Heap) (A1 B1 : Sl) (M : List (Int × Int)) (g : Int), Rf h1 b A1 B1 M most ban decay (gone + g) → Grown b A B h A1 B1 h1 → M.length < 1000 → (keys M).Nodup → k ∈ keys M → (-1048576 ≤ score M k ∧ score M k ≤ 0) →
      FailTo most L k pts (put k (lower (score M k) pts) M) g → J PUnit.unit h1 := by
    intro h1 A1 B1 M g p1 g1 hml hmn hmk hsc hf
    refine hJ _ _ ?_
    refine at_spec p1 (by omega) ⟨_, rfl, ?_⟩
    rcases atOf_get M k with ⟨_, hx⟩ | ⟨n0, v, hv, hgv⟩
    · exact absurd hmk (get_none.1 hx)
    have hvs : score M k = v := by unfold score; rw [hgv]; rfl
    rw [hvs] at hsc hf
    generalize atOf M k = n at *
    have hnl := (List.getElem?_eq_some_iff.1 hv).1
    obtain ⟨_, hvv⟩ := get_keys hv
    dsimp only at hvv
    have lB := p1.lenB
    refine ⟨B1, p1.var.at1 rfl, ?_⟩
    refine ints_at p1.b.elems n0 (by rw [vals_len]; omega) fun l y hy hat => ⟨y, hat, ?_⟩
    rw [hvv] at hy
    cases hy
    rw [wrap_i64 (n := 1048576 + v) (by omega) (by omega)]
    have done : ∀ m, m = lower v pts → ∃ l, B1.a = some l ∧ wok h1 l.b (l.o + n.toNat * 1) 1 ∧ R (TV.tup []).val ((TV.int .i64 m).put h1 l.b (l.o + n.toNat * 1)) := by
      rintro m rfl
      obtain ⟨l2, hl2, w2, h2, e2, p2, g2⟩ := p1.set hv (lower v pts)
      refine ⟨l2, hl2, w2, ?_⟩
      rw [e2]
      rw [put_set hv hmn] at hf
      exact hr h2 A1 B1 _ g hf p2 (g1.trans g2)
    refine If.dec.2 ⟨fun hbig => ?_, fun hsm => ?_⟩
    · obtain ⟨l2, hl2, w2, hR⟩ := done (-1048576) (by unfold lower mx mn; repeat' split; all_goals omega)
      exact ⟨B1, p1.var.at1 rfl, n0, by omega, Nn.of hl2 ⟨w2, hR⟩⟩
    · obtain ⟨l2, hl2, w2, hR⟩ := done (v - pts) (by unfold lower mx mn; repeat' split; all_goals omega)
      refine ⟨B1, p1.var.at1 rfl, B1, p1.var.at1 rfl, ?_⟩
      refine ints_at p1.b.elems n0 (by rw [vals_len]; omega) fun l3 y hy hat3 => ⟨y, hat3, ?_⟩
      rw [hvv] at hy
      cases hy
      rw [wrap_i64 (n := v - pts) (by omega) (by omega)]
      exact ⟨n0, by omega, Nn.of hl2 ⟨w2, hR⟩⟩
  refine at_spec p (by omega) ⟨_, rfl, ?_⟩
  refine If.dec.2 ⟨fun hneg => ?_, fun hge => ?_⟩
  · have hnk : k ∉ keys L := by
      rcases atOf_get L k with ⟨_, hx⟩ | ⟨n0, _⟩
      · exact get_none.1 hx
      · omega
    intro J2 hJ2
    have lA := p.lenA
    -- one is laid behind all
    have more : ∀ (h1 : Heap) (A1 B1 : Sl) (M : List (Int × Int)) (g : Int), Rf h1 b A1 B1 M most ban decay (gone + g) → Grown b A B h A1 B1 h1 → M.length < 900 → (keys M).Nodup → k ∉ keys M → FailTo most L k pts (put k (lower 0 pts) M) g → J2 PUnit.unit h1 := by
      intro h1 A1 B1 M g p1 g1 hml hmn hmk hf
      refine hJ2 _ _ ?_
      have lA1 := p1.lenA
      have lB1 := p1.lenB
      refine ⟨A1, p1.var.at1 rfl, ?_⟩
      refine append1 (C := ctx) (T := 3) (x := .int .i64 k) rfl rfl (by decide) (by show (A1.len + 1) * 8 ≤ _; omega) p1.a rfl rfl fun A2 h2 o2 w2 b2 => ?_
      have v2 := p1.var.only w2 p1.offA
      have oB2 := p1.b.only w2 (fun l hl hx => p1.far _ hx ⟨l, hl, rfl⟩)
      have hbl := p1.var.lt
      obtain ⟨w3, h3, e3, v3, o3, s3⟩ := put_field (i := 0) v2 (by simp [TV.size]) (by simp) (t := .slice A2) rfl
      refine ⟨w3, ?_⟩
      rw [e3]
      have nA2 : ∀ i, In A2 i → In A1 i ∨ h1.size ≤ i := fun i hi => in_append b2 hi
      have offA2 : ¬ In A2 b := fun hx => by
        rcases nA2 _ hx with h9 | h9
        · exact p1.offA h9
        · omega
      have oA3 := o2.only o3 (fun l hl hx => offA2 ⟨l, hl, hx⟩)
      have oB3 := oB2.only o3 (fun l hl hx => p1.offB ⟨l, hl, hx⟩)
      refine ⟨B1, v3.at1 rfl, ?_⟩
      refine append1 (C := ctx) (T := 3) (x := .int .i64 0) rfl rfl (by decide) (by show (B1.len + 1) * 8 ≤ _; omega) oB3 rfl rfl fun B2 h4 o4 w4 b4 => ?_
      have v4 := v3.only w4 p1.offB
      have sz2 := w2.size
      have nB2 : ∀ i, In B2 i → In B1 i ∨ h3.size ≤ i := fun i hi => in_append b4 hi
      have farAB : ∀ i, In A2 i → ¬ In B1 i := fun i hi hx => by
        rcases nA2 i hi with h9 | h9
        · exact p1.far i h9 hx
        · have := p1.lt (.inr (.inr hx)); omega
      have oA4 := oA3.only w4 (fun l hl hx => farAB _ ⟨l, hl, rfl⟩ hx)
      obtain ⟨w5, h5, e5, v5, o5, s5⟩ := put_field (i := 1) v4 (by simp [TV.size]) (by simp) (t := .slice B2) rfl
      refine ⟨w5, ?_⟩
      rw [e5]
      have offB2 : ¬ In B2 b := fun hx => by
        rcases nB2 _ hx with h9 | h9
        · exact p1.offB h9
        · omega
      have ltA2 : ∀ i, In A2 i → i < h3.size := fun i hi => by
        obtain ⟨l, hl, rfl⟩ := hi
        exact oA3.lt l hl
      have p5 : Rf h5 b A2 B2 (M ++ [(k, 0)]) most ban decay (gone + g) := by
        refine ⟨v5, ?_, ?_, fun i hi hx => ?_⟩
        · have : (keys (M ++ [(k, 0)])).map intTV = (keys M).map intTV ++ [.int .i64 k] := by simp [keys, intTV]
          rw [this]
          exact oA4.only o5 (fun l hl hx => offA2 ⟨l, hl, hx⟩)
        · have : (vals (M ++ [(k, 0)])).map intTV = (vals M).map intTV ++ [.int .i64 0] := by simp [vals, intTV]
          rw [this]
          exact o4.only o5 (fun l hl hx => offB2 ⟨l, hl, hx⟩)
        · rcases nB2 i hx with h9 | h9
          · exact farAB i hi h9
          · have := ltA2 i hi; omega
      have gg : Grown b A1 B1 h1 A2 B2 h5 := by
        refine ⟨((w2.mono fun i hi => .inr (.inl hi)).trans ((o3.mono fun i hi => .inl hi).trans ((w4.mono fun i hi => .inr (.inr hi)).trans (o5.mono fun i hi => .inl hi)))), fun i hi => ?_⟩
        rcases hi with rfl | hi | hi
        · exact .inl (.inl rfl)
        · rcases nA2 i hi with h9 | h9
          · exact .inl (.inr (.inl h9))
          · exact .inr h9
        · rcases nB2 i hi with h9 | h9
          · exact .inl (.inr (.inr h9))
          · right; omega
      have hnew := put_new (w := (0 : Int)) hmk
      have hn5 := put_keys hmn k 0
      rw [hnew] at hn5
      have hs0 : score (M ++ [(k, 0)]) k = 0 := by
        rw [← hnew]
        unfold score
        rw [get_put hmn, if_pos rfl]
        rfl
      refine last h5 A2 B2 _ g p5 (g1.trans gg) (by simp; omega) hn5 (by simp [keys]) (by rw [hs0]; omega) ?_
      rw [hs0, ← hnew, put_twice]
      exact hf
    refine ⟨A, p.var.at1 rfl, most, p.var.at1 rfl, ?_⟩
    refine If.dec.2 ⟨fun hfull => ?_, fun hroom => ?_⟩
    · refine ⟨A, p.var.at1 rfl, ?_⟩
      have lB := p.lenB
      have hpos : 0 < L.length := by omega
      refine ⟨fun s hh => 0 ≤ s.2 ∧ s.2 ≤ L.length ∧ hh = h ∧ 0 ≤ s.1 ∧ s.1 < max s.2 1 ∧ (∀ (e f : Int × Int) (j : Nat), L[s.1.toNat]? = some e → (j : Int) < s.2 → L[j]? = some f → e.2 < f.2 ∨ e.2 = f.2 ∧ e.1 ≤ f.1),
        fun s _ => ((L.length : Int) - s.2).toNat, ⟨Int.le_refl _, Int.natCast_nonneg _, rfl, Int.le_refl _, by decide, fun e f j _ hj _ => by have : (j : Int) < 0 := hj; omega⟩, ?_⟩
      rintro ⟨w, i⟩ h0 ⟨i0, i1, rfl, w0, w1, hall⟩
      simp only at i0 i1 w0 w1 hall ⊢
      refine If.dec.2 ⟨fun hi => ?_, fun hi => ?_⟩
      · obtain ⟨⟨ki, vi⟩, hei⟩ : ∃ e, L[i.toNat]? = some e := ⟨_, List.getElem?_eq_getElem (by omega)⟩
        obtain ⟨⟨kw, vw⟩, hew⟩ : ∃ e, L[w.toNat]? = some e := ⟨_, List.getElem?_eq_getElem (by omega)⟩
        obtain ⟨hki, hvi⟩ := get_keys hei
        obtain ⟨hkw, hvw⟩ := get_keys hew
        dsimp only at hki hvi hkw hvw
        have rv : ∀ {i : Int} {v : Int} {K : Go.Vc.Loc → Prop}, 0 ≤ i → i < L.length → (vals L)[i.toNat]? = some v → (∀ l, at1 h0 l.b (l.o + i.toNat * 1) (.int .i64 v) → K l) → 0 ≤ i ∧ i < (B.len : Int) ∧ Nn B.a K := fun h1 h2 h3 hK =>
          ints_at p.b.elems h1 (by rw [vals_len]; exact h2) fun l y hy hat => by rw [h3] at hy; cases hy; exact hK l hat
        have rk : ∀ {i : Int} {v : Int} {K : Go.Vc.Loc → Prop}, 0 ≤ i → i < L.length → (keys L)[i.toNat]? = some v → (∀ l, at1 h0 l.b (l.o + i.toNat * 1) (.int .i64 v) → K l) → 0 ≤ i ∧ i < (A.len : Int) ∧ Nn A.a K := fun h1 h2 h3 hK =>
          ints_at p.a.elems h1 (by rw [keys_len]; exact h2) fun l y hy hat => by rw [h3] at hy; cases hy; exact hK l hat
        have hwl : w < L.length := by omega
        have hil : i < L.length := by omega
        have better : vi < vw ∨ (vi = vw ∧ ki < kw) → ((0 ≤ i + 1 ∧ i + 1 ≤ (L.length : Int) ∧ True ∧ 0 ≤ i ∧ i < max (i + 1) 1 ∧ (∀ (e f : Int × Int) (j : Nat), L[i.toNat]? = some e → (j : Int) < i + 1 → L[j]? = some f → e.2 < f.2 ∨ e.2 = f.2 ∧ e.1 ≤ f.1)) ∧ ((L.length : Int) - (i + 1)).toNat < ((L.length : Int) - i).toNat) := by
          intro hb
          refine ⟨⟨by omega, by omega, trivial, i0, by omega, fun e f j he hj hf => ?_⟩, by omega⟩
          rw [hei] at he
          cases he
          by_cases hji : (j : Int) = i
          · have : j = i.toNat := by omega
            rw [this, hei] at hf
            cases hf
            exact .inr ⟨rfl, Int.le_refl _⟩
          · have := hall (kw, vw) f j hew (by omega) hf
            simp only at this ⊢
            omega
        have worse : ¬ (vi < vw ∨ (vi = vw ∧ ki < kw)) → ((0 ≤ i + 1 ∧ i + 1 ≤ (L.length : Int) ∧ True ∧ 0 ≤ w ∧ w < max (i + 1) 1 ∧ (∀ (e f : Int × Int) (j : Nat), L[w.toNat]? = some e → (j : Int) < i + 1 → L[j]? = some f → e.2 < f.2 ∨ e.2 = f.2 ∧ e.1 ≤ f.1)) ∧ ((L.length : Int) - (i + 1)).toNat < ((L.length : Int) - i).toNat) := by
          intro hb
          refine ⟨⟨by omega, by omega, trivial, w0, by omega, fun e f j he hj hf => ?_⟩, by omega⟩
          by_cases hji : (j : Int) = i
          · have : j = i.toNat := by omega
            rw [this, hei] at hf
            cases hf
            rw [hew] at he
            cases he
            simp only
            omega
          · exact hall e f j he (by omega) hf
        rw [wrap_i64 (n := i + 1) (by omega) (by omega)]
        refine ⟨B, p.var.at1 rfl, rv i0 hil hvi fun l hat => ⟨vi, hat, B, p.var.at1 rfl, rv w0 hwl hvw fun l2 hat2 => ⟨vw, hat2, ?_⟩⟩⟩
        refine If.dec.2 ⟨fun hlt => better (.inl hlt), fun hnl => ?_⟩
        refine ⟨B, p.var.at1 rfl, rv i0 hil hvi fun l hat => ⟨vi, hat, B, p.var.at1 rfl, rv w0 hwl hvw fun l2 hat2 => ⟨vw, hat2, ?_⟩⟩⟩
        refine If.dec.2 ⟨fun heq => ?_, fun hne => worse (by omega)⟩
        refine ⟨A, p.var.at1 rfl, rk i0 hil hki fun l hat => ⟨ki, hat, A, p.var.at1 rfl, rk w0 hwl hkw fun l2 hat2 => ⟨kw, hat2, ?_⟩⟩⟩
        exact If.dec.2 ⟨fun hkl => better (.inr ⟨heq, hkl⟩), fun hkn => worse (by omega)⟩
      · obtain ⟨⟨kw, vw⟩, hew⟩ : ∃ e, L[w.toNat]? = some e := ⟨_, List.getElem?_eq_getElem (by omega)⟩
        have hwn : w = ((w.toNat : Nat) : Int) := by omega
        have hworst : IsWorst L kw := by
          refine ⟨List.mem_map.2 ⟨_, List.mem_of_getElem? hew, rfl⟩, fun x hx => ?_⟩
          obtain ⟨⟨x1, x2⟩, hm, rfl⟩ := List.mem_map.1 hx
          obtain ⟨j, hj, hje⟩ := List.getElem_of_mem hm
          have h9 := hall (kw, vw) (x1, x2) j hew (by omega) (by rw [List.getElem?_eq_getElem hj, hje])
          have s1 : score L kw = vw := by unfold score; rw [(get_mem hG.one).2 (List.mem_of_getElem? hew)]; rfl
          have s2 : score L x1 = x2 := by unfold score; rw [(get_mem hG.one).2 hm]; rfl
          rw [s1, s2]
          exact h9
        rw [hwn]
        refine hd _ h0 b A B L most ban decay gone w.toNat p (by omega) (by omega) fun h3 A3 B3 p3 g3 => ⟨rfl, gone, p3.var.at1 rfl, ?_⟩
        obtain ⟨w4, h4, e4, v4, o4, s4⟩ := put_field (i := 5) (t := .int .i64 (gone + 1)) p3.var (by simp [TV.size]) (by simp) rfl
        refine ⟨w4, ?_⟩
        rw [wrap_i64 (n := gone + 1) (by omega) (by omega)]
        have e4' : (TV.int .i64 (gone + 1)).put h3 b (0 + 5) = h4 := e4
        rw [e4']
        have hde := drop_erase hew hG.one
        rw [← hde] at p3
        have p4 : Rf h4 b A3 B3 (drop kw L) most ban decay (gone + 1) :=
          ⟨v4, p3.a.only o4 (fun l hl hx => p3.offA ⟨l, hl, hx⟩), p3.b.only o4 (fun l hl hx => p3.offB ⟨l, hl, hx⟩), p3.far⟩
        have hdl := drop_length hworst.1
        refine more h4 A3 B3 _ 1 p4 (g3.trans ⟨o4.mono fun i hi => .inl hi, fun _ hi => .inl hi⟩) (by omega) (drop_keys hG.one _) (fun hx => hnk (by
          obtain ⟨e, he, h2⟩ := List.mem_map.1 hx
          exact List.mem_map.2 ⟨e, ((mem_drop hG.one).1 he).1, h2⟩)) (.inr (.inr ⟨by omega, hnk, by omega, rfl, kw, hworst, rfl⟩))
    · have hs0 : score L k = 0 := by unfold score; rw [get_none.2 hnk]; rfl
      refine more h A B L 0 (by simpa using p) (Grown.refl _ _ _ _) hl hG.one hnk (.inr (.inl ⟨by omega, .inr (by omega), rfl, ?_⟩))
      rw [hs0]
  · have hkk : k ∈ keys L := by
      rcases atOf_get L k with ⟨h1, _⟩ | ⟨_, v, hv, _⟩
      · omega
      · exact List.mem_map.2 ⟨_, List.mem_of_getElem? hv, rfl⟩
    exact last h A B L 0 (by simpa using p) (Grown.refl _ _ _ _) (by omega) hG.one hkk (score_low hG k) (.inr (.inl ⟨by omega, .inl hkk, rfl, rfl⟩))

end
end Go.Proofs.Ythkaabfoeealaaa.Peers
