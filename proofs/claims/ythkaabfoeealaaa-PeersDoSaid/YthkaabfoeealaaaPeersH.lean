/- What the document's peers do: New, at, Score, Banned, Known; two rows compared. -/
import Derived.Test.YthkaabfoeealaaaPeersG
import Derived.Test.YthkaabfoeealaaaVsPeersR
import Derived.Test.YthkaabfoeealaaaVcS3
namespace Go.Proofs.Ythkaabfoeealaaa.Peers
open Go Go.Vc

def vals (L : List (Int × Int)) : List Int := L.map (·.2)

/-- The document's peers in memory. -/
structure Rf (h : Heap) (b : Nat) (A B : Sl) (L : List (Int × Int)) (most ban decay gone : Int) : Prop where
  var : Var 41 h b (.agg [.slice A, .slice B, .int .i64 most, .int .i64 ban, .int .i64 decay, .int .i64 gone])
  a : Own 3 1 h A ((keys L).map intTV)
  b : Own 3 1 h B ((vals L).map intTV)
  far : ∀ i, In A i → ¬ In B i

def Mine (b : Nat) (A B : Sl) (i : Nat) : Prop := i = b ∨ In A i ∨ In B i

section
variable {R : Value → Heap → Prop} {h h' : Heap} {b : Nat} {A B : Sl} {L : List (Int × Int)} {most ban decay gone : Int}

theorem Rf.only {S : Nat → Prop} (p : Rf h b A B L most ban decay gone) (o : Only S h h') (hs : ∀ i, Mine b A B i → ¬ S i) : Rf h' b A B L most ban decay gone :=
  ⟨p.var.only o (hs b (.inl rfl)), p.a.only o (fun l hl => hs _ (.inr (.inl ⟨l, hl, rfl⟩))), p.b.only o (fun l hl => hs _ (.inr (.inr ⟨l, hl, rfl⟩))), p.far⟩
theorem Rf.ext (p : Rf h b A B L most ban decay gone) (e : Ext h h') : Rf h' b A B L most ban decay gone := p.only (S := fun _ => False) (Only.of_ext e) (fun _ _ hx => hx)

theorem own_type {T : TypeId} {sz : Nat} {s : Sl} {ts : List TV} (o : Own T sz h s ts) {i : Nat} (hi : In s i) : ∃ cs, h[i]? = some (row cs T) := by
  obtain ⟨l, hl, rfl⟩ := hi
  rcases o.row with rfl | ⟨bb, rest, ha, hb, _⟩
  · cases hl
  · rw [ha] at hl
    cases hl
    exact ⟨_, hb⟩

theorem row_type {cs cs' : List Value} {T T' : TypeId} (h1 : h[b]? = some (row cs T)) (h2 : h[b]? = some (row cs' T')) : T = T' := by
  rw [h1] at h2
  have := congrArg (fun o => match o with | some (Obj.cells _ t _) => t | _ => 0) h2
  simpa [row] using this

theorem Rf.offA (p : Rf h b A B L most ban decay gone) : ¬ In A b := fun hx => by
  obtain ⟨cs, hc⟩ := own_type p.a hx
  have := row_type hc p.var
  cases this
theorem Rf.offB (p : Rf h b A B L most ban decay gone) : ¬ In B b := fun hx => by
  obtain ⟨cs, hc⟩ := own_type p.b hx
  have := row_type hc p.var
  cases this

theorem Rf.lt (p : Rf h b A B L most ban decay gone) {i : Nat} (hi : Mine b A B i) : i < h.size := by
  rcases hi with rfl | ⟨l, hl, rfl⟩ | ⟨l, hl, rfl⟩
  · exact p.var.lt
  · exact p.a.lt l hl
  · exact p.b.lt l hl

theorem vals_len : (vals L).length = L.length := by simp [vals]
theorem keys_len : (keys L).length = L.length := by simp [keys]
theorem Rf.lenA (p : Rf h b A B L most ban decay gone) : A.len = L.length := by have := p.a.len; rw [List.length_map, keys_len] at this; omega
theorem Rf.lenB (p : Rf h b A B L most ban decay gone) : B.len = L.length := by have := p.b.len; rw [List.length_map, vals_len] at this; omega

/-- Where a peer stands. -/
def atOf (L : List (Int × Int)) (k : Int) : Int := match L.findIdx? (fun e => decide (e.1 = k)) with
  | some i => i
  | none => -1

theorem RNew_spec (hr : ∀ h' ok, Ext h h' → Rf h' h.size Sl.nil Sl.nil [] most ban decay 0 → h'.size = h.size + 1 → (ok = true ↔ Valid most ban decay) → R (TV.tup [.ptr (some ⟨h.size, 0⟩), .bool ok]).val h') :
    CallsH Try.prog 17 (TVs.vals [.int .i64 most, .int .i64 ban, .int .i64 decay]) h R := by
  apply tollerref18_New_calls
  unfold tollerref18_New_vc
  obtain ⟨h1, e1, v1, x1, s1⟩ := newTV_spec h (.agg [.slice Sl.nil, .slice Sl.nil, .int .i64 most, .int .i64 ban, .int .i64 decay, .int .i64 0]) 41
  rw [e1]
  have hh := fun ok => hr h1 ok x1 ⟨v1, Own.nil _ _ _, Own.nil _ _ _, fun i hi => by obtain ⟨l, hl, _⟩ := hi; cases hl⟩ s1
  have no : ¬ Valid most ban decay → R (TV.tup [.ptr (some ⟨h.size, 0⟩), .bool false]).val h1 := fun hn => hh false (by simp [hn])
  unfold Valid at no
  refine If.dec.2 ⟨fun a1 => If.dec.2 ⟨fun a2 => If.dec.2 ⟨fun a3 => If.dec.2 ⟨fun a4 => If.dec.2 ⟨fun a5 => ?_, fun a => no (by omega)⟩, fun a => no (by omega)⟩, fun a => no (by omega)⟩, fun a => no (by omega)⟩, fun a => no (by omega)⟩
  refine hh _ ?_
  rw [decide_eq_true_eq]
  unfold Valid
  omega

theorem at_spec (p : Rf h b A B L most ban decay gone) (hl : L.length < 1000000) {k : Int} (hr : R (TV.int .i64 (atOf L k)).val h) : CallsH Try.prog 29 (TVs.vals [.ptr (some ⟨b, 0⟩), .int .i64 k]) h R := by
  apply tollerref18_Peers_at_calls
  unfold tollerref18_Peers_at_vc
  have lA := p.lenA
  refine ⟨A, p.var.at1 rfl, ?_⟩
  refine ⟨fun s hh => 0 ≤ s.2 ∧ s.2 ≤ L.length ∧ hh = h ∧ ∀ (j : Nat) (e : Int × Int), (j : Int) < s.2 → L[j]? = some e → e.1 ≠ k, fun s _ => ((L.length : Int) - s.2).toNat, ⟨by simp, by simp, rfl, fun j e hj => by simp at hj; omega⟩, ?_⟩
  rintro ⟨u, i⟩ _ ⟨i0, i1, rfl, hn⟩
  simp only at i0 i1 hn ⊢
  refine If.dec.2 ⟨fun hi => ?_, fun hi => ?_⟩
  · refine ints_at p.a.elems i0 (by rw [keys_len]; omega) fun l y hy hat => ⟨y, hat, ?_⟩
    obtain ⟨e, he⟩ : ∃ e, L[i.toNat]? = some e := ⟨_, List.getElem?_eq_getElem (by omega)⟩
    have hye : y = e.1 := by
      unfold keys at hy
      rw [List.getElem?_map, he] at hy
      exact (Option.some.inj hy).symm
    refine If.dec.2 ⟨fun hk => ?_, fun hk => ?_⟩
    · have : atOf L k = i := by
        have hf : L.findIdx? (fun e => decide (e.1 = k)) = some i.toNat := by
          rw [List.findIdx?_eq_some_iff_getElem]
          obtain ⟨hlt, hge⟩ := List.getElem?_eq_some_iff.1 he
          refine ⟨hlt, ?_, fun j hj => ?_⟩
          · rw [hge, decide_eq_true_eq, ← hye]; exact hk
          · simp only [decide_eq_true_eq]
            exact hn j _ (by omega) (List.getElem?_eq_getElem (by omega))
        unfold atOf
        rw [hf]
        simp only
        omega
      rw [this] at hr
      exact hr
    · rw [wrap_i64 (n := i + 1) (by omega) (by omega)]
      refine ⟨⟨by omega, by omega, by trivial, fun j e' hj he' => ?_⟩, by omega⟩
      by_cases hji : (j : Int) = i
      · have : j = i.toNat := by omega
        rw [this, he] at he'
        cases he'
        rw [← hye]; exact hk
      · exact hn j e' (by omega) he'
  · have : atOf L k = -1 := by
      have hf : L.findIdx? (fun e => decide (e.1 = k)) = none := by
        rw [List.findIdx?_eq_none_iff]
        intro e he
        obtain ⟨j, hj, rfl⟩ := List.getElem_of_mem he
        simp only [decide_eq_false_iff_not]
        exact hn j _ (by omega) (List.getElem?_eq_getElem hj)
      unfold atOf
      rw [hf]
    rw [this] at hr
    exact hr

theorem atOf_get : ∀ (L : List (Int × Int)) (k : Int), (atOf L k < 0 ∧ get k L = none) ∨ (0 ≤ atOf L k ∧ ∃ v, L[(atOf L k).toNat]? = some (k, v) ∧ get k L = some v)
  | [], k => .inl ⟨by simp [atOf], rfl⟩
  | e :: L, k => by
    have ih := atOf_get L k
    unfold atOf at ih ⊢
    rw [List.findIdx?_cons]
    unfold get
    by_cases h : e.1 = k
    · right
      rw [if_pos (by simpa using h), if_pos h.symm]
      refine ⟨by simp, e.2, ?_, rfl⟩
      simp [← h]
    · rw [if_neg (by simpa using h), if_neg (fun hx => h hx.symm)]
      cases hf : L.findIdx? (fun e => decide (e.1 = k)) with
      | none => rw [hf] at ih; exact .inl ⟨by simp, (ih.resolve_right (fun hx => by simp at hx)).2⟩
      | some i =>
        rw [hf] at ih
        right
        rcases ih with ⟨h1, _⟩ | ⟨_, v, h2, h3⟩
        · simp only at h1; omega
        · refine ⟨by simp only [Option.map_some]; omega, v, ?_, h3⟩
          simp only [Option.map_some] at h2 ⊢
          have : ((i + 1 : Nat) : Int).toNat = i + 1 := by omega
          rw [this, List.getElem?_cons_succ]
          simpa using h2

theorem RScore_spec (p : Rf h b A B L most ban decay gone) (hl : L.length < 1000000) {k : Int} (hr : R (TV.int .i64 (score L k)).val h) : CallsH Try.prog 22 (TVs.vals [.ptr (some ⟨b, 0⟩), .int .i64 k]) h R := by
  apply tollerref18_Peers_Score_calls
  unfold tollerref18_Peers_Score_vc
  refine at_spec p hl ⟨_, rfl, ?_⟩
  unfold score at hr
  rcases atOf_get L k with ⟨h1, h2⟩ | ⟨h1, v, h2, h3⟩
  · refine If.dec.2 ⟨fun hx => by omega, fun _ => ?_⟩
    rw [h2] at hr
    exact hr
  · refine If.dec.2 ⟨fun _ => ?_, fun hx => by omega⟩
    have hlt := (List.getElem?_eq_some_iff.1 h2).1
    refine ⟨B, p.var.at1 rfl, ?_⟩
    refine ints_at p.b.elems h1 (by rw [vals_len]; omega) fun l y hy hat => ⟨y, hat, ?_⟩
    unfold vals at hy
    rw [List.getElem?_map, h2] at hy
    cases hy
    rw [h3] at hr
    exact hr

theorem RBanned_spec (p : Rf h b A B L most ban decay gone) (hl : L.length < 1000000) (hs : ∀ k, -1048576 ≤ score L k ∧ score L k ≤ 0) {k : Int} (hr : R (TV.bool (decide (ban ≤ -score L k))).val h) : CallsH Try.prog 23 (TVs.vals [.ptr (some ⟨b, 0⟩), .int .i64 k]) h R := by
  apply tollerref18_Peers_Banned_calls
  unfold tollerref18_Peers_Banned_vc
  refine ⟨ban, p.var.at1 rfl, RScore_spec p hl ⟨_, rfl, Ext.refl _, ?_⟩⟩
  have := hs k
  rw [wrap_i64 (n := 0 - score L k) (by omega) (by omega)]
  have : (0 : Int) - score L k = -score L k := by omega
  rw [this]
  exact hr

theorem Same_spec {s t : Sl} {xs ys : List Int} (hs : Elems 1 h s (xs.map intTV)) (ht : Elems 1 h t (ys.map intTV)) (he : xs = ys) (hl : xs.length < 1000000) (hr : R (TV.bool true).val h) : CallsH Try.prog 20 (TVs.vals [.slice s, .slice t]) h R := by
  apply tollerref06_Same_calls
  unfold tollerref06_Same_vc
  subst he
  have l1 := hs.len
  have l2 := ht.len
  rw [List.length_map] at l1 l2
  rw [decide_eq_true (by omega : (s.len : Int) = (t.len : Int))]
  refine If.no ?_
  refine ⟨fun s' hh => 0 ≤ s'.2 ∧ s'.2 ≤ xs.length ∧ hh = h, fun s' _ => ((xs.length : Int) - s'.2).toNat, ⟨by simp, by simp, rfl⟩, ?_⟩
  rintro ⟨u, i⟩ _ ⟨i0, i1, rfl⟩
  simp only at i0 i1 ⊢
  refine If.dec.2 ⟨fun hi => ?_, fun hi => hr⟩
  refine ints_at hs i0 (by omega) fun l y hy hat => ⟨y, hat, ?_⟩
  refine ints_at ht i0 (by omega) fun l' y' hy' hat' => ⟨y', hat', ?_⟩
  rw [hy] at hy'
  cases hy'
  rw [decide_eq_true rfl, wrap_i64 (n := i + 1) (by omega) (by omega)]
  exact If.no ⟨⟨by omega, by omega, by trivial⟩, by omega⟩

/-! ### Known: each is laid at its place -/

def ins (x : Int) (l : List Int) : List Int := l.takeWhile (fun y => decide (y < x)) ++ x :: l.dropWhile (fun y => decide (y < x))

theorem ins_perm (x : Int) (l : List Int) : (ins x l).Perm (x :: l) := by
  unfold ins
  have : l.Perm (l.takeWhile (fun y => decide (y < x)) ++ l.dropWhile (fun y => decide (y < x))) := by rw [List.takeWhile_append_dropWhile]
  exact List.perm_middle.trans (this.symm.cons x)

theorem ins_sorted (x : Int) : ∀ {l : List Int}, l.Pairwise (fun a b => a ≤ b) → (ins x l).Pairwise (fun a b => a ≤ b)
  | [], _ => by simp [ins]
  | y :: l, h => by
    have h' := List.pairwise_cons.1 h
    by_cases hy : y < x
    · have e : ins x (y :: l) = y :: ins x l := by simp [ins, hy]
      rw [e]
      refine List.pairwise_cons.2 ⟨fun z hz => ?_, ins_sorted x h'.2⟩
      rcases List.mem_cons.1 ((ins_perm x l).mem_iff.1 hz) with rfl | hz
      · omega
      · exact h'.1 z hz
    · have e : ins x (y :: l) = x :: y :: l := by simp [ins, hy]
      rw [e]
      refine List.pairwise_cons.2 ⟨fun z hz => ?_, h⟩
      rcases List.mem_cons.1 hz with rfl | hz
      · omega
      · have := h'.1 z hz; omega

def sortIns (l : List Int) : List Int := l.foldl (fun out x => ins x out) []

theorem sortIns_spec (l : List Int) : (sortIns l).Perm l ∧ (sortIns l).Pairwise (fun a b => a ≤ b) := by
  have key : ∀ (l out : List Int), out.Pairwise (fun a b => a ≤ b) → (l.foldl (fun out x => ins x out) out).Perm (l ++ out) ∧ (l.foldl (fun out x => ins x out) out).Pairwise (fun a b => a ≤ b) := by
    intro l
    induction l with
    | nil => intro out h; exact ⟨List.Perm.refl _, h⟩
    | cons x l ih =>
      intro out h
      obtain ⟨h1, h2⟩ := ih (ins x out) (ins_sorted x h)
      refine ⟨h1.trans (((ins_perm x out).append_left l).trans ?_), h2⟩
      exact List.perm_middle
  have := key l [] List.Pairwise.nil
  rw [List.append_nil] at this
  exact this

theorem sortIns_srt (L : List (Int × Int)) : sortIns (keys L) = srt L := by
  obtain ⟨h1, h2⟩ := sortIns_spec (keys L)
  exact sorted_unique (h1.trans (srt_perm L).symm) h2 (srt_sorted L)

theorem cut_elems {s : Sl} {ts : List TV} {i j : Nat} (e : Elems 1 h s ts) (hij : i ≤ j) (hj : j ≤ s.len) (hcap : s.len ≤ s.cap) : Elems 1 h (cutSl s i j 1) ((ts.drop i).take (j - i)) := by
  have hl := e.len
  refine ⟨by simp only [cutSl, List.length_take, List.length_drop]; omega, fun hn => ?_, fun l hla k t ht => ?_⟩
  · unfold cutSl at hn
    simp only at hn
    have : ts = [] ∨ i = j := by
      split at hn
      · right
        omega
      · left
        cases hs : s.a with
        | none => exact e.nil hs
        | some l => rw [hs] at hn; simp at hn
    rcases this with rfl | rfl
    · simp
    · simp
  · unfold cutSl at hla
    simp only at hla
    rw [List.getElem?_take] at ht
    split at ht
    · rename_i hk
      rw [List.getElem?_drop] at ht
      split at hla
      · omega
      · cases hs : s.a with
        | none => rw [hs] at hla; simp at hla
        | some l0 =>
          rw [hs] at hla
          simp only [Option.map_some, Option.some.injEq] at hla
          subst hla
          have := e.get l0 hs (i + k) t ht
          simp only [Nat.mul_one] at this ⊢
          rw [Nat.add_assoc]
          exact this
    · cases ht

end
end Go.Proofs.Ythkaabfoeealaaa.Peers
