/- What the document's peers do: Known. -/
import Derived.Test.YthkaabfoeealaaaPeersH
namespace Go.Proofs.Ythkaabfoeealaaa.Peers
open Go Go.Vc

section
variable {R : Value → Heap → Prop} {h h' : Heap} {b : Nat} {A B : Sl} {L : List (Int × Int)} {most ban decay gone : Int}

/-- What stands behind a full slice is laid anew. -/
theorem append_full {C : Ctx} {T : TypeId} {sz : Nat} {t s : Sl} {ts us : List TV} {K : Sl → Heap → Prop} (hsz : (C.ti T).size = sz) (hz : (C.ti T).z.size = sz) (hpos : 0 < (C.ti T).bytes) (h0 : 0 < sz)
    (hb : (t.len + s.len) * (C.ti T).bytes ≤ 70368744177664) (hfull : t.len = t.cap) (hne : 0 < s.len) (e1 : Elems sz h t ts) (e2 : Elems sz h s us) (ht : ∀ u ∈ ts, u.size = sz) (hs : ∀ u ∈ us, u.size = sz) (hp : ∀ u ∈ us, u.plain = true)
    (hk : ∀ t' h', Own T sz h' t' (ts ++ us) → Ext h h' → (∀ l, t'.a = some l → h.size ≤ l.b) → K t' h') :
    ∃ new, slAt h s sz new ∧ (∀ v ∈ new, isOne v = true) ∧ vcAppend C T t s.len new h K := by
  refine ⟨TVs.cells us, e2.cells hs h0, TVs.plain_cells_of hp, TVs.cells ts, ?_, hb, hpos, fun hx => by omega, fun hx => by omega, fun _ c hc => ?_⟩
  · rw [hsz]; exact e1.cells ht h0
  have l1 := e1.len
  have l2 := e2.len
  refine hk _ _ ⟨fun u hu => ?_, by simp [l1, l2], hc, .inr ⟨_, zeros (C.ti T).z (c - (t.len + s.len)), rfl, ?_, ?_⟩⟩ (Ext.push _ _) (fun l hl => by cases hl; exact Nat.le_refl _)
  · rcases List.mem_append.1 hu with h1 | h1
    · exact ht u h1
    · exact hs u h1
  · rw [push_get, TVs.cells_append]
  · rw [zeros_length, hz]

theorem intTV_size {l : List Int} : ∀ u ∈ l.map intTV, u.size = 1 := fun u hu => by
  obtain ⟨x, _, rfl⟩ := List.mem_map.1 hu
  rfl
theorem intTV_plain {l : List Int} : ∀ u ∈ l.map intTV, u.plain = true := fun u hu => by
  obtain ⟨x, _, rfl⟩ := List.mem_map.1 hu
  rfl

theorem take_while {x : Int} : ∀ {l : List Int} {n : Nat}, n ≤ l.length → (∀ (j : Nat) (y : Int), j < n → l[j]? = some y → y < x) → (∀ y, l[n]? = some y → ¬ y < x) → l.takeWhile (fun y => decide (y < x)) = l.take n ∧ l.dropWhile (fun y => decide (y < x)) = l.drop n
  | [], n, hn, _, _ => by simp at hn; subst hn; simp
  | y :: l, 0, _, _, h0 => by
    have := h0 y rfl
    simp [this]
  | y :: l, n + 1, hn, hall, h0 => by
    have hy := hall 0 y (by omega) rfl
    obtain ⟨h1, h2⟩ := take_while (x := x) (l := l) (n := n) (by simpa using hn) (fun j z hj hz => hall (j + 1) z (by omega) (by simpa using hz)) (fun z hz => h0 z (by simpa using hz))
    simp [hy, h1, h2]

theorem lay_in {out : Sl} {outs : List Int} {x i : Int} {K : Sl → Heap → Prop} (o : Own 3 1 h out (outs.map intTV)) (hl : outs.length < 1000000) (i0 : 0 ≤ i) (i1 : i ≤ outs.length)
    (hk : ∀ s' h', Own 3 1 h' s' ((outs.take i.toNat ++ x :: outs.drop i.toNat).map intTV) → Ext h h' → (∀ l, s'.a = some l → h.size ≤ l.b) → K s' h') :
    0 ≤ i ∧ i ≤ (out.cap : Int) ∧ 0 ≤ i ∧ i ≤ i ∧ 0 ≤ i ∧ i ≤ (out.len : Int) ∧
      ∃ new, slAt (Array.push h (row (TVs.cells [TV.int .i64 x]) 3)) (cutSl out (Int.toNat i) out.len 1) 1 new ∧ (∀ v : Value, v ∈ new → isOne v = true) ∧
        vcAppend ctx 3 (Sl.mk (some (Loc.mk (Array.size h) 0)) 1 1) (cutSl out (Int.toNat i) out.len 1).len new (Array.push h (row (TVs.cells [TV.int .i64 x]) 3)) fun (s_2 : Sl) (h_1 : Heap) =>
          ∃ new, slAt h_1 s_2 1 new ∧ (∀ v : Value, v ∈ new → isOne v = true) ∧
            vcAppend ctx 3 (cutSl (Sl.mk out.a out.len (Int.toNat i)) 0 (Int.toNat i) 1) s_2.len new h_1 fun (s : Sl) (h : Heap) => K s h := by
  have hol := o.len
  rw [List.length_map] at hol
  have hcap := o.cap
  have e1 := Ext.push h (row (TVs.cells [TV.int .i64 x]) 3)
  have ox := Own.new (T := 3) (sz := 1) h [TV.int .i64 x] (by simp [TV.size])
  have oo := o.ext e1
  refine ⟨i0, by omega, i0, Int.le_refl _, i0, by omega, ?_⟩
  have ec := cut_elems (i := i.toNat) (j := out.len) oo.elems (by omega) (Nat.le_refl _) hcap
  have hdrop : ((outs.map intTV).drop i.toNat).take (out.len - i.toNat) = (outs.drop i.toNat).map intTV := by
    rw [List.take_of_length_le (by simp only [List.length_drop, List.length_map]; omega), List.map_drop]
  rw [hdrop] at ec
  refine appendN (C := ctx) (T := 3) (t := Sl.mk (some (Loc.mk h.size 0)) 1 1) rfl rfl (by decide) (by decide) (by show (1 + (cutSl out i.toNat out.len 1).len) * 8 ≤ _; simp only [cutSl]; omega) ox ec intTV_size intTV_plain fun s2 h1 o2 x2 _ b2 => ?_
  have x2' := x2 rfl
  have o1 := oo.ext x2'
  have e5 : Elems 1 h1 (cutSl (Sl.mk out.a out.len i.toNat) 0 i.toNat 1) ((outs.take i.toNat).map intTV) := by
    have l1 := o1.elems
    refine ⟨by simp only [cutSl, List.length_map, List.length_take]; omega, fun hn => ?_, fun l hla k t ht => ?_⟩
    · unfold cutSl at hn
      simp only at hn
      split at hn
      · rename_i h9
        rw [h9]; simp
      · cases hs : out.a with
        | none => have := l1.nil hs; simp at this; rw [this]; simp
        | some l => rw [hs] at hn; simp at hn
    · unfold cutSl at hla
      simp only at hla
      have hkt : (outs.map intTV)[k]? = some t := by
        rw [List.map_take] at ht
        rw [List.getElem?_take] at ht
        split at ht
        · exact ht
        · cases ht
      split at hla
      · rename_i h9
        rw [h9] at ht
        simp at ht
      · cases hs : out.a with
        | none => rw [hs] at hla; simp at hla
        | some l0 =>
          rw [hs] at hla
          simp only [Option.map_some, Option.some.injEq] at hla
          subst hla
          have := l1.get l0 hs k t hkt
          simpa using this
  have lo2 := o2.len
  simp only [List.length_append, List.length_map, List.length_drop, List.length_cons, List.length_nil] at lo2
  refine append_full (C := ctx) (T := 3) rfl rfl (by decide) (by decide) (by show ((cutSl (Sl.mk out.a out.len i.toNat) 0 i.toNat 1).len + s2.len) * 8 ≤ _; simp only [cutSl]; omega) (by simp [cutSl]) (by omega) e5 o2.elems intTV_size (fun u hu => o2.size u hu) (fun u hu => ?_) fun s3 h2 o3 x3 b3 => ?_
  · rcases List.mem_append.1 hu with h9 | h9
    · rw [List.mem_singleton.1 h9]; rfl
    · exact intTV_plain u h9
  · refine hk s3 h2 ?_ ((e1.trans x2').trans x3) (fun l hl => ?_)
    · have : (outs.take i.toNat ++ x :: outs.drop i.toNat).map intTV = (outs.take i.toNat).map intTV ++ ([TV.int .i64 x] ++ (outs.drop i.toNat).map intTV) := by simp [intTV]
      rw [this]
      exact o3
    · have := b3 l hl
      have := e1.size
      have := x2'.size
      omega

theorem RKnown_spec (p : Rf h b A B L most ban decay gone) (hl : L.length < 1000) (hr : ∀ h' s, Ext h h' → Own 3 1 h' s ((srt L).map intTV) → R (TV.slice s).val h') :
    CallsH Try.prog 21 (TVs.vals [.ptr (some ⟨b, 0⟩)]) h R := by
  apply tollerref18_Peers_Known_calls
  unfold tollerref18_Peers_Known_vc
  have lA := p.lenA
  have lk := keys_len (L := L)
  refine ⟨A, p.var.at1 rfl, ?_⟩
  refine ⟨fun s hh => 0 ≤ s.2 ∧ s.2 ≤ L.length ∧ Ext h hh ∧ Own 3 1 hh s.1 ((sortIns ((keys L).take s.2.toNat)).map intTV), fun s _ => ((L.length : Int) - s.2).toNat, ⟨Int.le_refl _, Int.natCast_nonneg _, Ext.refl _, Own.nil 3 1 h⟩, ?_⟩
  rintro ⟨out, i⟩ hh ⟨i0, i1, x, o⟩
  simp only at i0 i1 o ⊢
  have pp := p.ext x
  refine If.dec.2 ⟨fun hi => ?_, fun hi => ?_⟩
  · refine ints_at pp.a.elems i0 (by omega) fun l y hy hat => ⟨y, hat, ?_⟩
    have hi' : (i + 1).toNat = i.toNat + 1 := by omega
    have hnext : sortIns ((keys L).take (i + 1).toNat) = ins y (sortIns ((keys L).take i.toNat)) := by
      rw [hi', List.take_add_one, hy]
      unfold sortIns
      rw [List.foldl_append]
      rfl
    have hlen : (sortIns ((keys L).take i.toNat)).length ≤ L.length := by
      rw [(sortIns_spec _).1.length_eq, List.length_take]; omega
    generalize sortIns ((keys L).take i.toNat) = outs at *
    have hol := o.len
    rw [List.length_map] at hol
    refine ⟨fun a hh' => 0 ≤ a ∧ a ≤ outs.length ∧ hh' = hh ∧ (∀ (j : Nat) (z : Int), (j : Int) < a → outs[j]? = some z → z < y), fun a _ => ((outs.length : Int) - a).toNat, ⟨Int.le_refl _, Int.natCast_nonneg _, rfl, fun j z hj => by have : (j : Int) < 0 := hj; omega⟩, ?_⟩
    rintro a h2 ⟨a0, a1, rfl, hall⟩
    have fin : (∀ z, outs[a.toNat]? = some z → ¬ z < y) → ∀ s' h', Own 3 1 h' s' ((outs.take a.toNat ++ y :: outs.drop a.toNat).map intTV) → Ext h2 h' → (∀ l, s'.a = some l → h2.size ≤ l.b) →
        ((0 ≤ (s', IntKind.wrap .i64 (i + 1)).2 ∧ (s', IntKind.wrap .i64 (i + 1)).2 ≤ (L.length : Int) ∧ Ext h h' ∧ Own 3 1 h' (s', IntKind.wrap .i64 (i + 1)).1 ((sortIns ((keys L).take (s', IntKind.wrap .i64 (i + 1)).2.toNat)).map intTV)) ∧
          ((L.length : Int) - (s', IntKind.wrap .i64 (i + 1)).2).toNat < ((L.length : Int) - (out, i).2).toNat) := by
      intro hstop s' h' o' x' _
      simp only
      rw [wrap_i64 (n := i + 1) (by omega) (by omega), hnext]
      have htw := take_while (x := y) (l := outs) (n := a.toNat) (by omega) (fun j z hj hz => hall j z (by omega) hz) hstop
      refine ⟨⟨by omega, by omega, x.trans x', ?_⟩, by omega⟩
      unfold ins
      rw [htw.1, htw.2]
      exact o'
    refine If.dec.2 ⟨fun ha => ?_, fun ha => ?_⟩
    · refine ints_at o.elems a0 (by omega) fun l2 z hz hat2 => ⟨z, hat2, ?_⟩
      refine If.dec.2 ⟨fun hlt => ?_, fun hge => ?_⟩
      · rw [wrap_i64 (n := a + 1) (by omega) (by omega)]
        refine ⟨⟨by omega, by omega, by trivial, fun j w hj hw => ?_⟩, by dsimp only; omega⟩
        by_cases e : (j : Int) = a
        · have : j = a.toNat := by omega
          rw [this, hz] at hw
          cases hw
          exact hlt
        · exact hall j w (by omega) hw
      · exact lay_in o (by omega) a0 (by omega) (fin (fun w hw => by rw [hz] at hw; cases hw; exact hge))
    · exact lay_in o (by omega) a0 (by omega) (fin (fun w hw => by
        have := (List.getElem?_eq_some_iff.1 hw).1
        omega))
  · have : i.toNat = (keys L).length := by omega
    rw [this, List.take_length, sortIns_srt] at o
    exact hr _ _ x o

end
end Go.Proofs.Ythkaabfoeealaaa.Peers
