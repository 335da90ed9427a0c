/- What the document's drop does; the law whole. -/
import Derived.Test.YthkaabfoeealaaaPeersK
import Derived.Test.YthkaabfoeealaaaVsPeersE
namespace Go.Proofs.Ythkaabfoeealaaa.Peers
open Go Go.Vc

section
variable {R : Value → Heap → Prop} {h h' : Heap} {b r : Nat} {A B : Sl} {L : List (Int × Int)} {most ban decay gone : Int}

theorem cutOut_spec {off i : Nat} {l : List Int} {ts : List TV} {K : Heap → Prop} (v : Var 41 h b (.agg ts)) (h1 : ∀ t ∈ ts, t.size = 1) (hoff : ts[off]? = some (.slice A)) (o : Own 3 1 h A (l.map intTV)) (_hnb : ¬ In A b) (hi : i < l.length) (hl : l.length < 1000000)
    (hk : ∀ h' A', Var 41 h' b (.agg (ts.set off (.slice A'))) → Own 3 1 h' A' ((l.eraseIdx i).map intTV) → Only (· = b) h h' → (∀ j, In A' j → h.size ≤ j) → K h') : cutOut (some ⟨b, 0⟩) (i : Int) off h K := by
  have hat : at1 h b (0 + off) (slVal A) := by
    rw [Nat.zero_add]
    refine v.at1 ?_
    have := TVs.cells_get (sz := 1) ts off 0 (.slice A) h1 hoff (by decide)
    simpa [TV.cells] using this
  have hol := o.len
  rw [List.length_map] at hol
  have hcap := o.cap
  have e1 := Ext.push h (row (TVs.cells []) 3)
  have o0 := Own.new (T := 3) (sz := 1) h [] (by simp)
  have oo := o.ext e1
  unfold cutOut
  rw [wrap_i64 (n := (i : Int) + 1) (by omega) (by omega)]
  have hi1 : ((i : Int) + 1).toNat = i + 1 := by omega
  have hi0 : ((i : Int)).toNat = i := rfl
  rw [hi1, hi0]
  refine ⟨A, hat, by omega, by omega, A, hat, by omega, by omega, e1, ?_⟩
  have ec := cut_elems (i := 0) (j := i) oo.elems (by omega) (by omega) hcap
  have htake : ((l.map intTV).drop 0).take (i - 0) = (l.take i).map intTV := by simp [List.map_take]
  rw [htake] at ec
  refine appendN (C := ctx) (T := 3) (t := Sl.mk (some (Loc.mk h.size 0)) 0 0) rfl rfl (by decide) (by decide) (by show (0 + (cutSl A 0 i 1).len) * 8 ≤ _; simp only [cutSl]; omega) o0 ec intTV_size intTV_plain fun s2 h2 o2 x2 _ b2 => ?_
  have x2' := x2 rfl
  refine ⟨x2', ?_⟩
  have ed := cut_elems (i := i + 1) (j := A.len) (oo.ext x2').elems (by omega) (Nat.le_refl _) hcap
  have hdrop : ((l.map intTV).drop (i + 1)).take (A.len - (i + 1)) = (l.drop (i + 1)).map intTV := by
    rw [List.take_of_length_le (by simp only [List.length_drop, List.length_map]; omega), List.map_drop]
  rw [hdrop] at ed
  have l2 := o2.len
  simp only [List.nil_append, List.length_map, List.length_take] at l2
  refine appendN (C := ctx) (T := 3) rfl rfl (by decide) (by decide) (by show (s2.len + (cutSl A (i + 1) A.len 1).len) * 8 ≤ _; simp only [cutSl]; omega) o2 ed intTV_size intTV_plain fun s3 h3 o3 _ w3 b3 => ?_
  have u2 : ∀ j, In s2 j → h.size ≤ j := fun j hj => by
    obtain ⟨q, hq, rfl⟩ := hj
    rcases b2 q hq with ⟨l', hl', he⟩ | hx
    · cases hl'; rw [← he]; exact Nat.le_refl _
    · have := e1.size; omega
  have x3 : Ext h h3 := Only.cut (e1.trans x2') w3 (by rintro j ⟨q, hq, rfl⟩; exact u2 _ ⟨q, hq, rfl⟩)
  have hbl := v.lt
  obtain ⟨w4, h4, e4, v4, o4, s4⟩ := put_field (i := off) (v.ext x3) h1 (List.getElem?_eq_some_iff.1 hoff).1 (t := .slice s3) rfl
  have u3 : ∀ j, In s3 j → h.size ≤ j := fun j hj => by
    obtain ⟨q, hq, rfl⟩ := hj
    rcases b3 q hq with ⟨l', hl', he⟩ | hx
    · rw [← he]; exact u2 _ ⟨l', hl', rfl⟩
    · have := (e1.trans x2').size; omega
  have e4' : (TV.slice s3).put h3 b (0 + off) = h4 := by rw [Nat.zero_add]; exact e4
  have w4' : wok h3 b (0 + off) 1 := by rw [Nat.zero_add]; exact w4
  refine ⟨w4', ?_⟩
  rw [e4']
  refine hk h4 s3 v4 ?_ ((Only.of_ext x3).trans o4) u3
  have : (l.eraseIdx i).map intTV = [] ++ (l.take i).map intTV ++ (l.drop (i + 1)).map intTV := by
    rw [List.eraseIdx_eq_take_drop_succ, List.map_append, List.nil_append]
  rw [this]
  exact o3.only o4 (fun q hq hx => by have := u3 _ ⟨q, hq, rfl⟩; omega)

theorem keys_erase (i : Nat) : keys (L.eraseIdx i) = (keys L).eraseIdx i := by
  unfold keys
  rw [ChangeMaps.map_eraseIdx]
theorem vals_erase (i : Nat) : vals (L.eraseIdx i) = (vals L).eraseIdx i := by
  unfold vals
  rw [ChangeMaps.map_eraseIdx]

theorem drop_ok : DropOk := by
  intro R h b A B L most ban decay gone i p hl hi hr
  apply tollerref18_Peers_drop_calls
  unfold tollerref18_Peers_drop_vc
  refine cutOut_spec (off := 0) (l := keys L) p.var (by simp [TV.size]) rfl p.a p.offA (by rw [keys_len]; exact hi) (by rw [keys_len]; omega) fun h2 A2 v2 o2 w2 u2 => ?_
  have hbl := p.var.lt
  have oB2 := p.b.only w2 (fun q hq hx => p.offB ⟨q, hq, hx⟩)
  refine cutOut_spec (off := 1) (l := vals L) v2 (by simp [TV.size]) rfl oB2 p.offB (by rw [vals_len]; exact hi) (by rw [vals_len]; omega) fun h3 B3 v3 o3 w3 u3 => ?_
  have ltA2 : ∀ j, In A2 j → j < h2.size := fun j hj => by
    obtain ⟨q, hq, rfl⟩ := hj
    exact o2.lt q hq
  refine hr h3 A2 B3 ⟨v3, ?_, ?_, fun j hj hx => ?_⟩ ⟨(w2.mono fun j hj => .inl hj).trans (w3.mono fun j hj => .inl hj), fun j hj => ?_⟩
  · rw [keys_erase]
    exact o2.only w3 (fun q hq hx => by have := u2 _ ⟨q, hq, rfl⟩; omega)
  · rw [vals_erase]
    exact o3
  · have h1 := ltA2 j hj
    have h2 := u3 j hx
    omega
  · rcases hj with rfl | hj | hj
    · exact .inl (.inl rfl)
    · exact .inr (u2 j hj)
    · right
      have h1 := u3 j hj
      have h2 := w2.size
      omega

theorem peersDo_whole {s : Sl} {cs : List Call} {odd : Int} (hs : Calls h s cs) (hr : ∀ h', Ext h h' → R (TV.bool true).val h') :
    CallsH Try.prog 5 (TVs.vals [.int .i64 most, .int .i64 ban, .int .i64 decay, .slice s, .int .i64 odd]) h R := peersDo_spec drop_ok hs hr

end
end Go.Proofs.Ythkaabfoeealaaa.Peers
