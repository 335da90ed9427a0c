/- The document's chain of numbers, and the program's of it: what plain and chain make. -/
import Derived.Test.YtahoibjgojlpeaaGhostC
namespace Go.Proofs.Ytahoibjgojlpeaa.Ghost
open Go Go.Vc

theorem cells_ones : ∀ (ts : List TV) (i : Nat) (t : TV), (∀ t ∈ ts, t.size = 1) → t.size = 1 → i < ts.length → (TVs.cells ts).take i ++ t.cells ++ (TVs.cells ts).drop (i + 1) = TVs.cells (ts.set i t)
  | [], i, t, _, _, hi => by simp at hi
  | x :: xs, 0, t, h, ht, _ => by
    have hx : x.cells.length = 1 := by rw [TV.cells_length]; exact h x (List.mem_cons_self ..)
    simp only [TVs.cells, List.set_cons_zero, List.take_zero, List.nil_append, Nat.zero_add]
    rw [← hx, List.drop_left]
  | x :: xs, i + 1, t, h, ht, hi => by
    have hx : x.cells.length = 1 := by rw [TV.cells_length]; exact h x (List.mem_cons_self ..)
    obtain ⟨v, hv⟩ := List.length_eq_one_iff.1 hx
    have ih := cells_ones xs i t (fun t ht => h t (List.mem_cons_of_mem _ ht)) ht (by simpa using hi)
    simp only [TVs.cells, List.set_cons_succ, hv, List.cons_append, List.nil_append, List.take_succ_cons, List.drop_succ_cons]
    rw [← ih]

/-- A field of one cell is written. -/
theorem put_field {T : TypeId} {h : Heap} {b i : Nat} {ts : List TV} (v : Var T h b (.agg ts)) (h1 : ∀ t ∈ ts, t.size = 1) (hi : i < ts.length) {t : TV} (ht : t.size = 1) :
    wok h b i 1 ∧ ∃ h1, t.put h b i = h1 ∧ Var T h1 b (.agg (ts.set i t)) ∧ Only (· = b) h h1 ∧ h1.size = h.size := by
  have hlen : (TVs.cells ts).length = ts.length := by rw [TVs.cells_uniform (sz := 1) ts h1, Nat.mul_one]
  have hl : i + t.size ≤ (TV.agg ts).cells.length := by simp only [TV.cells, hlen, ht]; omega
  refine ⟨wok_row v (by rw [← ht]; exact hl), _, rfl, ?_, put_only v hl, put_size v hl⟩
  have := put_row (t := t) v hl
  unfold Var
  rw [this]
  simp only [TV.cells, ht]
  rw [cells_ones ts i t h1 ht hi]

section
variable {R : Value → Heap → Prop} {h : Heap}

def parOf (ps : List Int) (i : Nat) : Rt := name ((ps.getD i 0 % 18446744073709551616) % ((i : Int) + 1))
def nameN (i : Nat) : Rt := name (i : Int)

/-- The document's chain of numbers. -/
def plainDoc (ps ts ks : List Int) : Doc :=
  ⟨(List.range (ps.length + 1)).map nameN, Bs.zero 32 :: (List.range ps.length).map (parOf ps), ts.map name, ks⟩

/-- Slices that lie apart. -/
def Far (A P : Sl) : Prop := ∀ l l', A.a = some l → P.a = some l' → l.b ≠ l'.b
def Off (A : Sl) (b : Nat) : Prop := ∀ l, A.a = some l → l.b ≠ b
def Up (A : Sl) (n : Nat) : Prop := ∀ l, A.a = some l → n ≤ l.b

theorem wrap_u64 (n : Int) : IntKind.wrap .u64 n = n % 18446744073709551616 := by
  unfold IntKind.wrap
  show (if (false && _) = true then _ else n % 2 ^ 64) = _
  simp

/-- One name more, at the end of a slice of names. -/
theorem append_name {s : Sl} {l : List Rt} {x : Rt} {K : Sl → Heap → Prop} (o : Own 37 32 h s (l.map rtTV)) (hl : l.length < 1000000)
    (hk : ∀ s' h', Own 37 32 h' s' ((l ++ [x]).map rtTV) → Only (fun b => ∃ l, s.a = some l ∧ l.b = b) h h' → (∀ l, s'.a = some l → (∃ l', s.a = some l' ∧ l'.b = l.b) ∨ h.size ≤ l.b) → K s' h') :
    ∃ new, slAt (h.push (row (TVs.cells [TV.bytes 32 x]) 37)) (Sl.mk (some (Loc.mk h.size 0)) 1 1) 32 new ∧ (∀ v ∈ new, isOne v = true) ∧ vcAppend ctx 37 s 1 new (h.push (row (TVs.cells [TV.bytes 32 x]) 37)) K := by
  have hlen := o.len
  simp only [List.length_map] at hlen
  refine append1 (C := ctx) (T := 37) (sz := 32) (x := .bytes 32 x) rfl rfl (by decide) (by show (s.len + 1) * 32 ≤ _; omega) o rfl rfl fun s' h' o' w' hb' => hk s' h' ?_ w' hb'
  rw [List.map_append]
  exact o'

theorem plain_spec {ps ts ks : List Int} {sp st sk : Sl} (hp : Ints .i64 h sp ps) (ht : Ints .i64 h st ts) (hk : Ints .i64 h sk ks) (fp : ps.length < 1000) (ft : ts.length < 100000) (fk : ks.length < 1000000)
    (hr : ∀ h' A P T, RCh h' A P T sk (plainDoc ps ts ks) → Ext h h' → R (TV.agg [.slice A, .slice P, .slice T, .slice sk]).val h') :
    CallsH Try.prog 29 (TVs.vals [.slice sp, .slice st, .slice sk]) h R := by
  apply tollerlaw20_plain_calls
  unfold tollerlaw20_plain_vc
  obtain ⟨h0, e0, v0, x0, s0⟩ := newTV_spec h (.agg [.slice Sl.nil, .slice Sl.nil, .slice Sl.nil, .slice Sl.nil]) 41
  rw [e0]
  refine name_spec fun h1 x1 => ⟨_, rfl, ?_⟩
  have o2 := Own.new (T := 37) (sz := 32) h1 [.bytes 32 (name 0)] (by simp [TV.size])
  have x2 := Ext.push h1 (row (TVs.cells [.bytes 32 (name 0)]) 37)
  have hs2 : (h1.push (row (TVs.cells [.bytes 32 (name 0)]) 37)).size = h1.size + 1 := by simp
  have eq2 : (List.set (List.replicate 1 (TV.bytes 32 (Bs.zero 32))) 0 (TV.bytes 32 (name 0))) = [.bytes 32 (name 0)] := rfl
  rw [eq2]
  generalize h1.push (row (TVs.cells [.bytes 32 (name 0)]) 37) = h2 at *
  have o3 := Own.new (T := 37) (sz := 32) h2 [.bytes 32 (Bs.zero 32)] (by simp [TV.size])
  have x3 := Ext.push h2 (row (TVs.cells [.bytes 32 (Bs.zero 32)]) 37)
  have hs3 : (h2.push (row (TVs.cells [.bytes 32 (Bs.zero 32)]) 37)).size = h2.size + 1 := by simp
  generalize h2.push (row (TVs.cells [.bytes 32 (Bs.zero 32)]) 37) = h3 at *
  obtain ⟨w4, h4, e4, v4, x4, s4⟩ := newput_spec h3 (.agg [.slice Sl.nil, .slice Sl.nil, .slice Sl.nil, .slice Sl.nil]) (.agg [.slice ⟨some ⟨h1.size, 0⟩, 1, 1⟩, .slice ⟨some ⟨h2.size, 0⟩, 1, 1⟩, .slice Sl.nil, .slice sk]) 41 rfl
  refine ⟨w4, ?_⟩
  rw [e4]
  generalize hcb : h3.size = cb at *
  have g1 := x1.size
  have xx : Ext h0 h4 := ((x1.trans x2).trans x3).trans x4
  have lp := hp.len
  have lt := ht.len
  refine ⟨fun i hh => 0 ≤ i ∧ i ≤ ps.length ∧ Ext h0 hh ∧ ∃ A P, Var 41 hh cb (.agg [.slice A, .slice P, .slice Sl.nil, .slice sk]) ∧ Own 37 32 hh A (((List.range (i.toNat + 1)).map nameN).map rtTV) ∧
    Own 37 32 hh P ((Bs.zero 32 :: (List.range i.toNat).map (parOf ps)).map rtTV) ∧ Far A P ∧ Off A cb ∧ Off P cb ∧ Up A h0.size ∧ Up P h0.size, fun i _ => ((ps.length : Int) - i).toNat,
    ⟨by simp, by omega, xx, _, _, v4, (o2.ext x3).ext x4, o3.ext x4, ?_, ?_, ?_, ?_, ?_⟩, ?_⟩
  · intro l l' h1 h2; cases h1; cases h2; simp only; omega
  · intro l h1; cases h1; simp only; omega
  · intro l h1; cases h1; simp only; omega
  · intro l h1; cases h1; simp only; omega
  · intro l h1; cases h1; simp only; omega
  rintro i hh ⟨i0, i1, x, A, P, v, oA, oP, far, offA, offP, upA, upP⟩
  rw [← lp]
  refine If.dec.2 ⟨fun hi => ?_, fun hi => ?_⟩
  · rw [lp]
    refine ⟨i0, by omega, ?_⟩
    refine (hp.ext (x0.trans x)).read i0 (by omega) fun l _ n _ hat hn => ⟨n, hat, A, v.at1 rfl, ?_⟩
    rw [wrap_i64 (n := i + 1) (by omega) (by omega)]
    refine name_spec fun h5 x5 => ⟨_, rfl, x5, Ext.push _ _, ?_⟩
    refine append_name (oA.ext x5) (by simp; omega) fun A' h6 oA' w6 b6 => ?_
    have offA6 : ¬ ∃ l, A.a = some l ∧ l.b = cb := by rintro ⟨l, hl, he⟩; exact offA l hl he
    have v6 := (v.ext x5).only w6 offA6
    have g5 := x5.size
    have oP6 : Own 37 32 h6 P _ := (oP.ext x5).only w6 (fun l hl => by rintro ⟨l', hl', he⟩; exact far l' l hl' hl he)
    have hcbl := v.lt
    have offA' : Off A' cb := fun l hl => by
      rcases b6 l hl with ⟨l', hl', he⟩ | hx
      · rw [← he]; exact offA l' hl'
      · omega
    have upA' : Up A' h0.size := fun l hl => by
      rcases b6 l hl with ⟨l', hl', he⟩ | hx
      · rw [← he]; exact upA l' hl'
      · have := x.size; omega
    have farA' : Far A' P := fun l l' hl hl' => by
      rcases b6 l hl with ⟨l'', hl'', he⟩ | hx
      · rw [← he]; exact far l'' l' hl'' hl'
      · have := oP.lt l' hl'; omega
    obtain ⟨w7, h7, e7, v7, o7, s7⟩ := put_field (i := 0) v6 (by simp [TV.size]) (by simp) (t := .slice A') rfl
    refine ⟨w7, ?_⟩
    rw [e7]
    refine ⟨P, v7.at1 rfl, ?_⟩
    rw [wrap_u64, wrap_u64]
    have hm : (i + 1) % 18446744073709551616 = i + 1 := by omega
    rw [hm]
    refine ⟨by omega, ?_⟩
    have hpos : 0 ≤ n % 18446744073709551616 := Int.emod_nonneg _ (by decide)
    have hmod : Int.tmod (n % 18446744073709551616) (i + 1) = (n % 18446744073709551616) % (i + 1) := Int.tmod_eq_emod_of_nonneg hpos
    have hlt2 : (n % 18446744073709551616) % (i + 1) < i + 1 := Int.emod_lt_of_pos _ (by omega)
    have hge2 : 0 ≤ (n % 18446744073709551616) % (i + 1) := Int.emod_nonneg _ (by omega)
    rw [hmod, wrap_i64 (by omega) (by omega)]
    refine name_spec fun h8 x8 => ⟨_, rfl, x8, Ext.push _ _, ?_⟩
    have oA7 : Own 37 32 h7 A' _ := oA'.only o7 (fun l hl => offA' l hl)
    have oP7 : Own 37 32 h7 P _ := oP6.only o7 (fun l hl => offP l hl)
    refine append_name (oP7.ext x8) (by simp; omega) fun P' h9 oP' w9 b9 => ?_
    have v9 := (v7.ext x8).only w9 (by rintro ⟨l, hl, he⟩; exact offP l hl he)
    have g6 := w6.size
    have g8 := x8.size
    have offP' : Off P' cb := fun l hl => by
      rcases b9 l hl with ⟨l', hl', he⟩ | hx
      · rw [← he]; exact offP l' hl'
      · omega
    have upP' : Up P' h0.size := fun l hl => by
      rcases b9 l hl with ⟨l', hl', he⟩ | hx
      · rw [← he]; exact upP l' hl'
      · have := x.size; omega
    have oA9 : Own 37 32 h9 A' _ := (oA7.ext x8).only w9 (fun l hl => by rintro ⟨l', hl', he⟩; exact farA' l l' hl hl' he.symm)
    have farP' : Far A' P' := fun l l' hl hl' => by
      rcases b9 l' hl' with ⟨l'', hl'', he⟩ | hx
      · rw [← he]; exact farA' l l'' hl hl''
      · have := oA7.lt l hl; omega
    obtain ⟨w10, h10, e10, v10, o10, s10⟩ := put_field (i := 1) v9 (by simp [TV.size]) (by simp) (t := .slice P') rfl
    refine ⟨w10, ?_⟩
    rw [e10]
    have hi' : (i + 1).toNat = i.toNat + 1 := by omega
    have hin : ((i.toNat : Nat) : Int) = i := by omega
    refine ⟨⟨by omega, by omega, ?_, A', P', v10, ?_, ?_, farP', offA', offP', upA', upP'⟩, by dsimp only; omega⟩
    · have ha : Ext h0 h6 := Only.cut (x.trans x5) w6 (by rintro b ⟨l, hl, rfl⟩; exact upA l hl)
      have hb : Ext h0 h7 := Only.cut ha o7 (by rintro b rfl; omega)
      have hc : Ext h0 h9 := Only.cut (hb.trans x8) w9 (by rintro b ⟨l, hl, rfl⟩; exact upP l hl)
      exact Only.cut hc o10 (by rintro b rfl; omega)
    · rw [hi', List.range_succ, List.map_append]
      have : nameN (i.toNat + 1) = name (i + 1) := by unfold nameN; congr 1; omega
      simp only [List.map_cons, List.map_nil, this]
      exact oA9.only o10 (fun l hl => offA' l hl)
    · rw [hi', List.range_succ, List.map_append]
      have : parOf ps i.toNat = name (n % 18446744073709551616 % (i + 1)) := by
        unfold parOf
        rw [hin]
        simp [List.getD, hn]
      simp only [List.map_cons, List.map_nil, this]
      exact oP'.only o10 (fun l hl => offP' l hl)
  · have hi2 : i.toNat = ps.length := by omega
    rw [hi2] at oA oP
    refine ⟨fun i h' => 0 ≤ i ∧ i ≤ ts.length ∧ Ext h0 h' ∧ hh.size ≤ h'.size ∧ ∃ T, Var 41 h' cb (.agg [.slice A, .slice P, .slice T, .slice sk]) ∧ Own 37 32 h' T (((ts.take i.toNat).map name).map rtTV) ∧ Own 37 32 h' A _ ∧ Own 37 32 h' P _ ∧ Off T cb ∧ Up T hh.size,
      fun i _ => ((ts.length : Int) - i).toNat, ⟨by simp, by omega, x, Nat.le_refl _, Sl.nil, v, by simpa using Own.nil 37 32 hh, oA, oP, (fun l hl => by cases hl), (fun l hl => by cases hl)⟩, ?_⟩
    rintro j h5 ⟨j0, j1, x5, z5, T, v5, oT, oA5, oP5, offT, upT⟩
    rw [← lt]
    refine If.dec.2 ⟨fun hj => ?_, fun hj => ?_⟩
    · rw [lt]
      refine ⟨j0, by omega, ?_⟩
      refine (ht.ext (x0.trans x5)).read j0 (by omega) fun l _ n _ hat hn => ⟨n, hat, T, v5.at1 rfl, ?_⟩
      refine name_spec fun h6 x6 => ⟨_, rfl, x6, Ext.push _ _, ?_⟩
      refine append_name (oT.ext x6) (by simp; omega) fun T' h7 oT' w7 b7 => ?_
      have v7 := (v5.ext x6).only w7 (by rintro ⟨l, hl, he⟩; exact offT l hl he)
      have g5 := x.size
      have g6 := x6.size
      have hcbl := v5.lt
      have offT' : Off T' cb := fun l hl => by
        rcases b7 l hl with ⟨l', hl', he⟩ | hx
        · rw [← he]; exact offT l' hl'
        · omega
      have g7 := w7.size
      obtain ⟨w8, h8, e8, v8, o8, s8⟩ := put_field (i := 2) v7 (by simp [TV.size]) (by simp) (t := .slice T') rfl
      refine ⟨w8, ?_⟩
      rw [e8, wrap_i64 (by omega) (by omega)]
      have hj' : (j + 1).toNat = j.toNat + 1 := by omega
      have lA := oA.lt
      have lP := oP.lt
      refine ⟨⟨by omega, by omega, ?_, by omega, T', v8, ?_, ?_, ?_, offT', ?_⟩, by dsimp only; omega⟩
      · have ha : Ext h0 h7 := Only.cut (x5.trans x6) w7 (by rintro b ⟨l, hl, rfl⟩; have := upT l hl; omega)
        exact Only.cut ha o8 (by rintro b rfl; omega)
      · rw [hj', List.take_add_one, hn]
        simp only [Option.toList_some, List.map_append, List.map_cons, List.map_nil]
        have := oT'.only o8 (fun l hl => offT' l hl)
        simpa using this
      · exact ((oA5.ext x6).only w7 (fun l hl => by rintro ⟨l', hl', he⟩; have := upT l' hl'; have := lA l hl; omega)).only o8 (fun l hl => offA l hl)
      · exact ((oP5.ext x6).only w7 (fun l hl => by rintro ⟨l', hl', he⟩; have := upT l' hl'; have := lP l hl; omega)).only o8 (fun l hl => offP l hl)
      · intro l hl
        rcases b7 l hl with ⟨l', hl', he⟩ | hx
        · rw [← he]; exact upT l' hl'
        · omega
    · have hj2 : j.toNat = ts.length := by omega
      rw [hj2, List.take_length] at oT
      have v0' := v0.ext x5
      refine ⟨A, P, T, sk, ⟨v5.at1 rfl, v5.at1 rfl, v5.at1 rfl, v5.at1 rfl⟩, v0'.wok (by simp [TV.size, TVs.size]), ?_⟩
      obtain ⟨h6, e6, v6, o6, s6⟩ := put_spec v0' (.agg [.slice A, .slice P, .slice T, .slice sk]) rfl
      rw [e6]
      refine ⟨A, P, T, sk, ⟨v6.at1 rfl, v6.at1 rfl, v6.at1 rfl, v6.at1 rfl⟩, ?_⟩
      have upT' : Up T (h.size + 1) := fun l hl => by have := upT l hl; have := x.size; omega
      refine hr _ _ _ _ ⟨?_, ?_, ?_, ?_, by simp [plainDoc]; omega, by simp [plainDoc]; omega, by simp [plainDoc]; omega⟩ (Only.cut (x0.trans x5) o6 (fun i hi => by omega))
      · exact (oA5.only o6 (fun l hl => by have := upA l hl; omega)).elems
      · exact (oP5.only o6 (fun l hl => by have := upP l hl; omega)).elems
      · exact (oT.only o6 (fun l hl => by have := upT' l hl; omega)).elems
      · exact (Ints.elems (hk.ext (Only.cut (x0.trans x5) o6 (fun i hi => by omega))))

end
end Go.Proofs.Ytahoibjgojlpeaa.Ghost
