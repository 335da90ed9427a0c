/- What the functions of ghost do, the program's, continued: the best child, places, weights by name, the head. -/
import Derived.Test.YtahoibjgojlpeaaGhostA
namespace Go.Proofs.Ytahoibjgojlpeaa.Ghost
open Go Go.Vc

section
variable {R : Value → Heap → Prop} {h : Heap} {B S : Sl} {bl : List (Rt × Rt)} {sh : List (Rt × Int)}

/-- The weight as a number of the machine. -/
def wgt (bl : List (Rt × Rt)) (sh : List (Rt × Int)) (i : Nat) : Int := IntKind.wrap .i64 (weightOf bl sh i)

def bestStep (bl : List (Rt × Rt)) (sh : List (Rt × Int)) (a : Int × Int) (i : Nat) : Int × Int :=
  if a.1 < 0 ∨ a.2 < wgt bl sh i ∨ (wgt bl sh i = a.2 ∧ Op.bytesLess (rootAt bl a.1.toNat) (rootAt bl i) = true) then ((i : Int), wgt bl sh i) else a

def bestOf (bl : List (Rt × Rt)) (sh : List (Rt × Int)) (k : Nat) : Int := ((kidsOf bl k).foldl (bestStep bl sh) (-1, 0)).1

theorem best_in {l : List Nat} : ∀ {a : Int × Int}, (l.foldl (bestStep bl sh) a).1 = a.1 ∨ ∃ i ∈ l, (l.foldl (bestStep bl sh) a).1 = (i : Int) := by
  induction l with
  | nil => intro a; exact .inl rfl
  | cons i l ih =>
    intro a
    simp only [List.foldl_cons]
    rcases ih (a := bestStep bl sh a i) with h1 | ⟨j, hj, h1⟩
    · rw [h1]
      unfold bestStep
      split
      · exact .inr ⟨i, List.mem_cons_self .., rfl⟩
      · exact .inl rfl
    · exact .inr ⟨j, List.mem_cons_of_mem _ hj, h1⟩

theorem bestOf_in (k : Nat) : bestOf bl sh k = -1 ∨ ∃ i ∈ kidsOf bl k, bestOf bl sh k = (i : Int) := best_in

theorem best_spec (c : Ch h B S bl sh) {k : Nat} (hk : k < bl.length)
    (hr : ∀ h', Ext h h' → R (TV.int .i64 (bestOf bl sh k)).val h') : CallsH Try.prog 41 (TVs.vals [.agg [.slice B, .slice S], .int .i64 (k : Int)]) h R := by
  apply ghost_Chain_best_calls
  unfold ghost_Chain_best_vc
  obtain ⟨h1, e1, v1, x1, s1⟩ := newTV_spec h (.agg [.slice B, .slice S]) 46
  rw [e1]
  have hf := c.few
  refine ⟨B, S, ⟨v1.at1 rfl, v1.at1 rfl⟩, ?_⟩
  refine kids_spec (c.ext x1) hk fun s h2 o2 x2 => ⟨s, rfl, ?_⟩
  have hl2 := o2.len
  simp only [List.length_map] at hl2
  rw [← hl2]
  have hkl : (kidsOf bl k).length ≤ bl.length := Nat.le_trans (List.length_filter_le _ _) (by simp)
  refine ⟨fun s' hh' => 0 ≤ s'.2.2 ∧ s'.2.2 ≤ (kidsOf bl k).length ∧ (s'.1, s'.2.1) = ((kidsOf bl k).take s'.2.2.toNat).foldl (bestStep bl sh) (-1, 0) ∧ Ext h2 hh', fun s' _ => (((kidsOf bl k).length : Int) - s'.2.2).toNat, ⟨by simp, by simp, by simp, Ext.refl _⟩, ?_⟩
  rintro ⟨out, most, j⟩ h3 ⟨j0, j1, hf3, x3⟩
  simp only at j0 j1 hf3 ⊢
  refine If.dec.2 ⟨fun hj => ?_, fun hj => ?_⟩
  · rw [hl2]
    refine Own.num (o2.ext x3) j0 hj fun p y hy hat => ⟨(y : Int), hat, B, S, ?_⟩
    have v3 := (v1.ext x2).ext x3
    refine ⟨⟨v3.at1 rfl, v3.at1 rfl⟩, ?_⟩
    obtain ⟨q1, q2, _⟩ := mem_kids (List.mem_of_getElem? hy)
    have c3 := ((c.ext x1).ext x2).ext x3
    refine weight_spec _ y h3 _ (Nat.le_refl _) c3 q2 fun h4 x4 => ⟨_, rfl, ?_⟩
    have hi' : (j + 1).toNat = j.toNat + 1 := by omega
    have hst : ((kidsOf bl k).take (j + 1).toNat).foldl (bestStep bl sh) (-1, 0) = bestStep bl sh (out, most) y := by
      rw [hi', List.take_add_one, hy, List.foldl_append, ← hf3]
      rfl
    rw [wrap_i64 (n := j + 1) (by omega) (by omega)]
    have yes : ∀ hh, Ext h4 hh → (out < 0 ∨ most < wgt bl sh y ∨ (wgt bl sh y = most ∧ Op.bytesLess (rootAt bl out.toNat) (rootAt bl y) = true)) →
        (0 ≤ j + 1 ∧ j + 1 ≤ (s.len : Int) ∧ ((y : Int), wgt bl sh y) = ((kidsOf bl k).take (j + 1).toNat).foldl (bestStep bl sh) (-1, 0) ∧ Ext h2 hh) := fun hh xh hc => by
      refine ⟨by omega, by omega, ?_, (x3.trans x4).trans xh⟩
      rw [hst]
      unfold bestStep
      rw [if_pos hc]
    have no : ∀ hh, Ext h4 hh → ¬ (out < 0 ∨ most < wgt bl sh y ∨ (wgt bl sh y = most ∧ Op.bytesLess (rootAt bl out.toNat) (rootAt bl y) = true)) →
        (0 ≤ j + 1 ∧ j + 1 ≤ (s.len : Int) ∧ (out, most) = ((kidsOf bl k).take (j + 1).toNat).foldl (bestStep bl sh) (-1, 0) ∧ Ext h2 hh) := fun hh xh hc => by
      refine ⟨by omega, by omega, ?_, (x3.trans x4).trans xh⟩
      rw [hst]
      unfold bestStep
      rw [if_neg hc]
    refine If.dec.2 ⟨fun h0 => ⟨yes h4 (Ext.refl _) (.inl h0), by omega⟩, fun h0 => ?_⟩
    refine If.dec.2 ⟨fun h5 => ⟨yes h4 (Ext.refl _) (.inr (.inl h5)), by omega⟩, fun h5 => ?_⟩
    refine If.dec.2 ⟨fun h6 => ?_, fun h6 => ⟨no h4 (Ext.refl _) (by rintro (a | a | ⟨a, _⟩) <;> contradiction), by omega⟩⟩
    have c4 := c3.ext x4
    have v4 := v3.ext x4
    have hout : out < bl.length := by
      have := best_in (bl := bl) (sh := sh) (l := (kidsOf bl k).take j.toNat) (a := (-1, 0))
      rw [← hf3] at this
      rcases this with h7 | ⟨i, hi, h7⟩
      · simp only at h7; omega
      · simp only at h7
        have := (mem_kids (List.mem_of_mem_take hi)).2.1
        omega
    refine ⟨B, v4.at1 rfl, ?_⟩
    refine c4.block (i := out) (by omega) hout fun l z hz hp _ => ?_
    refine ⟨z.1, hp, B, v4.at1 rfl, ?_⟩
    refine c4.block (i := (y : Int)) (by omega) (by omega) fun l' z' hz' hp' _ => ?_
    refine ⟨z'.1, hp', ?_⟩
    refine less_spec fun h5' x5 => ⟨_, rfl, ?_⟩
    have hzz : bl[y]? = some z' := by simpa using hz'
    refine If.split (fun hb => ⟨yes h5' x5 (.inr (.inr ⟨h6, by rw [rootAt_of hz, rootAt_of hzz]; exact hb⟩)), by omega⟩) (fun hb => ⟨no h5' x5 ?_, by omega⟩)
    rintro (a | a | ⟨_, a⟩)
    · contradiction
    · contradiction
    · rw [rootAt_of hz, rootAt_of hzz, hb] at a; cases a
  · have : j.toNat = (kidsOf bl k).length := by omega
    rw [this, List.take_length] at hf3
    have h9 : out = bestOf bl sh k := by
      unfold bestOf
      rw [← hf3]
    rw [h9]
    exact hr _ ((x1.trans x2).trans x3)

/-- Where a name stands among the first n. -/
def placeOf (l : List (List UInt8)) (r : List UInt8) : Int := match l.findIdx? (· = r) with
  | some i => i
  | none => -1

theorem place_spec (c : Ch h B S bl sh) {r : Rt} (hr : ∀ h', Ext h h' → R (TV.int .i64 (placeOf (bl.map fun x => x.1.l) r.l)).val h') :
    CallsH Try.prog 39 (TVs.vals [.agg [.slice B, .slice S], .bytes 32 r]) h R := by
  apply ghost_Chain_place_calls
  unfold ghost_Chain_place_vc
  obtain ⟨h1, e1, v1, x1, s1⟩ := newTV_spec h (.agg [.slice B, .slice S]) 46
  rw [e1]
  obtain ⟨h2, e2, v2, x2, s2⟩ := newTV_spec h1 (.bytes 32 r) 37
  rw [e2]
  have hf := c.few
  have hB := c.len
  refine ⟨B, (v1.ext x2).at1 rfl, ?_⟩
  rw [c.len]
  refine ⟨fun s hh => 0 ≤ s.2 ∧ s.2 ≤ bl.length ∧ (∀ i, i < s.2.toNat → rootAt bl i ≠ r.l) ∧ Ext h2 hh, fun s _ => ((bl.length : Int) - s.2).toNat, ⟨by simp, by simp, by simp, Ext.refl _⟩, ?_⟩
  rintro ⟨n, i⟩ hh ⟨i0, i1, hn, x⟩
  simp only at i0 i1 hn ⊢
  have c' := ((c.ext x1).ext x2).ext x
  refine If.dec.2 ⟨fun hi => ?_, fun hi => ?_⟩
  · rw [← c.len]
    refine c'.block i0 hi fun l y hy hp hq => ?_
    refine ⟨y.1, y.2, ⟨hp, hq⟩, ?_⟩
    obtain ⟨w3, h3, e3, v3, x3, s3⟩ := newput_spec hh (.agg [.bytes 32 (Bs.zero 32), .bytes 32 (Bs.zero 32)]) (.agg [.bytes 32 y.1, .bytes 32 y.2]) 61 rfl
    refine ⟨w3, ?_⟩
    rw [e3]
    refine ⟨y.1, v3.at.1, r, ((v2.ext x).ext x3).bytes, ?_⟩
    refine If.dec.2 ⟨fun he => ?_, fun he => ?_⟩
    · have h9 : placeOf (bl.map fun x => x.1.l) r.l = i := by
        have hlt : i.toNat < bl.length := by omega
        have hf9 : (bl.map fun x => x.1.l).findIdx? (· = r.l) = some i.toNat := by
          rw [List.findIdx?_eq_some_iff_getElem]
          refine ⟨by simpa using hlt, ?_, fun j hj => ?_⟩
          · have : (bl.map fun x => x.1.l)[i.toNat]? = some y.1.l := by rw [List.getElem?_map, hy]; rfl
            rw [List.getElem?_eq_getElem (by simpa using hlt)] at this
            have := Option.some.inj this
            simp only [decide_eq_true_eq]
            rw [this]
            exact he
          · have := hn j hj
            unfold rootAt at this
            have hj' : j < bl.length := by omega
            simp only [List.getElem?_eq_getElem hj', Option.map_some, Option.getD_some] at this
            simpa using this
        unfold placeOf
        rw [hf9]
        simp only
        omega
      rw [h9] at hr
      exact hr _ (((x1.trans x2).trans x).trans x3)
    · rw [wrap_i64 (n := i + 1) (by omega) (by omega)]
      refine ⟨⟨by omega, by omega, fun j hj => ?_, x.trans x3⟩, by omega⟩
      have : (i + 1).toNat = i.toNat + 1 := by omega
      rw [this] at hj
      rcases Nat.lt_succ_iff_lt_or_eq.1 hj with h9 | h9
      · exact hn j h9
      · rw [h9, rootAt_of hy]; exact he
  · have h9 : placeOf (bl.map fun x => x.1.l) r.l = -1 := by
      have hf9 : (bl.map fun x => x.1.l).findIdx? (· = r.l) = none := by
        rw [List.findIdx?_eq_none_iff]
        intro x hx
        obtain ⟨y, hy, rfl⟩ := List.mem_map.1 hx
        obtain ⟨j, hj, rfl⟩ := List.getElem_of_mem hy
        have := hn j (by omega)
        simp only [rootAt, List.getElem?_eq_getElem hj, Option.map_some, Option.getD_some] at this
        simpa using this
      unfold placeOf
      rw [hf9]
    rw [h9] at hr
    exact hr _ ((x1.trans x2).trans x)

/-- What a name weighs. -/
def weightAt (bl : List (Rt × Rt)) (sh : List (Rt × Int)) (r : List UInt8) : Int :=
  if 0 ≤ placeOf (bl.map fun x => x.1.l) r then wgt bl sh (placeOf (bl.map fun x => x.1.l) r).toNat else 0

theorem placeOf_lt {l : List (List UInt8)} {r : List UInt8} (h : 0 ≤ placeOf l r) : (placeOf l r).toNat < l.length := by
  unfold placeOf at *
  split at h
  · rename_i i hi
    simp only [Int.toNat_natCast]
    exact (List.findIdx?_eq_some_iff_getElem.1 hi).1
  · omega

theorem Weight_spec (c : Ch h B S bl sh) {r : Rt} (hr : ∀ h', Ext h h' → R (TV.int .i64 (weightAt bl sh r.l)).val h') :
    CallsH Try.prog 33 (TVs.vals [.agg [.slice B, .slice S], .bytes 32 r]) h R := by
  apply ghost_Chain_Weight_calls
  unfold ghost_Chain_Weight_vc
  obtain ⟨h1, e1, v1, x1, s1⟩ := newTV_spec h (.agg [.slice B, .slice S]) 46
  rw [e1]
  obtain ⟨h2, e2, v2, x2, s2⟩ := newTV_spec h1 (.bytes 32 r) 37
  rw [e2]
  have v1' := v1.ext x2
  refine ⟨B, S, ⟨v1'.at1 rfl, v1'.at1 rfl⟩, r, v2.bytes, ?_⟩
  have c2 := (c.ext x1).ext x2
  refine place_spec c2 fun h3 x3 => ⟨_, rfl, ?_⟩
  unfold weightAt at hr
  refine If.dec.2 ⟨fun h0 => ?_, fun h0 => ?_⟩
  · rw [if_pos h0] at hr
    have hlt := placeOf_lt h0
    simp only [List.length_map] at hlt
    generalize placeOf (bl.map fun x => x.1.l) r.l = p at *
    have v3 := v1'.ext x3
    refine ⟨B, S, ⟨v3.at1 rfl, v3.at1 rfl⟩, ?_⟩
    have hp : p = (p.toNat : Int) := by omega
    rw [hp]
    refine weight_spec _ p.toNat h3 _ (Nat.le_refl _) (c2.ext x3) hlt fun h4 x4 => ⟨_, rfl, ?_⟩
    exact hr _ (((x1.trans x2).trans x3).trans x4)
  · rw [if_neg h0] at hr
    exact hr _ ((x1.trans x2).trans x3)

/-- The head, from a place on, so many steps long. -/
def headFrom (bl : List (Rt × Rt)) (sh : List (Rt × Int)) : Nat → Nat → Nat
  | 0, k => k
  | f + 1, k => if bestOf bl sh k < 0 then k else headFrom bl sh f (bestOf bl sh k).toNat

def headOf (bl : List (Rt × Rt)) (sh : List (Rt × Int)) : Nat := headFrom bl sh bl.length 0

theorem headFrom_lt : ∀ (f k : Nat), k < bl.length → headFrom bl sh f k < bl.length
  | 0, k, hk => hk
  | f + 1, k, hk => by
    unfold headFrom
    split
    · exact hk
    · apply headFrom_lt f
      rcases bestOf_in (bl := bl) (sh := sh) k with h1 | ⟨i, hi, h1⟩
      · rw [h1] at *; omega
      · rw [h1]; exact (mem_kids hi).2.1

theorem bestOf_gt {k : Nat} (h : ¬ bestOf bl sh k < 0) : k < (bestOf bl sh k).toNat ∧ (bestOf bl sh k).toNat < bl.length := by
  rcases bestOf_in (bl := bl) (sh := sh) k with h1 | ⟨i, hi, h1⟩
  · rw [h1] at h; omega
  · rw [h1]
    have := mem_kids hi
    exact ⟨by simpa using this.1, by simpa using this.2.1⟩

theorem headFrom_more : ∀ (f g k : Nat), bl.length - k ≤ f + 1 → bl.length - k ≤ g + 1 → k < bl.length → headFrom bl sh f k = headFrom bl sh g k
  | 0, 0, k, _, _, _ => rfl
  | 0, g + 1, k, h1, h2, hk => by
    unfold headFrom
    split
    · rfl
    · rename_i hb
      have := bestOf_gt hb
      omega
  | f + 1, 0, k, h1, h2, hk => by
    unfold headFrom
    split
    · rfl
    · rename_i hb
      have := bestOf_gt hb
      omega
  | f + 1, g + 1, k, h1, h2, hk => by
    unfold headFrom
    split
    · rfl
    · rename_i hb
      have := bestOf_gt hb
      exact headFrom_more f g _ (by omega) (by omega) this.2

theorem headFrom_step {k : Nat} (hk : k < bl.length) (hb : ¬ bestOf bl sh k < 0) : headFrom bl sh bl.length k = headFrom bl sh bl.length (bestOf bl sh k).toNat := by
  have h1 := bestOf_gt hb
  rw [headFrom_more bl.length (bl.length + 1) k (by omega) (by omega) hk]
  conv => lhs; unfold headFrom
  rw [if_neg hb]

theorem headFrom_end {k : Nat} (hk : k < bl.length) (hb : bestOf bl sh k < 0) : headFrom bl sh bl.length k = k := by
  rw [headFrom_more bl.length (bl.length + 1) k (by omega) (by omega) hk]
  unfold headFrom
  rw [if_pos hb]

theorem Head_spec (c : Ch h B S bl sh) (hr : ∀ h' r, Ext h h' → (bl = [] → r = Bs.zero 32) → (bl ≠ [] → r.l = rootAt bl (headOf bl sh)) → R (TV.bytes 32 r).val h') :
    CallsH Try.prog 34 (TVs.vals [.agg [.slice B, .slice S]]) h R := by
  apply ghost_Chain_Head_calls
  unfold ghost_Chain_Head_vc
  obtain ⟨h1, e1, v1, x1, s1⟩ := newTV_spec h (.agg [.slice B, .slice S]) 46
  rw [e1]
  obtain ⟨h2, e2, v2, x2, s2⟩ := newTV_spec h1 (.bytes 32 (Bs.zero 32)) 37
  rw [e2]
  have v1' := v1.ext x2
  refine ⟨B, v1'.at1 rfl, ?_⟩
  rw [c.len]
  refine If.dec.2 ⟨fun h0 => ?_, fun h0 => ?_⟩
  · have hb : bl = [] := List.eq_nil_of_length_eq_zero (by omega)
    refine ⟨v2.wok (by simp [TV.size]), ?_⟩
    obtain ⟨h3, e3, v3, o3, s3⟩ := put_spec v2 (.bytes 32 (Bs.zero 32)) rfl
    rw [e3]
    refine ⟨_, v3.bytes, hr _ _ (Only.cut (x1.trans x2) o3 (fun i hi => by have := x1.size; omega)) (fun _ => rfl) (fun hn => absurd hb hn)⟩
  · refine ⟨B, S, ⟨v1'.at1 rfl, v1'.at1 rfl⟩, ?_⟩
    have hpos : 0 < bl.length := by omega
    refine ⟨fun s hh => 0 ≤ s ∧ s < bl.length ∧ headFrom bl sh bl.length s.toNat = headOf bl sh ∧ Ext h2 hh, fun s _ => ((bl.length : Int) - s).toNat, ⟨by simp, by omega, rfl, Ext.refl _⟩, ?_⟩
    rintro k hh ⟨k0, k1, hk, x⟩
    have c' := ((c.ext x1).ext x2).ext x
    obtain ⟨n, rfl⟩ : ∃ n : Nat, k = (n : Int) := ⟨k.toNat, by omega⟩
    simp only [Int.toNat_natCast] at hk
    refine best_spec c' (by omega) fun h3 x3 => ⟨_, rfl, ?_⟩
    refine If.dec.2 ⟨fun hb => ?_, fun hb => ?_⟩
    · rw [headFrom_end (by omega) hb] at hk
      refine ⟨B, (((v1'.ext x).ext x3)).at1 rfl, ?_⟩
      refine (c'.ext x3).block (i := (n : Int)) (by omega) (by omega) fun l y hy hp _ => ?_
      refine ⟨y.1, hp, ((v2.ext x).ext x3).wok (by simp [TV.size]), ?_⟩
      obtain ⟨h4, e4, v4, o4, s4⟩ := put_spec ((v2.ext x).ext x3) (.bytes 32 y.1) rfl
      rw [e4]
      refine ⟨_, v4.bytes, hr _ _ (Only.cut (((x1.trans x2).trans x).trans x3) o4 (fun i hi => by have := x1.size; omega)) (fun hn => absurd hn (by intro hn; rw [hn] at hpos; simp at hpos)) (fun _ => ?_)⟩
      rw [← hk]
      exact (rootAt_of (by simpa using hy)).symm
    · have hg := bestOf_gt hb
      rw [headFrom_step (by omega) hb] at hk
      exact ⟨⟨by omega, by omega, hk, x.trans x3⟩, by dsimp only; omega⟩

end
end Go.Proofs.Ytahoibjgojlpeaa.Ghost
