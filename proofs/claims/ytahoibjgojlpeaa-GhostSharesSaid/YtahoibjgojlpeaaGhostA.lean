/- What the functions of ghost do, the program's: contracts. -/
import Derived.Test.YtahoibjgojlpeaaVcM
import Derived.Test.YtahoibjgojlpeaaVsGhost
namespace Go.Proofs.Ytahoibjgojlpeaa.Ghost
open Go Go.Vc

/-! ### Names -/

theorem str_var {T : TypeId} {h : Heap} {b n c : Nat} {x : Bs n} (v : Var T h b (.bytes n x)) : strAt h ⟨some ⟨b, 0⟩, n, c⟩ x.l :=
  ⟨x.h, .inr ⟨_, rfl, fun j hj => by
    have := v.bytes j (by rw [← x.h]; exact hj)
    rw [this]
    simp [List.getD, hj]⟩⟩

section
variable {R : Value → Heap → Prop} {h : Heap}

theorem less_spec {a b : Bs 32} (hr : ∀ h', Ext h h' → R (TV.bool (Op.bytesLess a.l b.l)).val h') : CallsH Try.prog 43 (TVs.vals [.bytes 32 a, .bytes 32 b]) h R := by
  apply sha_Less_calls
  unfold sha_Less_vc
  obtain ⟨h1, e1, v1, x1, s1⟩ := newTV_spec h (.bytes 32 a) 37
  rw [e1]
  obtain ⟨h2, e2, v2, x2, s2⟩ := newTV_spec h1 (.bytes 32 b) 37
  rw [e2]
  exact ⟨a.l, str_var (v1.ext x2), b.l, str_var v2, hr _ (x1.trans x2)⟩

end

/-! ### Chains -/

abbrev Rt := Bs 32
def blkTV (x : Rt × Rt) : TV := .agg [.bytes 32 x.1, .bytes 32 x.2]
def shTV (x : Rt × Int) : TV := .agg [.bytes 32 x.1, .int .i64 x.2]

/-- A chain in memory: the slice of blocks, the slice of shares. -/
structure Ch (h : Heap) (B S : Sl) (bl : List (Rt × Rt)) (sh : List (Rt × Int)) : Prop where
  b : Elems 64 h B (bl.map blkTV)
  s : Elems 33 h S (sh.map shTV)
  few : bl.length < 1000000
  fews : sh.length < 1000000

theorem Ch.ext {h h' : Heap} {B S : Sl} {bl : List (Rt × Rt)} {sh : List (Rt × Int)} (c : Ch h B S bl sh) (e : Ext h h') : Ch h' B S bl sh := ⟨c.b.ext e, c.s.ext e, c.few, c.fews⟩

theorem Ch.len {h : Heap} {B S : Sl} {bl : List (Rt × Rt)} {sh : List (Rt × Int)} (c : Ch h B S bl sh) : B.len = bl.length := by have := c.b.len; simp at this; omega
theorem Ch.lens {h : Heap} {B S : Sl} {bl : List (Rt × Rt)} {sh : List (Rt × Int)} (c : Ch h B S bl sh) : S.len = sh.length := by have := c.s.len; simp at this; omega

theorem Ch.block {h : Heap} {B S : Sl} {bl : List (Rt × Rt)} {sh : List (Rt × Int)} (c : Ch h B S bl sh) {i : Int} (h0 : 0 ≤ i) (h1 : i < bl.length) {K : Go.Vc.Loc → Prop}
    (hk : ∀ l x, bl[i.toNat]? = some x → atBytes h l.b (l.o + i.toNat * 64) 32 x.1 → atBytes h l.b (l.o + i.toNat * 64 + 32) 32 x.2 → K l) : 0 ≤ i ∧ i < B.len ∧ Nn B.a K := by
  refine c.b.read h0 (by rw [c.len]; exact h1) fun l t hl ht hat => ?_
  rw [List.getElem?_map, Option.map_eq_some_iff] at ht
  obtain ⟨x, hx, rfl⟩ := ht
  exact hk l x hx hat.1 hat.2

theorem Ch.share {h : Heap} {B S : Sl} {bl : List (Rt × Rt)} {sh : List (Rt × Int)} (c : Ch h B S bl sh) {i : Int} (h0 : 0 ≤ i) (h1 : i < sh.length) {K : Go.Vc.Loc → Prop}
    (hk : ∀ l x, sh[i.toNat]? = some x → atBytes h l.b (l.o + i.toNat * 33) 32 x.1 → at1 h l.b (l.o + i.toNat * 33 + 32) (.int .i64 x.2) → K l) : 0 ≤ i ∧ i < S.len ∧ Nn S.a K := by
  refine c.s.read h0 (by rw [c.lens]; exact h1) fun l t hl ht hat => ?_
  rw [List.getElem?_map, Option.map_eq_some_iff] at ht
  obtain ⟨x, hx, rfl⟩ := ht
  exact hk l x hx hat.1 hat.2

/-- A block's name; its parent's. -/
def rootAt (bl : List (Rt × Rt)) (i : Nat) : List UInt8 := ((bl[i]?).map fun x => x.1.l).getD []
def parAt (bl : List (Rt × Rt)) (i : Nat) : List UInt8 := ((bl[i]?).map fun x => x.2.l).getD []

theorem rootAt_of {bl : List (Rt × Rt)} {i : Nat} {x : Rt × Rt} (h : bl[i]? = some x) : rootAt bl i = x.1.l := by simp [rootAt, h]
theorem parAt_of {bl : List (Rt × Rt)} {i : Nat} {x : Rt × Rt} (h : bl[i]? = some x) : parAt bl i = x.2.l := by simp [parAt, h]

def kid (bl : List (Rt × Rt)) (k i : Nat) : Bool := decide (k < i) && decide (parAt bl i = rootAt bl k)
/-- The children among the first n. -/
def kidsTo (bl : List (Rt × Rt)) (k n : Nat) : List Nat := (List.range n).filter (kid bl k)
def kidsOf (bl : List (Rt × Rt)) (k : Nat) : List Nat := kidsTo bl k bl.length

theorem kidsTo_succ (bl : List (Rt × Rt)) (k n : Nat) : kidsTo bl k (n + 1) = kidsTo bl k n ++ (if kid bl k n then [n] else []) := by
  unfold kidsTo
  rw [List.range_succ, List.filter_append]
  congr 1
  simp only [List.filter_cons, List.filter_nil]

theorem kidsTo_le (bl : List (Rt × Rt)) (k : Nat) : kidsTo bl k (k + 1) = [] := by
  unfold kidsTo
  rw [List.filter_eq_nil_iff]
  intro i hi
  have := List.mem_range.1 hi
  simp [kid]
  omega

def numTV (i : Nat) : TV := .int .i64 (i : Int)

section
variable {R : Value → Heap → Prop} {h : Heap} {B S : Sl} {bl : List (Rt × Rt)} {sh : List (Rt × Int)}

theorem kids_spec (c : Ch h B S bl sh) {k : Nat} (hk : k < bl.length)
    (hr : ∀ s h', Own 3 1 h' s ((kidsOf bl k).map numTV) → Ext h h' → R (TV.slice s).val h') : CallsH Try.prog 42 (TVs.vals [.agg [.slice B, .slice S], .int .i64 (k : Int)]) h R := by
  apply ghost_Chain_kids_calls
  unfold ghost_Chain_kids_vc
  obtain ⟨h1, e1, v1, x1, s1⟩ := newTV_spec h (.agg [.slice B, .slice S]) 46
  rw [e1]
  have hf := c.few
  rw [wrap_i64 (by omega) (by omega)]
  refine ⟨fun s hh => (k : Int) + 1 ≤ s.2 ∧ s.2 ≤ bl.length ∧ Own 3 1 hh s.1 ((kidsTo bl k s.2.toNat).map numTV) ∧ Ext h1 hh ∧ ∀ l, s.1.a = some l → h1.size ≤ l.b, fun s _ => ((bl.length : Int) - s.2).toNat, ⟨by simp, by simp; omega, ?_, Ext.refl _, fun l hl => by cases hl⟩, ?_⟩
  · have : ((k : Int) + 1).toNat = k + 1 := by omega
    simp only [this, kidsTo_le]
    exact Own.nil _ _ _
  rintro ⟨s, i⟩ hh ⟨i0, i1, o, x, hb⟩
  simp only at i0 i1 o hb ⊢
  have c' := c.ext (x1.trans x)
  have vv := v1.ext x
  have hBS : at1 hh h.size 0 (slVal B) := vv.at1 rfl
  refine ⟨B, hBS, ?_⟩
  rw [c.len]
  refine If.dec.2 ⟨fun hi => ?_, fun hi => ?_⟩
  · refine ⟨B, hBS, ?_⟩
    refine c'.block (i := i) (by omega) hi fun l y hy _ hp => ?_
    refine ⟨y.2, hp, B, hBS, ?_⟩
    refine c'.block (i := (k : Int)) (by omega) (by omega) fun l' z hz hq _ => ?_
    refine ⟨z.1, hq, ?_⟩
    have hz' : bl[k]? = some z := by simpa using hz
    have hi' : (i + 1).toNat = i.toNat + 1 := by omega
    rw [wrap_i64 (by omega) (by omega)]
    refine If.dec.2 ⟨fun he => ?_, fun he => ?_⟩
    · have hkid : kid bl k i.toNat = true := by
        simp only [kid, parAt_of hy, rootAt_of hz', Bool.and_eq_true, decide_eq_true_eq]
        exact ⟨by omega, he⟩
      have hlen : s.len ≤ i.toNat := by
        rw [← o.len, List.length_map]
        exact Nat.le_trans (List.length_filter_le _ _) (by simp)
      refine append1 (C := ctx) (T := 3) (sz := 1) (x := .int .i64 i) rfl rfl (by decide) (by show (s.len + 1) * 8 ≤ _; omega) o rfl rfl fun s' h' o' w' hb' => ?_
      have o'' : Own 3 1 h' s' ((kidsTo bl k (i + 1).toNat).map numTV) := by
        rw [hi', kidsTo_succ, hkid, List.map_append]
        have : numTV i.toNat = .int .i64 i := by unfold numTV; congr 1; omega
        simp only [if_true, List.map_cons, List.map_nil, this]
        exact o'
      refine ⟨⟨by omega, by omega, o'', Only.cut x w' (fun b hb2 => ?_), fun l hl => ?_⟩, by omega⟩
      · obtain ⟨l, hl, rfl⟩ := hb2
        exact hb l hl
      · rcases hb' l hl with ⟨l', hl', he'⟩ | hx
        · rw [← he']; exact hb l' hl'
        · exact Nat.le_trans x.size hx
    · have hkid : kid bl k i.toNat = false := by
        simp only [kid, parAt_of hy, rootAt_of hz', Bool.and_eq_false_iff, decide_eq_false_iff_not]
        exact .inr he
      refine ⟨⟨by omega, by omega, ?_, x, hb⟩, by omega⟩
      rw [hi', kidsTo_succ, hkid]
      simpa using o
  · have : i.toNat = bl.length := by omega
    rw [this] at o
    exact hr _ _ o (x1.trans x)

/-- What stands behind a name. -/
def own (sh : List (Rt × Int)) (r : List UInt8) : Int := (sh.map fun x => if x.1.l = r then x.2 else 0).sum
/-- What a block weighs, counted down to n blocks below. -/
def wt (bl : List (Rt × Rt)) (sh : List (Rt × Int)) : Nat → Nat → Int
  | 0, _ => 0
  | f + 1, k => own sh (rootAt bl k) + ((kidsOf bl k).map (wt bl sh f)).sum
def weightOf (bl : List (Rt × Rt)) (sh : List (Rt × Int)) (k : Nat) : Int := wt bl sh bl.length k

theorem mem_kids {bl : List (Rt × Rt)} {k i : Nat} (h : i ∈ kidsOf bl k) : k < i ∧ i < bl.length ∧ parAt bl i = rootAt bl k := by
  simp only [kidsOf, kidsTo, List.mem_filter, List.mem_range, kid, Bool.and_eq_true, decide_eq_true_eq] at h
  exact ⟨h.2.1, h.1, h.2.2⟩

theorem wt_more {bl : List (Rt × Rt)} {sh : List (Rt × Int)} : ∀ (f g k : Nat), bl.length - k ≤ f → bl.length - k ≤ g → k < bl.length → wt bl sh f k = wt bl sh g k
  | 0, _, k, h1, _, hk => by omega
  | _, 0, k, _, h2, hk => by omega
  | f + 1, g + 1, k, h1, h2, hk => by
    simp only [wt]
    congr 1
    congr 1
    apply List.map_congr_left
    intro i hi
    obtain ⟨a, b, _⟩ := mem_kids hi
    exact wt_more f g i (by omega) (by omega) b

theorem weightOf_eq {k : Nat} (hk : k < bl.length) : weightOf bl sh k = own sh (rootAt bl k) + ((kidsOf bl k).map (weightOf bl sh)).sum := by
  have : weightOf bl sh k = wt bl sh (bl.length + 1) k := wt_more _ _ _ (by omega) (by omega) hk
  rw [this]
  simp only [wt]
  rfl

theorem take_succ_sum {α : Type} (f : α → Int) (l : List α) (i : Nat) (x : α) (hx : l[i]? = some x) : ((l.take (i + 1)).map f).sum = ((l.take i).map f).sum + f x := by
  rw [List.take_add_one, hx, List.map_append, List.sum_append]
  simp

theorem Own.num {h : Heap} {s : Sl} {l : List Nat} (o : Own 3 1 h s (l.map numTV)) {i : Int} (h0 : 0 ≤ i) (h1 : i < l.length) {K : Go.Vc.Loc → Prop}
    (hk : ∀ p (x : Nat), l[i.toNat]? = some x → at1 h p.b (p.o + i.toNat * 1) (.int .i64 (x : Int)) → K p) : 0 ≤ i ∧ i < s.len ∧ Nn s.a K := by
  have hl := o.len
  simp only [List.length_map] at hl
  refine o.elems.read h0 (by omega) fun p t _ ht hat => ?_
  rw [List.getElem?_map, Option.map_eq_some_iff] at ht
  obtain ⟨x, hx, rfl⟩ := ht
  exact hk p x hx hat

theorem weight_spec : ∀ (m k : Nat) (h : Heap) (R : Value → Heap → Prop), bl.length - k ≤ m → Ch h B S bl sh → k < bl.length →
    (∀ h', Ext h h' → R (TV.int .i64 (IntKind.wrap .i64 (weightOf bl sh k))).val h') → CallsH Try.prog 40 (TVs.vals [.agg [.slice B, .slice S], .int .i64 (k : Int)]) h R
  | 0, k, h, R, hm, c, hk, hr => by omega
  | m + 1, k, h, R, hm, c, hk, hr => by
    apply ghost_Chain_weight_calls
    unfold ghost_Chain_weight_vc
    obtain ⟨h1, e1, v1, x1, s1⟩ := newTV_spec h (.agg [.slice B, .slice S]) 46
    rw [e1]
    have hf := c.few
    have hfs := c.fews
    have hSl := c.lens
    refine ⟨S, v1.at1 rfl, ?_⟩
    rw [c.lens]
    let f := fun x : Rt × Int => if x.1.l = rootAt bl k then x.2 else 0
    refine ⟨fun s hh => 0 ≤ s.2 ∧ s.2 ≤ sh.length ∧ s.1 = IntKind.wrap .i64 ((sh.take s.2.toNat).map f).sum ∧ Ext h1 hh, fun s _ => ((sh.length : Int) - s.2).toNat, ⟨by simp, by simp, by simp; rfl, Ext.refl _⟩, ?_⟩
    rintro ⟨n, i⟩ hh ⟨i0, i1, hn, x⟩
    simp only at i0 i1 hn ⊢
    have c' := c.ext (x1.trans x)
    have vv := v1.ext x
    refine If.dec.2 ⟨fun hi => ?_, fun hi => ?_⟩
    · rw [← c.lens]
      refine c'.share i0 hi fun l y hy hp hq => ?_
      refine ⟨y.1, y.2, ⟨hp, hq⟩, ?_⟩
      obtain ⟨w2, h2, e2, v2, x2, s2⟩ := newput_spec hh (.agg [.bytes 32 (Bs.zero 32), .int .i64 0]) (.agg [.bytes 32 y.1, .int .i64 y.2]) 63 rfl
      refine ⟨w2, ?_⟩
      rw [e2]
      refine ⟨y.1, v2.at.1, B, (vv.ext x2).at1 rfl, ?_⟩
      refine (c'.ext x2).block (i := (k : Int)) (by omega) (by omega) fun l' z hz hq' _ => ?_
      refine ⟨z.1, hq', ?_⟩
      have hz' : bl[k]? = some z := by simpa using hz
      have hi' : (i + 1).toNat = i.toNat + 1 := by omega
      have hstep := take_succ_sum f sh i.toNat y hy
      rw [wrap_i64 (n := i + 1) (by omega) (by omega)]
      refine If.dec.2 ⟨fun he => ?_, fun he => ?_⟩
      · refine ⟨y.2, v2.at.2, ?_⟩
        refine ⟨⟨by omega, by omega, ?_, x.trans x2⟩, by omega⟩
        rw [hi', hstep, hn, wrap_add]
        congr 2
        simp only [f]
        rw [if_pos (by rw [rootAt_of hz']; exact he)]
      · refine ⟨⟨by omega, by omega, ?_, x.trans x2⟩, by omega⟩
        rw [hi', hstep, hn]
        simp only [f]
        rw [if_neg (by rw [rootAt_of hz']; exact he), Int.add_zero]
    · have hi2 : i.toNat = sh.length := by omega
      rw [hi2, List.take_length] at hn
      refine ⟨B, S, ⟨vv.at1 rfl, vv.at1 rfl⟩, ?_⟩
      refine kids_spec c' hk fun s h2 o2 x2 => ⟨s, rfl, ?_⟩
      have hl2 := o2.len
      simp only [List.length_map] at hl2
      rw [← hl2]
      refine ⟨fun s' hh' => 0 ≤ s'.2 ∧ s'.2 ≤ (kidsOf bl k).length ∧ s'.1 = IntKind.wrap .i64 (own sh (rootAt bl k) + (((kidsOf bl k).take s'.2.toNat).map (weightOf bl sh)).sum) ∧ Ext h2 hh', fun s' _ => (((kidsOf bl k).length : Int) - s'.2).toNat, ⟨by simp, by simp, by simp [hn, own, f], Ext.refl _⟩, ?_⟩
      rintro ⟨n', j⟩ h3 ⟨j0, j1, hn', x3⟩
      simp only at j0 j1 hn' ⊢
      have hkl : (kidsOf bl k).length ≤ bl.length := Nat.le_trans (List.length_filter_le _ _) (by simp)
      refine If.dec.2 ⟨fun hj => ?_, fun hj => ?_⟩
      · rw [hl2]
        refine Own.num (o2.ext x3) j0 hj fun p y hy hat => ⟨(y : Int), hat, B, S, ?_⟩
        have v3 := (vv.ext x2).ext x3
        refine ⟨⟨v3.at1 rfl, v3.at1 rfl⟩, ?_⟩
        obtain ⟨q1, q2, _⟩ := mem_kids (List.mem_of_getElem? hy)
        refine weight_spec m y h3 _ (by omega) ((c'.ext x2).ext x3) q2 fun h4 x4 => ⟨_, rfl, ?_⟩
        have hi' : (j + 1).toNat = j.toNat + 1 := by omega
        rw [wrap_i64 (n := j + 1) (by omega) (by omega)]
        refine ⟨⟨by omega, by omega, ?_, x3.trans x4⟩, by omega⟩
        rw [hi', take_succ_sum (weightOf bl sh) _ _ y hy, hn', wrap_add, wrap_add2, Int.add_assoc]
      · have : j.toNat = (kidsOf bl k).length := by omega
        rw [this, List.take_length, ← weightOf_eq hk] at hn'
        rw [hn']
        exact hr _ (((x1.trans x).trans x2).trans x3)

end
end Go.Proofs.Ytahoibjgojlpeaa.Ghost
