/- A pool's items, in order: Clone, SortFunc, All; the pool as a row in order. -/
import Derived.Test.YtjadpjbiiidioaaPoolC
import Derived.Test.YtjadpjbiiidioaaVcQ
import Derived.Test.YtjadpjbiiidioaaShelf
namespace Go.Proofs.Ytjadpjbiiidioaa.Pool
open Go Go.Vc
section
variable {R : Value → Heap → Prop} {h : Heap} {b : Nat} {A : Sl} {L : List It} {most quota : Int}

def cmpIt (x y : It) : Int := if bf x y = true then -1 else if bf y x = true then 1 else 0

theorem lt_cmp (x y : It) : Go.Proofs.ltOf cmpIt x y = bf x y := by
  unfold Go.Proofs.ltOf cmpIt
  cases h1 : bf x y with
  | true => simp
  | false =>
    cases h2 : bf y x <;> simp

theorem swo : Go.Sort.SWO (Go.Proofs.ltOf cmpIt) where
  irrefl x := by rw [lt_cmp]; exact bf_irrefl x
  trans x y z h k := by rw [lt_cmp] at *; exact bf_trans h k
  ntrans x y z h k := by rw [lt_cmp] at *; exact nb_trans h k

theorem cmp_spec {x y : It} (hr : ∀ h', Ext h h' → R (TV.int .i64 (cmpIt x y)).val h') : CallsH Try.prog 36 (TVs.vals [x.tv, y.tv]) h R := by
  apply pool_Pool_All_1_calls x.slot x.root x.peer x.fr x.text y.slot y.root y.peer y.fr y.text
  unfold pool_Pool_All_1_vc
  refine newTV_in fun h1 v1 x1 s1 => newTV_in fun h2 v2 x2 s2 => ?_
  have v1' := v1.ext x2
  have x12 := x1.trans x2
  refine v_it (x := x) v1' (v_it (x := y) v2 ?_)
  refine before_spec (x := x) (y := y) fun h3 x3 => ⟨_, rfl, ?_⟩
  unfold cmpIt at hr
  cases h1 : bf x y with
  | true => rw [h1] at hr; exact If.yes (hr h3 (x12.trans x3))
  | false =>
    rw [h1] at hr
    refine If.no (v_it (x := y) (v2.ext x3) (v_it (x := x) (v1'.ext x3) ?_))
    refine before_spec (x := y) (y := x) fun h4 x4 => ⟨_, rfl, ?_⟩
    cases h2 : bf y x with
    | true => rw [h2] at hr; exact If.yes (hr h4 ((x12.trans x3).trans x4))
    | false => rw [h2] at hr; exact If.no (hr h4 ((x12.trans x3).trans x4))

/-- What two rows of the same blocks have to do with each other. -/
def Fresh (h : Heap) (s : Sl) : Prop := ∀ l, s.a = some l → h.size ≤ l.b

theorem clone_spec {s : Sl} (e : Elems 67 h s (its L)) (hl : L.length < 1000)
    (hr : ∀ h' s', Own 32 67 h' s' (its L) → Ext h h' → Fresh h s' → R (TV.slice s').val h') : CallsH Try.prog 34 (TVs.vals [.slice s]) h R := by
  apply slices_Clone___pool_Item_pool_Item__calls
  unfold slices_Clone___pool_Item_pool_Item__vc
  have hel := e.len
  rw [List.length_map] at hel
  refine If.split (fun hn => ?_) (fun hn => ?_)
  · have : s.a = none := by simpa using hn
    have hL : its L = [] := e.nil this
    have := hr h Sl.nil (by rw [hL]; exact Own.nil 32 67 h) (Ext.refl _) (fun l hl => by cases hl)
    exact this
  · have o := Own.new (T := 32) (sz := 67) h [] (fun t ht => by cases ht)
    have e1 := Ext.push h (row (TVs.cells []) 32)
    refine appendN (C := ctx) (T := 32) (t := Sl.mk (some (Vc.Loc.mk h.size 0)) 0 0) size32 zsize32 (by rw [bytes32]; decide) (by decide) (by rw [bytes32]; simp only; omega) o (e.ext e1) (its_size L) (its_plain L) fun s' h1 o1 x1 _ b1 => ?_
    refine hr h1 s' (by simpa using o1) (e1.trans (x1 rfl)) fun l hl => ?_
    rcases b1 l hl with ⟨l', h9, h10⟩ | h9
    · cases h9
      have : h.size = l.b := h10
      omega
    · have := e1.size
      omega

theorem aE32 : ∀ w, (isAgg (Try.sortIts_ren.t 24)).run Try.prog w = .ok true w := fun w => by
  have hu : ∃ fs, Try.prog.underlying 32 = some (.struct fs) := by
    cases hd : (ctx.ti 32).d with
    | none => have : (ctx.ti 32).d.isSome = true := by kernel_rfl
              rw [hd] at this; cases this
    | some d =>
      have hd' := ctx_ok.d hd
      have hs : (match (ctx.ti 32).d with | some (.struct _) => true | _ => false) = true := by kernel_rfl
      rw [hd] at hs
      cases d <;> first | (exact ⟨_, hd'⟩) | cases hs
  obtain ⟨fs, hu⟩ := hu
  have := isAgg_run (P := Try.prog) (w := w) hu
  exact this

theorem zE32 : ∀ w, (sizeOf (Try.sortIts_ren.t 24)).run Try.prog w = .ok 67 w := fun w => by
  have := sizeRun (C := ctx) ctx_ok (t := 32) (by kernel_rfl) w
  rw [size32] at this
  exact this

theorem sortIts_spec {s : Sl} (o : Own 32 67 h s (its L)) (hl : L.length < 1000)
    (hr : ∀ h' L', L'.Perm L → L'.Pairwise (fun x y => bf y x = false) → Own 32 67 h' s (its L') → Only (In s) h h' → R (TV.tup []).val h') : CallsH Try.prog 35 (TVs.vals [.slice s, .fn (.func 36) [] []]) h R := by
  refine sort_own (tv := It.tv) (k := 67) (P := Try.prog) Try.sortIts (T := 32) aE32 zE32 It.size It.plain swo (g := 36) (cb := #[]) (ctx_ok.entP (by kernel_rfl)) (fun h' x y => ?_) o (by omega) (fun h' L' hp hs o' f => ?_)
  · exact cmp_spec (x := x) (y := y) fun h'' x'' => ⟨rfl, x''⟩
  · refine hr h' L' hp (hs.imp fun {x y} hx => ?_) o' f
    rw [lt_cmp] at hx
    exact hx

/-! ### The pool as a row in order -/

/-- A pool in memory: S are its items, in order. -/
structure PL (h : Heap) (b : Nat) (A : Sl) (S : List It) (most quota : Int) : Prop where
  srt : Srt S
  names : (S.map It.root).Nodup
  few : S.length < 800
  ex : ∃ L, HL h b A L most quota ∧ HeapFrom 0 L ∧ L.Perm S

def Mine (b : Nat) (A : Sl) (i : Nat) : Prop := i = b ∨ In A i

/-- What a pool's function leaves alone: all but the pool's own blocks. -/
structure Grown (b : Nat) (A : Sl) (h : Heap) (A' : Sl) (h' : Heap) : Prop where
  only : Only (Mine b A) h h'
  new : ∀ i, Mine b A' i → Mine b A i ∨ h.size ≤ i

theorem Grown.refl : Grown b A h A h := ⟨Only.refl _ _, fun _ hi => .inl hi⟩
theorem Grown.of_ext {h' : Heap} (x : Ext h h') : Grown b A h A h' := ⟨Only.of_ext x, fun _ hi => .inl hi⟩
theorem Grown.trans {A' A2 : Sl} {h' h2 : Heap} (g : Grown b A h A' h') (k : Grown b A' h' A2 h2) : Grown b A h A2 h2 := by
  have s1 := g.only.size
  refine ⟨⟨Nat.le_trans s1 k.only.size, fun i hi hn => ?_⟩, fun i hi => ?_⟩
  · rw [k.only.same i (Nat.lt_of_lt_of_le hi s1) (fun hx => ?_), g.only.same i hi hn]
    rcases g.new i hx with h9 | h9
    · exact hn h9
    · omega
  · rcases k.new i hi with h9 | h9
    · exact g.new i h9
    · exact .inr (Nat.le_trans s1 h9)

variable {S : List It}

theorem PL.ext {h' : Heap} (p : PL h b A S most quota) (x : Ext h h') : PL h' b A S most quota := by
  obtain ⟨h1, h2, h3, L, h4, h5⟩ := p
  exact ⟨h1, h2, h3, L, h4.ext x, h5⟩
theorem PL.only {h' : Heap} {Q : Nat → Prop} (p : PL h b A S most quota) (o : Only Q h h') (hq : ∀ i, Mine b A i → ¬ Q i) : PL h' b A S most quota := by
  obtain ⟨h1, h2, h3, L, h4, h5⟩ := p
  exact ⟨h1, h2, h3, L, h4.only o (hq b (.inl rfl)) (fun i hi => hq i (.inr hi)), h5⟩
theorem PL.lt (p : PL h b A S most quota) {i : Nat} (hi : Mine b A i) : i < h.size := by
  obtain ⟨_, _, _, L, h4, _⟩ := p
  rcases hi with rfl | ⟨l, hl, rfl⟩
  · exact h4.var.lt
  · exact h4.own.lt l hl

theorem nodup_perm {L S : List It} (hp : L.Perm S) (hn : (S.map It.root).Nodup) : (L.map It.root).Nodup := (hp.map _).nodup_iff.2 hn

/-- In order, of items each of another name. -/
theorem srt_of {L : List It} (hp : L.Pairwise fun x y => bf y x = false) (hn : (L.map It.root).Nodup) : Srt L := by
  unfold Srt
  have hn' : L.Pairwise fun x y => x.root ≠ y.root := List.pairwise_map.1 hn
  refine (hp.and hn').imp fun {x y} hx => ?_
  rcases bf_total (x := x) (y := y) (fun e => hx.2 e.2) with h1 | h1
  · exact h1
  · rw [hx.1] at h1; cases h1

theorem all_spec (p : PL h b A S most quota) (hr : ∀ h' s', Own 32 67 h' s' (its S) → Ext h h' → Fresh h s' → R (TV.slice s').val h') : CallsH Try.prog 17 (TVs.vals [.ptr (some ⟨b, 0⟩)]) h R := by
  apply pool_Pool_All_calls
  unfold pool_Pool_All_vc
  obtain ⟨hs, hn, hf, L, H, hh, hp⟩ := p
  refine If.no ⟨A, H.var.at1 rfl, ?_⟩
  have hl := hp.length_eq
  refine clone_spec H.own.elems H.few fun h1 s1 o1 x1 f1 => ⟨s1, rfl, ?_⟩
  refine sortIts_spec o1 H.few fun h2 L' hp' hs' o2 f2 => ⟨rfl, ?_⟩
  have hpp := hp'.trans hp
  have : L' = S := srt_unique (srt_of hs' (nodup_perm hpp hn)) hs hpp
  subst this
  refine hr h2 s1 o2 (Only.cut x1 f2 fun i ⟨l, hl, e⟩ => ?_) f1
  have := f1 l hl
  omega

theorem all_nil (hr : R (TV.slice Sl.nil).val h) : CallsH Try.prog 17 (TVs.vals [.ptr none]) h R := by
  apply pool_Pool_All_calls
  unfold pool_Pool_All_vc
  exact If.yes hr

end
end Go.Proofs.Ytjadpjbiiidioaa.Pool
