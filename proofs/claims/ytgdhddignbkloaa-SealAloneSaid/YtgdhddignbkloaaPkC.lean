/- Texts that the proof needs, joined: BoardE, VsBoardL, BoardF, BoardG, BoardH, RefA, VsRef, RefB, RefC, RefD, ShaG, VsSealA, SealA, VsSealB, SealB. -/
import Derived.Deep.Strs
import Derived.Test.YtgdhddignbkloaaPkB

section
/- Members of a slot's committee: the seats in order, cut. -/
namespace Go.Proofs.Ytgdhddignbkloaa.Board
open Go Go.Vc

theorem less_irrefl : ∀ a : List UInt8, Op.bytesLess a a = false
  | [] => rfl
  | x :: xs => by simp [Op.bytesLess, less_irrefl xs, UInt8.lt_irrefl]

theorem less_asymm : ∀ a b : List UInt8, Op.bytesLess a b = true → Op.bytesLess b a = false
  | [], [], h => by cases h
  | [], y :: ys, _ => rfl
  | x :: xs, [], h => by cases h
  | x :: xs, y :: ys, h => by
    simp only [Op.bytesLess, Bool.or_eq_true, Bool.and_eq_true, decide_eq_true_eq, beq_iff_eq] at h
    simp only [Op.bytesLess, Bool.or_eq_false_iff, Bool.and_eq_false_iff, decide_eq_false_iff_not, beq_eq_false_iff_ne]
    rw [UInt8.lt_iff_toNat_lt] at h
    rw [UInt8.lt_iff_toNat_lt]
    rcases h with h | ⟨h, h1⟩
    · refine ⟨by omega, .inl ?_⟩
      rintro rfl
      omega
    · subst h
      exact ⟨by omega, .inr (less_asymm xs ys h1)⟩

theorem less_trans : ∀ a b c : List UInt8, Op.bytesLess a b = true → Op.bytesLess b c = true → Op.bytesLess a c = true
  | [], [], _, h, _ => by cases h
  | _ :: _, [], _, h, _ => by cases h
  | _, _ :: _, [], _, k => by cases k
  | [], _ :: _, _ :: _, _, _ => rfl
  | x :: xs, y :: ys, z :: zs, h, k => by
    simp only [Op.bytesLess, Bool.or_eq_true, Bool.and_eq_true, decide_eq_true_eq, beq_iff_eq] at h k ⊢
    rw [UInt8.lt_iff_toNat_lt] at h k ⊢
    rcases h with h | ⟨h, h1⟩
    · rcases k with k | ⟨k, k1⟩
      · left; omega
      · left; rw [← k]; exact h
    · rcases k with k | ⟨k, k1⟩
      · left; rw [h]; exact k
      · right; exact ⟨h.trans k, less_trans xs ys zs h1 k1⟩

theorem less_total : ∀ a b : List UInt8, a ≠ b → Op.bytesLess a b = true ∨ Op.bytesLess b a = true
  | [], [], h => absurd rfl h
  | [], y :: ys, _ => .inl rfl
  | x :: xs, [], _ => .inr rfl
  | x :: xs, y :: ys, h => by
    simp only [Op.bytesLess, Bool.or_eq_true, Bool.and_eq_true, decide_eq_true_eq, beq_iff_eq]
    rw [UInt8.lt_iff_toNat_lt, UInt8.lt_iff_toNat_lt]
    by_cases e : x = y
    · subst e
      rcases less_total xs ys (fun hx => h (by rw [hx])) with h1 | h1
      · exact .inl (.inr ⟨rfl, h1⟩)
      · exact .inr (.inr ⟨rfl, h1⟩)
    · have : x.toNat ≠ y.toNat := fun hx => e (UInt8.toNat_inj.1 hx)
      rcases Nat.lt_or_ge x.toNat y.toNat with h1 | h1
      · exact .inl (.inl h1)
      · exact .inr (.inl (by omega))

/-! ### Seats in order -/

instance : Inhabited Seat := ⟨⟨Bs.zero 32, 0⟩⟩

/-- One seat comes ahead of another. -/
def sb (x y : Seat) : Prop := Op.bytesLess x.lot.l y.lot.l = true ∨ (x.lot = y.lot ∧ x.who < y.who)

theorem befF_iff {x y : Seat} : befF x y < 0 ↔ sb x y := by
  unfold befF sb
  by_cases h1 : Op.bytesLess x.lot.l y.lot.l = true
  · rw [if_pos h1]; simp [h1]
  · rw [if_neg h1]
    by_cases h2 : Op.bytesLess y.lot.l x.lot.l = true
    · rw [if_pos h2]
      constructor
      · intro h; omega
      · rintro (h | ⟨h, _⟩)
        · exact absurd h h1
        · rw [h, less_irrefl] at h2; cases h2
    · rw [if_neg h2]
      have e : x.lot = y.lot := by
        apply Bs.ext'
        apply Classical.byContradiction
        intro hn
        rcases less_total _ _ hn with h | h
        · exact h1 h
        · exact h2 h
      by_cases h3 : x.who < y.who
      · rw [if_pos h3]; simp [e, h3]
      · rw [if_neg h3]
        split <;> simp [h1, h3]

theorem sb_irrefl (x : Seat) : ¬ sb x x := by
  rintro (h | ⟨_, h⟩)
  · rw [less_irrefl] at h; cases h
  · omega

theorem sb_trans {x y z : Seat} (h : sb x y) (k : sb y z) : sb x z := by
  rcases h with h | ⟨h, h1⟩ <;> rcases k with k | ⟨k, k1⟩
  · exact .inl (less_trans _ _ _ h k)
  · exact .inl (by rw [← k]; exact h)
  · exact .inl (by rw [h]; exact k)
  · exact .inr ⟨h.trans k, by omega⟩

theorem sb_total {x y : Seat} (h : x.who ≠ y.who) : sb x y ∨ sb y x := by
  by_cases e : x.lot = y.lot
  · rcases Int.lt_or_gt_of_ne h with h1 | h1
    · exact .inl (.inr ⟨e, h1⟩)
    · exact .inr (.inr ⟨e.symm, h1⟩)
  · rcases less_total x.lot.l y.lot.l (fun hx => e (Bs.ext' hx)) with h1 | h1
    · exact .inl (.inl h1)
    · exact .inr (.inl h1)

theorem sb_cases (x y : Seat) : sb x y ∨ sb y x ∨ x = y := by
  by_cases h : x.who = y.who
  · by_cases e : x.lot = y.lot
    · cases x; cases y; simp_all
    · rcases less_total x.lot.l y.lot.l (fun hx => e (Bs.ext' hx)) with h1 | h1
      · exact .inl (.inl h1)
      · exact .inr (.inl (.inl h1))
  · rcases sb_total h with h1 | h1
    · exact .inl h1
    · exact .inr (.inl h1)

theorem lt_sb {x y : Seat} : Go.Proofs.ltOf befF x y = true ↔ sb x y := by
  unfold Go.Proofs.ltOf
  rw [decide_eq_true_iff, befF_iff]

theorem lt_sb' {x y : Seat} : Go.Proofs.ltOf befF x y = false ↔ ¬ sb x y := by
  rw [← lt_sb]; simp

theorem swo : Go.Sort.SWO (Go.Proofs.ltOf befF) where
  irrefl x := by rw [lt_sb']; exact sb_irrefl x
  trans x y z h k := by rw [lt_sb] at *; exact sb_trans h k
  ntrans x y z h k := by
    rw [lt_sb'] at *
    intro hz
    rcases sb_cases x y with h1 | h1 | h1
    · exact h h1
    · exact k (sb_trans h1 hz)
    · subst h1; exact k hz

/-- The seats of so many validators. -/
def sts (slot : Int) (n : Nat) : List Seat := (List.range n).map fun (i : Nat) => ⟨lotF slot (i : Int), (i : Int)⟩

theorem sts_succ (slot : Int) (n : Nat) : sts slot (n + 1) = sts slot n ++ [⟨lotF slot (n : Int), (n : Int)⟩] := by
  unfold sts
  rw [List.range_succ, List.map_append]
  rfl

theorem sts_length (slot : Int) (n : Nat) : (sts slot n).length = n := by simp [sts]

noncomputable def leb (x y : Seat) : Bool := !Go.Proofs.ltOf befF y x
noncomputable def sorted (slot : Int) (n : Nat) : List Seat := (sts slot n).mergeSort leb

theorem leb_iff {x y : Seat} : leb x y = true ↔ ¬ sb y x := by
  unfold leb
  rw [Bool.not_eq_true', lt_sb']

theorem sorted_perm (slot : Int) (n : Nat) : (sorted slot n).Perm (sts slot n) := List.mergeSort_perm _ _

theorem sorted_pair (slot : Int) (n : Nat) : (sorted slot n).Pairwise fun x y => ¬ sb y x := by
  have := List.pairwise_mergeSort (le := leb) (fun a b c h k => by
    rw [leb_iff] at *
    exact lt_sb'.1 (swo.ntrans _ _ _ (lt_sb'.2 k) (lt_sb'.2 h))) (fun a b => by
    rw [Bool.or_eq_true, leb_iff, leb_iff]
    by_cases h : sb b a
    · right; intro h2; exact sb_irrefl _ (sb_trans h h2)
    · exact .inl h) (sts slot n)
  exact this.imp fun {x y} h => leb_iff.1 h

theorem sorted_unique {slot : Int} {n : Nat} {L : List Seat} (hp : L.Perm (sts slot n)) (hs : L.Pairwise fun x y => ¬ sb y x) : L = sorted slot n := by
  refine List.Perm.eq_of_pairwise (le := fun x y => ¬ sb y x) (fun a b _ _ h k => ?_) hs (sorted_pair slot n) (hp.trans (sorted_perm slot n).symm)
  rcases sb_cases a b with h1 | h1 | h1
  · exact absurd h1 k
  · exact absurd h1 h
  · exact h1

/-- The members of a slot's committee. -/
noncomputable def mem (n : Nat) (com slot : Int) : List Int :=
  if slot < 0 ∨ 1073741824 < slot then [] else ((sorted slot n).take (min (max com 0) (n : Int)).toNat).map Seat.who

theorem sorted_length (slot : Int) (n : Nat) : (sorted slot n).length = n := by rw [(sorted_perm slot n).length_eq, sts_length]

/-! ### The program -/

structure Cf where
  vals : Sl
  ep : Int
  com : Int
  no : Int
  orp : Int
  ear : Int
  quo : Int
  pe : Int
  by_ : Int
  win : Int
  ban : Int
  dec : Int

def Cf.tv (c : Cf) : TV := .agg [.slice c.vals, .int .i64 c.ep, .int .i64 c.com, .int .i64 c.no, .int .i64 c.orp, .int .i64 c.ear, .int .i64 c.quo, .int .i64 c.pe, .int .i64 c.by_, .int .i64 c.win, .int .i64 c.ban, .int .i64 c.dec]

section
variable {R : Value → Heap → Prop} {h : Heap}

abbrev ints (l : List Int) : List TV := l.map (TV.int .i64)
abbrev seats (l : List Seat) : List TV := l.map Seat.tv

theorem Seat.size (s : Seat) : s.tv.size = 33 := by simp only [Seat.tv, TV.size, TVs.size]
theorem Seat.plain (s : Seat) : s.tv.plain = true := by rfl
theorem bytes50 : (ctx.ti 107).bytes = 40 := by kernel_rfl
theorem size50 : (ctx.ti 107).size = 33 := by kernel_rfl
theorem zsize50 : (ctx.ti 107).z.size = 33 := by kernel_rfl
theorem bytes3 : (ctx.ti 3).bytes = 8 := by kernel_rfl
theorem size3 : (ctx.ti 3).size = 1 := by kernel_rfl
theorem zsize3 : (ctx.ti 3).z.size = 1 := by kernel_rfl

theorem aE50 : ∀ w, (isAgg (Try.sortIts_ren.t 24)).run Try.prog w = .ok true w := fun w => by
  have hu : ∃ fs, Try.prog.underlying 107 = some (.struct fs) := by
    cases hd : (ctx.ti 107).d with
    | none => have : (ctx.ti 107).d.isSome = true := by kernel_rfl
              rw [hd] at this; cases this
    | some d =>
      have hd' := ctx_ok.d hd
      have hs : (match (ctx.ti 107).d with | some (.struct _) => true | _ => false) = true := by kernel_rfl
      rw [hd] at hs
      cases d <;> first | (exact ⟨_, hd'⟩) | cases hs
  obtain ⟨fs, hu⟩ := hu
  have := isAgg_run (P := Try.prog) (w := w) hu
  exact this

theorem zE50 : ∀ w, (sizeOf (Try.sortIts_ren.t 24)).run Try.prog w = .ok 33 w := fun w => by
  have := sizeRun (C := ctx) ctx_ok (t := 107) (by kernel_rfl) w
  rw [size50] at this
  exact this

theorem sort_spec {s : Sl} {L : List Seat} (o : Own 107 33 h s (seats L)) (hl : L.length < 1000)
    (hr : ∀ h' L', L'.Perm L → L'.Pairwise (fun x y => ¬ sb y x) → Own 107 33 h' s (seats L') → Only (In s) h h' → R (TV.tup []).val h') : CallsH Try.prog 64 (TVs.vals [.slice s, .fn (.func 65) [] []]) h R := by
  refine sort_own (tv := Seat.tv) (k := 33) (P := Try.prog) Try.sortIts (T := 107) aE50 zE50 Seat.size Seat.plain swo (g := 65) (cb := #[]) (ctx_ok.entP (by kernel_rfl)) (fun h' x y => ?_) o (by omega) (fun h' L' hp hs o' f => ?_)
  · exact before_spec (x := x) (y := y) fun h'' x'' => ⟨rfl, x''⟩
  · refine hr h' L' hp (hs.imp fun {x y} hx => ?_) o' f
    rwa [lt_sb'] at hx

theorem read_seat {s : Sl} {L : List Seat} {i : Int} (e : Elems 33 h s (seats L)) (i0 : 0 ≤ i) (i1 : i < L.length) {K : Bs 32 → Int → Prop} (hk : ∀ x, L[i.toNat]? = some x → K x.lot x.who) :
    0 ≤ i ∧ i < (s.len : Int) ∧ Nn s.a fun (l : Vc.Loc) => ∃ (b : Bs 32), ∃ (n : Int), (atBytes h l.b (l.o + i.toNat * 33) 32 b ∧ at1 h l.b (l.o + i.toNat * 33 + 32) (.int .i64 n)) ∧ K b n := by
  have hl := e.len
  rw [List.length_map] at hl
  refine e.read i0 (by omega) fun l t hla ht ha => ?_
  rw [List.getElem?_map] at ht
  obtain ⟨x, hx, rfl⟩ := Option.map_eq_some_iff.1 ht
  exact ⟨x.lot, x.who, ha, hk x hx⟩

theorem cut_elems33 {s : Sl} {ts : List TV} {i j : Nat} (e : Elems 33 h s ts) (hij : i ≤ j) (hj : j ≤ s.len) (hcap : s.len ≤ s.cap) : Elems 33 h (cutSl s i j 33) ((ts.drop i).take (j - i)) := by
  have hl := e.len
  refine ⟨by simp only [cutSl, List.length_take, List.length_drop]; omega, fun hn => ?_, fun l hla k t ht => ?_⟩
  · unfold cutSl at hn
    simp only at hn
    have : ts = [] ∨ i = j := by
      split at hn
      · right
        omega
      · left
        cases hs : s.a with
        | none => exact e.nil hs
        | some l => rw [hs] at hn; simp at hn
    rcases this with rfl | rfl
    · simp
    · simp
  · unfold cutSl at hla
    simp only at hla
    rw [List.getElem?_take] at ht
    split at ht
    · rename_i hk
      rw [List.getElem?_drop] at ht
      split at hla
      · omega
      · cases hs : s.a with
        | none => rw [hs] at hla; simp at hla
        | some l0 =>
          rw [hs] at hla
          simp only [Option.map_some, Option.some.injEq] at hla
          subst hla
          have := e.get l0 hs (i + k) t ht
          rw [Nat.add_mul, ← Nat.add_assoc] at this
          exact this
    · cases ht

theorem members_spec {c : Cf} {slot : Int} (hv : c.vals.len < 900) (hr : ∀ h' s', Own 3 1 h' s' (ints (mem c.vals.len c.com slot)) → Ext h h' → (∀ l, s'.a = some l → h.size ≤ l.b) → R (TV.slice s').val h') :
    CallsH Try.prog 51 (TVs.vals [c.tv, .int .i64 slot]) h R := by
  apply board_Members_calls c.vals c.ep c.com c.no c.orp c.ear c.quo c.pe c.by_ c.win c.ban c.dec slot
  unfold board_Members_vc
  refine newTV_in fun h1 v1 x1 s1 => ?_
  intro J hJ
  have none_ : slot < 0 ∨ 1073741824 < slot → R (TV.val (TV.slice Sl.nil)) h1 := fun hb => by
    refine hr h1 Sl.nil ?_ x1 (fun l hl => by cases hl)
    unfold mem
    rw [if_pos hb]
    exact Own.nil _ _ _
  refine If.dec.2 ⟨fun hb => none_ (.inl hb), fun hb => If.dec.2 ⟨fun hb2 => none_ (.inr hb2), fun hb2 => ?_⟩⟩
  have hmem : mem c.vals.len c.com slot = ((sorted slot c.vals.len).take (min (max c.com 0) (c.vals.len : Int)).toNat).map Seat.who := by
    unfold mem
    rw [if_neg (by omega)]
  refine hJ _ _ ?_
  have far : ∀ hh, Only (fun i => h.size < i) h1 hh → Ext h hh := fun hh o => Only.cut x1 o fun i hi => by omega
  have var : ∀ hh, Only (fun i => h.size < i) h1 hh → Var 24 hh h.size c.tv := fun hh o => v1.only o (Nat.lt_irrefl _)
  refine ⟨c.vals, v1.at1 rfl, ?_⟩
  refine ⟨fun σ hh => 0 ≤ σ.2 ∧ σ.2 ≤ c.vals.len ∧ Own 107 33 hh σ.1 (seats (sts slot σ.2.toNat)) ∧ (∀ l, σ.1.a = some l → h.size < l.b) ∧ Only (fun i => h.size < i) h1 hh, fun σ _ => ((c.vals.len : Int) - σ.2).toNat,
    ⟨Int.le_refl 0, by dsimp only; omega, Own.nil _ _ _, (fun l hl => by cases hl), Only.refl _ _⟩, ?_⟩
  rintro ⟨s, i⟩ h2 ⟨i0, i1, o2, b2, f2⟩
  dsimp only at i0 i1 o2 b2 ⊢
  have z2 := f2.size
  refine If.dec.2 ⟨fun hi => ?_, fun hi => ?_⟩
  · refine lot_spec fun h3 x3 => ⟨_, rfl, ?_⟩
    have o3 := o2.ext x3
    have hlen := o3.len
    rw [List.length_map, sts_length] at hlen
    refine append1 (C := ctx) (T := 107) (sz := 33) (x := (Seat.mk (lotF slot i) i).tv) size50 zsize50 (by rw [bytes50]; decide) (by rw [bytes50]; omega) o3 (Seat.size _) rfl fun s4 h4 o4 f4 b4 => ?_
    rw [wrap_i64 (n := i + 1) (by omega) (by omega)]
    have hi1 : (i + 1).toNat = i.toNat + 1 := by omega
    have z3 := x3.size
    refine ⟨⟨by omega, by omega, ?_, fun l hl => ?_, ?_⟩, by first | omega | (dsimp only; omega)⟩
    · rw [hi1, sts_succ]
      have hcast : ((i.toNat : Nat) : Int) = i := by omega
      rw [hcast]
      show Own 107 33 h4 s4 ((sts slot i.toNat ++ [Seat.mk (lotF slot i) i]).map Seat.tv)
      rw [List.map_append]
      exact o4
    · rcases b4 l hl with ⟨l', h9, h10⟩ | h9
      · rw [← h10]; exact b2 l' h9
      · omega
    · refine f2.trans ((Only.of_ext x3).trans (f4.mono fun j ⟨l, hl, e⟩ => ?_))
      rw [← e]; exact b2 l hl
  · have hi2 : i.toNat = c.vals.len := by omega
    rw [hi2] at o2
    have hslen := o2.len
    rw [List.length_map, sts_length] at hslen
    refine sort_spec o2 (by rw [sts_length]; omega) fun h3 L' hp hs o3 f3 => ⟨rfl, ?_⟩
    obtain rfl := sorted_unique hp hs
    have f3' : Only (fun i => h.size < i) h1 h3 := f2.trans (f3.mono fun j ⟨l, hl, e⟩ => by rw [← e]; exact b2 l hl)
    refine ⟨c.com, (var h3 f3').at1 rfl, ?_⟩
    have hm : mn (mx c.com 0) (s.len : Int) = min (max c.com 0) (c.vals.len : Int) := by rw [mx_eq, mn_eq, hslen]
    rw [hm]
    have hcap := o3.cap
    have hk0 : 0 ≤ min (max c.com 0) (c.vals.len : Int) := by omega
    have hk1 : min (max c.com 0) (c.vals.len : Int) ≤ (c.vals.len : Int) := by omega
    refine ⟨hk0, by omega, ?_⟩
    generalize hkk : (min (max c.com 0) (c.vals.len : Int)).toNat = k at *
    have hkn : k ≤ c.vals.len := by omega
    have e3 : Elems 33 h3 (cutSl s 0 k 33) (seats ((sorted slot c.vals.len).take k)) := by
      have := cut_elems33 (i := 0) (j := k) o3.elems (Nat.zero_le _) (by omega) hcap
      rw [List.drop_zero, Nat.sub_zero, ← List.map_take] at this
      exact this
    have hcl : (cutSl s 0 k 33).len = k := by simp [cutSl]
    have htl : ((sorted slot c.vals.len).take k).length = k := by rw [List.length_take, sorted_length]; omega
    rw [hcl]
    refine ⟨fun σ hh => 0 ≤ σ.2 ∧ σ.2 ≤ k ∧ Own 3 1 hh σ.1 (ints (((sorted slot c.vals.len).take σ.2.toNat).map Seat.who)) ∧ (∀ l, σ.1.a = some l → h3.size ≤ l.b) ∧ Ext h3 hh, fun σ _ => ((k : Int) - σ.2).toNat,
      ⟨Int.le_refl 0, by dsimp only; omega, Own.nil _ _ _, (fun l hl => by cases hl), Ext.refl _⟩, ?_⟩
    rintro ⟨t, j⟩ h4 ⟨j0, j1, o4, b4, x4⟩
    dsimp only at j0 j1 o4 b4 ⊢
    have z3 := f3'.size
    have z4 := x4.size
    refine If.dec.2 ⟨fun hj => ?_, fun hj => ?_⟩
    · have hr1 := read_seat (e3.ext x4) j0 (by rw [htl]; omega) (K := fun b n => Vc.Bind (newTV h4 (TV.agg [TV.bytes 32 (Bs.zero 32), TV.int IntKind.i64 0]) 107) fun h_5 =>
          wok h_5 h4.size 0 33 ∧ Vc.Bind (TV.put h_5 h4.size 0 (TV.agg [TV.bytes 32 b, TV.int IntKind.i64 n])) fun h_6 => ∃ (n : Int), at1 h_6 h4.size 32 (Value.int IntKind.i64 n) ∧
            ∃ (new : List Value), slAt (Array.push h_6 (row (TVs.cells [TV.int IntKind.i64 n]) 3)) (Sl.mk (some (Vc.Loc.mk (Array.size h_6) 0)) 1 1) 1 new ∧ (∀ (v : Value), v ∈ new → isOne v = true) ∧
              vcAppend ctx 3 t 1 new (Array.push h_6 (row (TVs.cells [TV.int IntKind.i64 n]) 3)) fun s_2 h => (0 ≤ (s_2, IntKind.wrap IntKind.i64 (j + 1)).snd ∧ (s_2, IntKind.wrap IntKind.i64 (j + 1)).snd ≤ k ∧ Own 3 1 h s_2 (ints (((sorted slot c.vals.len).take (IntKind.wrap IntKind.i64 (j + 1)).toNat).map Seat.who)) ∧ (∀ l, s_2.a = some l → h3.size ≤ l.b) ∧ Ext h3 h) ∧ ((k : Int) - IntKind.wrap IntKind.i64 (j + 1)).toNat < ((k : Int) - j).toNat) fun x hx => ?_
      · rw [hcl] at hr1
        exact hr1
      · refine newTV_in fun h5 v5 x5 s5 => put_in v5 (t := x.tv) (by simp only [Seat.tv, TV.size, TVs.size]) fun h6 v6 o6 s6 => ⟨x.who, v6.at1 (by
          have : x.tv.cells = (TV.bytes 32 x.lot).cells ++ [Value.int .i64 x.who] := by simp only [Seat.tv, TV.cells, TVs.cells, List.append_nil]
          rw [this, List.getElem?_append_right (by rw [TV.cells_length]; exact Nat.le_refl _), TV.cells_length]
          rfl), ?_⟩
        have x46 : Ext h4 h6 := Only.cut x5 o6 fun i hi => by omega
        have o5 := o4.ext x46
        have hlen := o5.len
        have htk : ((sorted slot c.vals.len).take j.toNat).length = j.toNat := by rw [List.length_take, sorted_length]; omega
        rw [List.length_map, List.length_map, htk] at hlen
        refine append1 (C := ctx) (T := 3) (sz := 1) (x := .int .i64 x.who) size3 zsize3 (by rw [bytes3]; decide) (by rw [bytes3]; omega) o5 rfl rfl fun s7 h7 o7 f7 b7 => ?_
        rw [wrap_i64 (n := j + 1) (by omega) (by omega)]
        have hj1 : (j + 1).toNat = j.toNat + 1 := by omega
        have hx' : (sorted slot c.vals.len)[j.toNat]? = some x := by
          rw [List.getElem?_take] at hx
          split at hx
          · exact hx
          · cases hx
        refine ⟨⟨by dsimp only; omega, by dsimp only; omega, ?_, fun l hl => ?_, ?_⟩, by omega⟩
        · rw [hj1, take_snoc hx']
          simp only [ints, List.map_append, List.map_cons, List.map_nil] at o7 ⊢
          exact o7
        · have z6 := x46.size
          rcases b7 l hl with ⟨l', h9, h10⟩ | h9
          · rw [← h10]; exact b4 l' h9
          · omega
        · refine Only.cut (x4.trans x46) f7 fun i ⟨l, hl, e⟩ => ?_
          rw [← e]; exact b4 l hl
    · have hj2 : j.toNat = k := by omega
      rw [hj2] at o4
      have x1' : Ext h h4 := (far h3 f3').trans x4
      have := hr h4 t (by rw [hmem]; exact o4) x1' (fun l hl => by have := b4 l hl; omega)
      exact this

end
end Go.Proofs.Ytgdhddignbkloaa.Board
end

section
/- The conditions of functions, as the generator reckons them out, each with the proof that it is that. -/
namespace Go.Proofs.Ytgdhddignbkloaa
open Go Go.Vc
set_option maxRecDepth 100000
set_option linter.unusedVariables false

def tollerref05_Numbers_vc (c_Validators : Sl) (c_Epoch : Int) (c_Committee : Int) (c_Nodes : Int) (c_Orphans : Int) (c_Early : Int) (c_Quota : Int) (c_Peers : Int) (c_Bytes : Int) (c_Window : Int) (c_Ban : Int) (c_Decay : Int) (h : Heap) (R : Value → Heap → Prop) : Prop :=
 Vc.Bind
 (newTV h
 (TV.agg
 [TV.slice c_Validators, TV.int IntKind.i64 c_Epoch, TV.int IntKind.i64 c_Committee, TV.int IntKind.i64 c_Nodes, TV.int IntKind.i64 c_Orphans,
 TV.int IntKind.i64 c_Early, TV.int IntKind.i64 c_Quota, TV.int IntKind.i64 c_Peers, TV.int IntKind.i64 c_Bytes, TV.int IntKind.i64 c_Window,
 TV.int IntKind.i64 c_Ban, TV.int IntKind.i64 c_Decay])
 (24 : Nat))
 fun (h_1 : Array Obj) ↦
 ∃ (n : Int),
 at1 h_1 (Array.size h) (1 : Nat) (Value.int IntKind.i64 n) ∧
 ∃ (n_1 : Int),
 at1 h_1 (Array.size h) (2 : Nat) (Value.int IntKind.i64 n_1) ∧
 ∃ (s : Sl),
 at1 h_1 (Array.size h) (0 : Nat) (slVal s) ∧
 ∃ (n_2 : Int),
 at1 h_1 (Array.size h) (3 : Nat) (Value.int IntKind.i64 n_2) ∧
 ∃ (n_3 : Int),
 at1 h_1 (Array.size h) (4 : Nat) (Value.int IntKind.i64 n_3) ∧
 ∃ (n_4 : Int),
 at1 h_1 (Array.size h) (5 : Nat) (Value.int IntKind.i64 n_4) ∧
 ∃ (n_5 : Int),
 at1 h_1 (Array.size h) (6 : Nat) (Value.int IntKind.i64 n_5) ∧
 ∃ (n_6 : Int),
 at1 h_1 (Array.size h) (7 : Nat) (Value.int IntKind.i64 n_6) ∧
 ∃ (n_7 : Int),
 at1 h_1 (Array.size h) (8 : Nat) (Value.int IntKind.i64 n_7) ∧
 ∃ (n_8 : Int),
 at1 h_1 (Array.size h) (9 : Nat) (Value.int IntKind.i64 n_8) ∧
 ∃ (n_9 : Int),
 at1 h_1 (Array.size h) (10 : Nat) (Value.int IntKind.i64 n_9) ∧
 ∃ (n_10 : Int),
 at1 h_1 (Array.size h) (11 : Nat) (Value.int IntKind.i64 n_10) ∧
 ∃ (s_1 : Sl),
 at1 h_1 (Array.size h) (0 : Nat) (slVal s_1) ∧
 R (TV.val (TV.slice (Sl.mk (some (Loc.mk (Array.size h_1) (0 : Nat))) (24 : Nat) (24 : Nat))))
 (Array.push h_1
 (row
 (TVs.cells
 [TV.int IntKind.i64 n, TV.int IntKind.i64 (32 : Int), TV.int IntKind.i64 n_1,
 TV.int IntKind.i64 (mn (16 : Int) (↑s.len : Int)), TV.int IntKind.i64 n_2,
 TV.int IntKind.i64 (256 : Int), TV.int IntKind.i64 n_3, TV.int IntKind.i64 (64 : Int),
 TV.int IntKind.i64 n_4, TV.int IntKind.i64 (64 : Int), TV.int IntKind.i64 n_5,
 TV.int IntKind.i64 (64 : Int), TV.int IntKind.i64 n_6, TV.int IntKind.i64 (16 : Int),
 TV.int IntKind.i64 n_7, TV.int IntKind.i64 (256 : Int), TV.int IntKind.i64 n_8,
 TV.int IntKind.i64 (64 : Int), TV.int IntKind.i64 n_9, TV.int IntKind.i64 (1048576 : Int),
 TV.int IntKind.i64 n_10, TV.int IntKind.i64 (1048576 : Int),
 TV.int IntKind.i64 (↑s_1.len : Int), TV.int IntKind.i64 (64 : Int)])
 (3 : Nat)))

theorem tollerref05_Numbers_calls (c_Validators : Sl) (c_Epoch : Int) (c_Committee : Int) (c_Nodes : Int) (c_Orphans : Int) (c_Early : Int) (c_Quota : Int) (c_Peers : Int) (c_Bytes : Int) (c_Window : Int) (c_Ban : Int) (c_Decay : Int) (h : Heap) (R : Value → Heap → Prop) (H : tollerref05_Numbers_vc c_Validators c_Epoch c_Committee c_Nodes c_Orphans c_Early c_Quota c_Peers c_Bytes c_Window c_Ban c_Decay h R) : CallsH Try.prog 41 (TVs.vals [TV.agg [TV.slice c_Validators, TV.int IntKind.i64 c_Epoch, TV.int IntKind.i64 c_Committee, TV.int IntKind.i64 c_Nodes, TV.int IntKind.i64 c_Orphans, TV.int IntKind.i64 c_Early, TV.int IntKind.i64 c_Quota, TV.int IntKind.i64 c_Peers, TV.int IntKind.i64 c_Bytes, TV.int IntKind.i64 c_Window, TV.int IntKind.i64 c_Ban, TV.int IntKind.i64 c_Decay]]) h R :=
 vcFn_sound (C := ctx) ctx_ok (fn := Try.f41) Try.func41 ((by kernel_rfl : tollerref05_Numbers_vc c_Validators c_Epoch c_Committee c_Nodes c_Orphans c_Early c_Quota c_Peers c_Bytes c_Window c_Ban c_Decay h R = vcFn ctx Try.f41 [TV.agg [TV.slice c_Validators, TV.int IntKind.i64 c_Epoch, TV.int IntKind.i64 c_Committee, TV.int IntKind.i64 c_Nodes, TV.int IntKind.i64 c_Orphans, TV.int IntKind.i64 c_Early, TV.int IntKind.i64 c_Quota, TV.int IntKind.i64 c_Peers, TV.int IntKind.i64 c_Bytes, TV.int IntKind.i64 c_Window, TV.int IntKind.i64 c_Ban, TV.int IntKind.i64 c_Decay]] h R) ▸ H)


def tollerref05_Total_vc (l_ : Sl) (h : Heap) (R : Value → Heap → Prop) : Prop :=
 Go.Vc.Loop ((0 : Int), false, (0 : Int), (0 : Int)) h fun (s : Int × Bool × Int × Int) (h : Array Obj) (K : Int × Bool × Int × Int → Array Obj → Prop) ↦
 If (decide (s.snd.snd.snd < (↑l_.len : Int)))
 ((0 : Int) ≤ s.snd.snd.snd ∧
 s.snd.snd.snd < (↑l_.len : Int) ∧
 Nn l_.a fun (l : Go.Vc.Loc) ↦
 ∃ (n : Int),
 ∃ (s_1 : List UInt8),
 (at1 h l.b (l.o + Int.toNat s.snd.snd.snd * (2 : Nat)) (Value.int IntKind.i64 n) ∧
 at1 h l.b (l.o + Int.toNat s.snd.snd.snd * (2 : Nat) + (1 : Nat)) (Value.string (ByteArray.mk (List.toArray s_1)))) ∧
 Vc.Bind (newTV h (TV.agg [TV.int IntKind.i64 (0 : Int), TV.str []]) (59 : Nat)) fun (h_1 : Array Obj) ↦
 wok h_1 (Array.size h) (0 : Nat) (2 : Nat) ∧
 Vc.Bind (TV.put h_1 (Array.size h) (0 : Nat) (TV.agg [TV.int IntKind.i64 n, TV.str s_1])) fun (h_2 : Array Obj) ↦
 ∃ (n : Int),
 at1 h_2 (Array.size h) (0 : Nat) (Value.int IntKind.i64 n) ∧
 If (decide (n < (0 : Int))) (R (TV.val (TV.tup [TV.int IntKind.i64 (0 : Int), TV.bool false])) h_2)
 (∃ (s_2 : List UInt8),
 at1 h_2 (Array.size h) (1 : Nat) (Value.string (ByteArray.mk (List.toArray s_2))) ∧
 If (decide ((↑(List.length s_2) : Int) < (1 : Int))) (R (TV.val (TV.tup [TV.int IntKind.i64 (0 : Int), TV.bool false])) h_2)
 (∃ (s_3 : List UInt8),
 at1 h_2 (Array.size h) (1 : Nat) (Value.string (ByteArray.mk (List.toArray s_3))) ∧
 If (decide ((32 : Int) < (↑(List.length s_3) : Int)))
 (R (TV.val (TV.tup [TV.int IntKind.i64 (0 : Int), TV.bool false])) h_2)
 (∃ (n : Int),
 at1 h_2 (Array.size h) (0 : Nat) (Value.int IntKind.i64 n) ∧
 If (decide ((4611686018427387904 : Int) ≤ IntKind.wrap IntKind.u64 (s.snd.snd.fst + IntKind.wrap IntKind.u64 n)))
 (R (TV.val (TV.tup [TV.int IntKind.i64 (0 : Int), TV.bool false])) h_2)
 (K
 (s.fst, s.snd.fst, IntKind.wrap IntKind.u64 (s.snd.snd.fst + IntKind.wrap IntKind.u64 n),
 IntKind.wrap IntKind.i64 (s.snd.snd.snd + (1 : Int)))
 h_2)))))
 (R (TV.val (TV.tup [TV.int IntKind.i64 (IntKind.wrap IntKind.i64 s.snd.snd.fst), TV.bool true])) h)

theorem tollerref05_Total_calls (l_ : Sl) (h : Heap) (R : Value → Heap → Prop) (H : tollerref05_Total_vc l_ h R) : CallsH Try.prog 42 (TVs.vals [TV.slice l_]) h R :=
 vcFn_sound (C := ctx) ctx_ok (fn := Try.f42) Try.func42 ((by kernel_rfl : tollerref05_Total_vc l_ h R = vcFn ctx Try.f42 [TV.slice l_] h R) ▸ H)


def tollerref05_Great_vc (c_Validators : Sl) (c_Epoch : Int) (c_Committee : Int) (c_Nodes : Int) (c_Orphans : Int) (c_Early : Int) (c_Quota : Int) (c_Peers : Int) (c_Bytes : Int) (c_Window : Int) (c_Ban : Int) (c_Decay : Int) (h : Heap) (R : Value → Heap → Prop) : Prop :=
 Vc.Bind
 (newTV h
 (TV.agg
 [TV.slice c_Validators, TV.int IntKind.i64 c_Epoch, TV.int IntKind.i64 c_Committee, TV.int IntKind.i64 c_Nodes, TV.int IntKind.i64 c_Orphans,
 TV.int IntKind.i64 c_Early, TV.int IntKind.i64 c_Quota, TV.int IntKind.i64 c_Peers, TV.int IntKind.i64 c_Bytes, TV.int IntKind.i64 c_Window,
 TV.int IntKind.i64 c_Ban, TV.int IntKind.i64 c_Decay])
 (24 : Nat))
 fun (h_1 : Array Obj) ↦
 ∃ (s : Sl),
 at1 h_1 (Array.size h) (0 : Nat) (slVal s) ∧
 If (decide ((100 : Int) < (↑s.len : Int))) (R (TV.val (TV.bool true)) h_1)
 (∃ (s : Sl),
 at1 h_1 (Array.size h) (0 : Nat) (slVal s) ∧
 Go.Vc.Loop (false, (0 : Int)) h_1 fun (s_1 : Bool × Int) (h : Array Obj) (K : Bool × Int → Array Obj → Prop) ↦
 If (decide (s_1.snd < (↑s.len : Int)))
 ((0 : Int) ≤ s_1.snd ∧
 s_1.snd < (↑s.len : Int) ∧
 Nn s.a fun (l : Go.Vc.Loc) ↦
 ∃ (n : Int),
 ∃ (s : List UInt8),
 (at1 h l.b (l.o + Int.toNat s_1.snd * (2 : Nat)) (Value.int IntKind.i64 n) ∧
 at1 h l.b (l.o + Int.toNat s_1.snd * (2 : Nat) + (1 : Nat)) (Value.string (ByteArray.mk (List.toArray s)))) ∧
 Vc.Bind (newTV h (TV.agg [TV.int IntKind.i64 (0 : Int), TV.str []]) (59 : Nat)) fun (h_2 : Array Obj) ↦
 wok h_2 (Array.size h) (0 : Nat) (2 : Nat) ∧
 Vc.Bind (TV.put h_2 (Array.size h) (0 : Nat) (TV.agg [TV.int IntKind.i64 n, TV.str s])) fun (h_3 : Array Obj) ↦
 ∃ (s : List UInt8),
 at1 h_3 (Array.size h) (1 : Nat) (Value.string (ByteArray.mk (List.toArray s))) ∧
 If (decide ((200 : Int) < (↑(List.length s) : Int))) (R (TV.val (TV.bool true)) h_3)
 (K (s_1.fst, IntKind.wrap IntKind.i64 (s_1.snd + (1 : Int))) h_3))
 (R (TV.val (TV.bool false)) h))

theorem tollerref05_Great_calls (c_Validators : Sl) (c_Epoch : Int) (c_Committee : Int) (c_Nodes : Int) (c_Orphans : Int) (c_Early : Int) (c_Quota : Int) (c_Peers : Int) (c_Bytes : Int) (c_Window : Int) (c_Ban : Int) (c_Decay : Int) (h : Heap) (R : Value → Heap → Prop) (H : tollerref05_Great_vc c_Validators c_Epoch c_Committee c_Nodes c_Orphans c_Early c_Quota c_Peers c_Bytes c_Window c_Ban c_Decay h R) : CallsH Try.prog 24 (TVs.vals [TV.agg [TV.slice c_Validators, TV.int IntKind.i64 c_Epoch, TV.int IntKind.i64 c_Committee, TV.int IntKind.i64 c_Nodes, TV.int IntKind.i64 c_Orphans, TV.int IntKind.i64 c_Early, TV.int IntKind.i64 c_Quota, TV.int IntKind.i64 c_Peers, TV.int IntKind.i64 c_Bytes, TV.int IntKind.i64 c_Window, TV.int IntKind.i64 c_Ban, TV.int IntKind.i64 c_Decay]]) h R :=
 vcFn_sound (C := ctx) ctx_ok (fn := Try.f24) Try.func24 ((by kernel_rfl : tollerref05_Great_vc c_Validators c_Epoch c_Committee c_Nodes c_Orphans c_Early c_Quota c_Peers c_Bytes c_Window c_Ban c_Decay h R = vcFn ctx Try.f24 [TV.agg [TV.slice c_Validators, TV.int IntKind.i64 c_Epoch, TV.int IntKind.i64 c_Committee, TV.int IntKind.i64 c_Nodes, TV.int IntKind.i64 c_Orphans, TV.int IntKind.i64 c_Early, TV.int IntKind.i64 c_Quota, TV.int IntKind.i64 c_Peers, TV.int IntKind.i64 c_Bytes, TV.int IntKind.i64 c_Window, TV.int IntKind.i64 c_Ban, TV.int IntKind.i64 c_Decay]] h R) ▸ H)


def tollerref05_Good_vc (c_Validators : Sl) (c_Epoch : Int) (c_Committee : Int) (c_Nodes : Int) (c_Orphans : Int) (c_Early : Int) (c_Quota : Int) (c_Peers : Int) (c_Bytes : Int) (c_Window : Int) (c_Ban : Int) (c_Decay : Int) (h : Heap) (R : Value → Heap → Prop) : Prop :=
 Vc.Bind
 (newTV h
 (TV.agg
 [TV.slice c_Validators, TV.int IntKind.i64 c_Epoch, TV.int IntKind.i64 c_Committee, TV.int IntKind.i64 c_Nodes, TV.int IntKind.i64 c_Orphans,
 TV.int IntKind.i64 c_Early, TV.int IntKind.i64 c_Quota, TV.int IntKind.i64 c_Peers, TV.int IntKind.i64 c_Bytes, TV.int IntKind.i64 c_Window,
 TV.int IntKind.i64 c_Ban, TV.int IntKind.i64 c_Decay])
 (24 : Nat))
 fun (h_1 : Array Obj) ↦
 ∃ (s : Sl),
 ∃ (n : Int),
 ∃ (n_1 : Int),
 ∃ (n_2 : Int),
 ∃ (n_3 : Int),
 ∃ (n_4 : Int),
 ∃ (n_5 : Int),
 ∃ (n_6 : Int),
 ∃ (n_7 : Int),
 ∃ (n_8 : Int),
 ∃ (n_9 : Int),
 ∃ (n_10 : Int),
 (at1 h_1 (Array.size h) (0 : Nat) (slVal s) ∧
 at1 h_1 (Array.size h) (1 : Nat) (Value.int IntKind.i64 n) ∧
 at1 h_1 (Array.size h) (2 : Nat) (Value.int IntKind.i64 n_1) ∧
 at1 h_1 (Array.size h) (3 : Nat) (Value.int IntKind.i64 n_2) ∧
 at1 h_1 (Array.size h) (4 : Nat) (Value.int IntKind.i64 n_3) ∧
 at1 h_1 (Array.size h) (5 : Nat) (Value.int IntKind.i64 n_4) ∧
 at1 h_1 (Array.size h) (6 : Nat) (Value.int IntKind.i64 n_5) ∧
 at1 h_1 (Array.size h) (7 : Nat) (Value.int IntKind.i64 n_6) ∧
 at1 h_1 (Array.size h) (8 : Nat) (Value.int IntKind.i64 n_7) ∧
 at1 h_1 (Array.size h) (9 : Nat) (Value.int IntKind.i64 n_8) ∧
 at1 h_1 (Array.size h) (10 : Nat) (Value.int IntKind.i64 n_9) ∧
 at1 h_1 (Array.size h) (11 : Nat) (Value.int IntKind.i64 n_10)) ∧
 CallsH Try.prog (41 : Nat)
 (TVs.vals
 [TV.agg
 [TV.slice s, TV.int IntKind.i64 n, TV.int IntKind.i64 n_1, TV.int IntKind.i64 n_2, TV.int IntKind.i64 n_3,
 TV.int IntKind.i64 n_4, TV.int IntKind.i64 n_5, TV.int IntKind.i64 n_6, TV.int IntKind.i64 n_7, TV.int IntKind.i64 n_8,
 TV.int IntKind.i64 n_9, TV.int IntKind.i64 n_10]])
 h_1 fun (v : Value) (h_2 : Array Obj) ↦
 ∃ (s_1 : Sl),
 v = TV.val (TV.slice s_1) ∧
 Go.Vc.Loop (false, (0 : Int)) h_2 fun (s_2 : Bool × Int) (h_3 : Array Obj) (K : Bool × Int → Array Obj → Prop) ↦
 If (decide (s_2.snd < (↑s_1.len : Int)))
 ((0 : Int) ≤ s_2.snd ∧
 s_2.snd < (↑s_1.len : Int) ∧
 Nn s_1.a fun (l : Go.Vc.Loc) ↦
 ∃ (n_11 : Int),
 at1 h_3 l.b (l.o + Int.toNat s_2.snd * (1 : Nat)) (Value.int IntKind.i64 n_11) ∧
 If (decide (n_11 < (1 : Int))) (R (TV.val (TV.bool false)) h_3)
 ((0 : Int) ≤ s_2.snd ∧
 s_2.snd < (↑s_1.len : Int) ∧
 Nn s_1.a fun (l : Go.Vc.Loc) ↦
 ∃ (n_12 : Int),
 at1 h_3 l.b (l.o + Int.toNat s_2.snd * (1 : Nat)) (Value.int IntKind.i64 n_12) ∧
 (0 : Int) ≤ IntKind.wrap IntKind.i64 (s_2.snd + (1 : Int)) ∧
 IntKind.wrap IntKind.i64 (s_2.snd + (1 : Int)) < (↑s_1.len : Int) ∧
 Nn s_1.a fun (l : Go.Vc.Loc) ↦
 ∃ (n_13 : Int),
 at1 h_3 l.b (l.o + Int.toNat (IntKind.wrap IntKind.i64 (s_2.snd + (1 : Int))) * (1 : Nat))
 (Value.int IntKind.i64 n_13) ∧
 If (decide (n_13 < n_12)) (R (TV.val (TV.bool false)) h_3)
 (K (s_2.fst, IntKind.wrap IntKind.i64 (s_2.snd + (2 : Int))) h_3)))
 (∃ (s : Sl),
 at1 h_3 (Array.size h) (0 : Nat) (slVal s) ∧
 CallsH Try.prog (42 : Nat) (TVs.vals [TV.slice s]) h_3 fun (v : Value) (h : Array Obj) ↦
 ∃ (n : Int), ∃ (b : Bool), v = TV.val (TV.tup [TV.int IntKind.i64 n, TV.bool b]) ∧ R (TV.val (TV.bool b)) h)

theorem tollerref05_Good_calls (c_Validators : Sl) (c_Epoch : Int) (c_Committee : Int) (c_Nodes : Int) (c_Orphans : Int) (c_Early : Int) (c_Quota : Int) (c_Peers : Int) (c_Bytes : Int) (c_Window : Int) (c_Ban : Int) (c_Decay : Int) (h : Heap) (R : Value → Heap → Prop) (H : tollerref05_Good_vc c_Validators c_Epoch c_Committee c_Nodes c_Orphans c_Early c_Quota c_Peers c_Bytes c_Window c_Ban c_Decay h R) : CallsH Try.prog 25 (TVs.vals [TV.agg [TV.slice c_Validators, TV.int IntKind.i64 c_Epoch, TV.int IntKind.i64 c_Committee, TV.int IntKind.i64 c_Nodes, TV.int IntKind.i64 c_Orphans, TV.int IntKind.i64 c_Early, TV.int IntKind.i64 c_Quota, TV.int IntKind.i64 c_Peers, TV.int IntKind.i64 c_Bytes, TV.int IntKind.i64 c_Window, TV.int IntKind.i64 c_Ban, TV.int IntKind.i64 c_Decay]]) h R :=
 vcFn_sound (C := ctx) ctx_ok (fn := Try.f25) Try.func25 ((by kernel_rfl : tollerref05_Good_vc c_Validators c_Epoch c_Committee c_Nodes c_Orphans c_Early c_Quota c_Peers c_Bytes c_Window c_Ban c_Decay h R = vcFn ctx Try.f25 [TV.agg [TV.slice c_Validators, TV.int IntKind.i64 c_Epoch, TV.int IntKind.i64 c_Committee, TV.int IntKind.i64 c_Nodes, TV.int IntKind.i64 c_Orphans, TV.int IntKind.i64 c_Early, TV.int IntKind.i64 c_Quota, TV.int IntKind.i64 c_Peers, TV.int IntKind.i64 c_Bytes, TV.int IntKind.i64 c_Window, TV.int IntKind.i64 c_Ban, TV.int IntKind.i64 c_Decay]] h R) ▸ H)


end Go.Proofs.Ytgdhddignbkloaa
end

section
/- Place, Proposer, Pick, Same; whether a configuration can be. -/
namespace Go.Proofs.Ytgdhddignbkloaa.Board
open Go Go.Vc

structure Vd where
  stake : Int
  key : List UInt8
instance : Inhabited Vd := ⟨⟨0, []⟩⟩
def Vd.tv (v : Vd) : TV := .agg [.int .i64 v.stake, .str v.key]
theorem Vd.size (v : Vd) : v.tv.size = 2 := by simp only [Vd.tv, TV.size, TVs.size]
abbrev vds (l : List Vd) : List TV := l.map Vd.tv
abbrev bools (l : List Bool) : List TV := l.map TV.bool

/-- Where a number stands in a row. -/
def idx : List Int → Int → Int → Int
  | [], _, _ => -1
  | x :: xs, v, i => if v = x then i else idx xs v (i + 1)

def firstOf : List Int → Int
  | [] => -1
  | x :: _ => x

/-- Of whom a row says yes. -/
def pk : List Int → List Bool → List Int
  | x :: xs, b :: bs => if b = true then x :: pk xs bs else pk xs bs
  | _, _ => []

theorem pk_snoc : ∀ (xs : List Int) (bs : List Bool) (x : Int) (b : Bool), xs.length = bs.length → pk (xs ++ [x]) (bs ++ [b]) = pk xs bs ++ (if b = true then [x] else [])
  | [], [], x, b, _ => by cases b <;> simp [pk]
  | [], _ :: _, _, _, h => by cases h
  | _ :: _, [], _, _, h => by cases h
  | y :: ys, c :: cs, x, b, h => by
    have ih := pk_snoc ys cs x b (by simpa using h)
    simp only [List.cons_append, pk]
    rw [ih]
    cases c <;> simp

section
variable {R : Value → Heap → Prop} {h : Heap} {c : Cf}

theorem read_int {s : Sl} {l : List Int} {i : Int} (e : Elems 1 h s (ints l)) (i0 : 0 ≤ i) (i1 : i < l.length) {K : Int → Prop} (hk : ∀ x, l[i.toNat]? = some x → K x) :
    0 ≤ i ∧ i < (s.len : Int) ∧ Nn s.a fun (p : Vc.Loc) => ∃ (n : Int), at1 h p.b (p.o + i.toNat * 1) (.int .i64 n) ∧ K n := by
  have hl := e.len
  rw [List.length_map] at hl
  refine e.read i0 (by omega) fun p t hla ht ha => ?_
  rw [List.getElem?_map] at ht
  obtain ⟨x, hx, rfl⟩ := Option.map_eq_some_iff.1 ht
  exact ⟨x, ha, hk x hx⟩

theorem read_bool {s : Sl} {l : List Bool} {i : Int} (e : Elems 1 h s (bools l)) (i0 : 0 ≤ i) (i1 : i < l.length) {K : Bool → Prop} (hk : ∀ x, l[i.toNat]? = some x → K x) :
    0 ≤ i ∧ i < (s.len : Int) ∧ Nn s.a fun (p : Vc.Loc) => ∃ (n : Bool), at1 h p.b (p.o + i.toNat * 1) (.bool n) ∧ K n := by
  have hl := e.len
  rw [List.length_map] at hl
  refine e.read i0 (by omega) fun p t hla ht ha => ?_
  rw [List.getElem?_map] at ht
  obtain ⟨x, hx, rfl⟩ := Option.map_eq_some_iff.1 ht
  exact ⟨x, ha, hk x hx⟩

theorem ints_len {s : Sl} {l : List Int} (e : Elems 1 h s (ints l)) : l.length = s.len := by have := e.len; rwa [List.length_map] at this

theorem drop_get {α : Type} {l : List α} {i : Nat} {x : α} (h : l[i]? = some x) : l.drop i = x :: l.drop (i + 1) := by
  obtain ⟨hi, rfl⟩ := List.getElem?_eq_some_iff.1 h
  exact List.drop_eq_getElem_cons hi

theorem same_spec {s t : Sl} {l m : List Int} (e : Elems 1 h s (ints l)) (k : Elems 1 h t (ints m)) (hl : l.length < 100000) (hr : R (TV.bool (decide (l = m))).val h) : CallsH Try.prog 15 (TVs.vals [.slice s, .slice t]) h R := by
  apply tollerref06_Same_calls
  unfold tollerref06_Same_vc
  have el := ints_len e
  have kl := ints_len k
  have no : l ≠ m → R (TV.val (TV.bool false)) h := fun hn => by rw [decide_eq_false hn] at hr; exact hr
  refine If.split (fun hb => ?_) fun hb => ?_
  · exact no fun hlm => by subst hlm; simp at hb; omega
  · have hlen : s.len = t.len := by simp at hb; omega
    refine ⟨fun σ hh => 0 ≤ σ.2 ∧ σ.2 ≤ s.len ∧ hh = h ∧ l.take σ.2.toNat = m.take σ.2.toNat, fun σ _ => ((s.len : Int) - σ.2).toNat, ⟨Int.le_refl 0, by first | omega | (dsimp only; omega), rfl, rfl⟩, ?_⟩
    rintro ⟨f, i⟩ hh ⟨i0, i1, rfl, ht⟩
    dsimp only at i0 i1 ht ⊢
    refine If.dec.2 ⟨fun hi => ?_, fun hi => ?_⟩
    · refine read_int e i0 (by omega) fun x hx => read_int k i0 (by omega) fun y hy => ?_
      refine If.split (fun hb => ?_) fun hb => ?_
      · refine no fun hlm => ?_
        subst hlm
        rw [hx] at hy
        injection hy with hy
        subst hy
        simp at hb
      · have hxy : x = y := by simpa using hb
        rw [wrap_i64 (n := i + 1) (by omega) (by omega)]
        have hi1 : (i + 1).toNat = i.toNat + 1 := by omega
        refine ⟨⟨by first | omega | (dsimp only; omega), by first | omega | (dsimp only; omega), rfl, ?_⟩, by first | omega | (dsimp only; omega)⟩
        try dsimp only
        rw [hi1, take_snoc hx, take_snoc hy, ht, hxy]
    · have hi2 : i.toNat = l.length := by omega
      have hi3 : l.length = m.length := by omega
      rw [hi2, List.take_length, hi3, List.take_length] at ht
      rw [decide_eq_true ht] at hr
      exact hr

theorem index_spec {s : Sl} {l : List Int} {v : Int} (e : Elems 1 h s (ints l)) (hl : l.length < 100000) (hr : R (TV.int .i64 (idx l v 0)).val h) : CallsH Try.prog 52 (TVs.vals [.slice s, .int .i64 v]) h R := by
  apply slices_Index___int_int__calls
  unfold slices_Index___int_int__vc
  have el := ints_len e
  refine ⟨fun σ hh => 0 ≤ σ.2 ∧ σ.2 ≤ s.len ∧ hh = h ∧ idx l v 0 = idx (l.drop σ.2.toNat) v σ.2, fun σ _ => ((s.len : Int) - σ.2).toNat, ⟨Int.le_refl 0, by first | omega | (dsimp only; omega), rfl, rfl⟩, ?_⟩
  rintro ⟨f, i⟩ hh ⟨i0, i1, rfl, ht⟩
  dsimp only at i0 i1 ht ⊢
  refine If.dec.2 ⟨fun hi => ?_, fun hi => ?_⟩
  · refine read_int e i0 (by omega) fun x hx => ?_
    rw [drop_get hx, idx] at ht
    refine If.dec.2 ⟨fun hv => ?_, fun hv => ?_⟩
    · rw [if_pos hv] at ht
      rw [ht] at hr
      exact hr
    · rw [if_neg hv] at ht
      rw [wrap_i64 (n := i + 1) (by omega) (by omega)]
      have hi1 : (i + 1).toNat = i.toNat + 1 := by omega
      refine ⟨⟨by first | omega | (dsimp only; omega), by first | omega | (dsimp only; omega), rfl, ?_⟩, by first | omega | (dsimp only; omega)⟩
      try dsimp only
      rw [hi1]
      exact ht
  · have hi2 : l.drop i.toNat = [] := List.drop_eq_nil_of_le (by omega)
    rw [hi2, idx] at ht
    rw [ht] at hr
    exact hr

/-- A configuration's fields are read. -/
theorem mem_length (n : Nat) (com slot : Int) : (mem n com slot).length ≤ n := by
  unfold mem
  split
  · exact Nat.zero_le _
  · rw [List.length_map, List.length_take, sorted_length]
    omega

theorem place_spec {slot who : Int} (hv : c.vals.len < 900) (hr : ∀ h', Ext h h' → R (TV.int .i64 (idx (mem c.vals.len c.com slot) who 0)).val h') : CallsH Try.prog 33 (TVs.vals [c.tv, .int .i64 slot, .int .i64 who]) h R := by
  apply board_Place_calls c.vals c.ep c.com c.no c.orp c.ear c.quo c.pe c.by_ c.win c.ban c.dec slot who
  unfold board_Place_vc
  refine newTV_in fun h1 v1 x1 s1 => ?_
  refine ⟨c.vals, c.ep, c.com, c.no, c.orp, c.ear, c.quo, c.pe, c.by_, c.win, c.ban, c.dec, v1.at, ?_⟩
  refine members_spec (c := c) hv fun h2 s2 o2 x2 _ => ⟨_, rfl, ?_⟩
  have := mem_length c.vals.len c.com slot
  exact index_spec o2.elems (by omega) ⟨_, rfl, hr h2 (x1.trans x2)⟩

theorem proposer_spec {slot : Int} (hv : c.vals.len < 900) (hr : ∀ h', Ext h h' → R (TV.int .i64 (firstOf (mem c.vals.len c.com slot))).val h') : CallsH Try.prog 32 (TVs.vals [c.tv, .int .i64 slot]) h R := by
  apply board_Proposer_calls c.vals c.ep c.com c.no c.orp c.ear c.quo c.pe c.by_ c.win c.ban c.dec slot
  unfold board_Proposer_vc
  refine newTV_in fun h1 v1 x1 s1 => ?_
  refine ⟨c.vals, c.ep, c.com, c.no, c.orp, c.ear, c.quo, c.pe, c.by_, c.win, c.ban, c.dec, v1.at, ?_⟩
  refine members_spec (c := c) hv fun h2 s2 o2 x2 _ => ⟨_, rfl, ?_⟩
  have hr2 := hr h2 (x1.trans x2)
  have el := ints_len o2.elems
  generalize mem c.vals.len c.com slot = l at *
  refine If.dec.2 ⟨fun hi => read_int o2.elems (Int.le_refl 0) (by omega) fun x hx => ?_, fun hi => ?_⟩
  · cases l with
    | nil => cases hx
    | cons y ys =>
      injection hx with hx
      subst hx
      exact hr2
  · have : l = [] := List.eq_nil_of_length_eq_zero (by omega)
    subst this
    exact hr2

theorem pick_spec {slot : Int} {bits : Sl} {row : List Bool} (hv : c.vals.len < 900) (e : Elems 1 h bits (bools row))
    (hn : ∀ h', Ext h h' → (mem c.vals.len c.com slot = [] ∨ row.length ≠ (mem c.vals.len c.com slot).length) → R (TV.tup [.slice Sl.nil, .bool false]).val h')
    (hy : ∀ h' s', Own 3 1 h' s' (ints (pk (mem c.vals.len c.com slot) row)) → Ext h h' → mem c.vals.len c.com slot ≠ [] → row.length = (mem c.vals.len c.com slot).length → R (TV.tup [.slice s', .bool true]).val h') :
    CallsH Try.prog 31 (TVs.vals [c.tv, .int .i64 slot, .slice bits]) h R := by
  apply board_Pick_calls c.vals c.ep c.com c.no c.orp c.ear c.quo c.pe c.by_ c.win c.ban c.dec slot bits
  unfold board_Pick_vc
  refine newTV_in fun h1 v1 x1 s1 => ?_
  refine ⟨c.vals, c.ep, c.com, c.no, c.orp, c.ear, c.quo, c.pe, c.by_, c.win, c.ban, c.dec, v1.at, ?_⟩
  refine members_spec (c := c) hv fun h2 s2 o2 x2 _ => ⟨_, rfl, ?_⟩
  have x02 := x1.trans x2
  have el := ints_len o2.elems
  have ml := mem_length c.vals.len c.com slot
  generalize mem c.vals.len c.com slot = l at *
  have bl : row.length = bits.len := by have := e.len; rwa [List.length_map] at this
  intro J hJ
  refine If.dec.2 ⟨fun h0 => hn h2 x02 (.inl (List.eq_nil_of_length_eq_zero (by omega))), fun h0 => If.split (fun hb => ?_) fun hb => ?_⟩
  · refine hn h2 x02 (.inr fun hx => ?_)
    rw [bl, el] at hx
    simp [hx] at hb
  · have hbl : bits.len = s2.len := by
      have : ((bits.len : Nat) : Int) = ((s2.len : Nat) : Int) := by simpa using hb
      omega
    refine hJ _ _ ?_
    refine ⟨fun σ hh => 0 ≤ σ.2 ∧ σ.2 ≤ s2.len ∧ Own 3 1 hh σ.1 (ints (pk (l.take σ.2.toNat) (row.take σ.2.toNat))) ∧ (∀ p, σ.1.a = some p → h2.size ≤ p.b) ∧ Ext h2 hh ∧ σ.1.len ≤ σ.2.toNat, fun σ _ => ((s2.len : Int) - σ.2).toNat,
      ⟨Int.le_refl 0, by first | omega | (dsimp only; omega), Own.nil _ _ _, (fun p hp => by cases hp), Ext.refl _, Nat.zero_le _⟩, ?_⟩
    rintro ⟨t, i⟩ h3 ⟨i0, i1, o3, b3, x3, tl⟩
    dsimp only at i0 i1 o3 b3 tl ⊢
    refine If.dec.2 ⟨fun hi => ?_, fun hi => ?_⟩
    · refine read_int (o2.elems.ext x3) i0 (by omega) fun x hx => read_bool ((e.ext x02).ext x3) i0 (by omega) fun b hb2 => ?_
      have hi1 : (i + 1).toNat = i.toNat + 1 := by omega
      have hpk := pk_snoc (l.take i.toNat) (row.take i.toNat) x b (by rw [List.length_take, List.length_take]; omega)
      rw [← take_snoc hx, ← take_snoc hb2] at hpk
      rw [wrap_i64 (n := i + 1) (by omega) (by omega)]
      have z3 := x3.size
      cases b with
      | false =>
        refine If.no ⟨⟨by first | omega | (dsimp only; omega), by first | omega | (dsimp only; omega), ?_, b3, x3, by first | omega | (dsimp only; omega)⟩, by first | omega | (dsimp only; omega)⟩
        try dsimp only
        rw [hi1, hpk]
        simpa using o3
      | true =>
        have hlen := o3.len
        rw [List.length_map] at hlen
        refine If.yes (append1 (C := ctx) (T := 3) (sz := 1) (x := .int .i64 x) size3 zsize3 (by rw [bytes3]; decide) (by rw [bytes3]; omega) o3 rfl rfl fun s4 h4 o4 f4 b4 => ?_)
        have hlen4 := o4.len
        rw [List.length_append, List.length_map, List.length_singleton] at hlen4
        refine ⟨⟨by first | omega | (dsimp only; omega), by first | omega | (dsimp only; omega), ?_, fun p hp => ?_, ?_, by first | omega | (dsimp only; omega)⟩, by first | omega | (dsimp only; omega)⟩
        · try dsimp only
          rw [hi1, hpk]
          simp only [ints, if_true, List.map_append, List.map_cons, List.map_nil] at o4 ⊢
          exact o4
        · rcases b4 p hp with ⟨l', h9, h10⟩ | h9
          · rw [← h10]; exact b3 l' h9
          · omega
        · refine Only.cut x3 f4 fun j ⟨p, hp, ej⟩ => ?_
          rw [← ej]; exact b3 p hp
    · have hi2 : i.toNat = l.length := by omega
      have hi3 : row.length = l.length := by omega
      rw [hi2, List.take_length, ← hi3, List.take_length] at o3
      exact hy h3 t o3 (x02.trans x3) (fun hx => by subst hx; simp at el; omega) hi3

/-! ### Whether a configuration can be -/

theorem read_vd {s : Sl} {l : List Vd} {i : Int} (e : Elems 2 h s (vds l)) (i0 : 0 ≤ i) (i1 : i < l.length) {K : Int → List UInt8 → Prop} (hk : ∀ x, l[i.toNat]? = some x → K x.stake x.key) :
    0 ≤ i ∧ i < (s.len : Int) ∧ Nn s.a fun (p : Vc.Loc) => ∃ (n : Int), ∃ (k : List UInt8), (at1 h p.b (p.o + i.toNat * 2) (.int .i64 n) ∧ at1 h p.b (p.o + i.toNat * 2 + 1) (.string (ByteArray.mk k.toArray))) ∧ K n k := by
  have hl := e.len
  rw [List.length_map] at hl
  refine e.read i0 (by omega) fun p t hla ht ha => ?_
  rw [List.getElem?_map] at ht
  obtain ⟨x, hx, rfl⟩ := Option.map_eq_some_iff.1 ht
  exact ⟨x.stake, x.key, ha, hk x hx⟩

theorem great_spec {L : List Vd} (e : Elems 2 h c.vals (vds L)) (hy : ∀ h', Ext h h' → R (TV.bool true).val h') (hn : ∀ h', Ext h h' → c.vals.len ≤ 100 → R (TV.bool false).val h') : CallsH Try.prog 24 (TVs.vals [c.tv]) h R := by
  apply tollerref05_Great_calls c.vals c.ep c.com c.no c.orp c.ear c.quo c.pe c.by_ c.win c.ban c.dec
  unfold tollerref05_Great_vc
  refine newTV_in fun h1 v1 x1 s1 => ⟨c.vals, v1.at1 rfl, If.dec.2 ⟨fun hb => hy h1 x1, fun hb => ⟨c.vals, v1.at1 rfl, ?_⟩⟩⟩
  have el : L.length = c.vals.len := by have := e.len; rwa [List.length_map] at this
  refine ⟨fun σ hh => 0 ≤ σ.2 ∧ σ.2 ≤ c.vals.len ∧ Ext h hh, fun σ _ => ((c.vals.len : Int) - σ.2).toNat, ⟨Int.le_refl 0, by first | omega | (dsimp only; omega), x1⟩, ?_⟩
  rintro ⟨f, i⟩ h2 ⟨i0, i1, x2⟩
  dsimp only at i0 i1 ⊢
  refine If.dec.2 ⟨fun hi => ?_, fun hi => hn h2 x2 (by omega)⟩
  refine read_vd (e.ext x2) i0 (by omega) fun x hx => newTV_in fun h3 v3 x3 s3 => put_in v3 (t := x.tv) rfl fun h4 v4 o4 s4 => ?_
  have x4 : Ext h h4 := x2.trans (Only.cut x3 o4 fun i hi => by omega)
  refine ⟨x.key, v4.at1 rfl, If.dec.2 ⟨fun _ => hy h4 x4, fun _ => ?_⟩⟩
  rw [wrap_i64 (n := i + 1) (by omega) (by omega)]
  exact ⟨⟨by first | omega | (dsimp only; omega), by first | omega | (dsimp only; omega), x4⟩, by first | omega | (dsimp only; omega)⟩

theorem total_spec {s : Sl} {L : List Vd} (e : Elems 2 h s (vds L)) (hl : s.len < 100000) (hr : ∀ h' n b, Ext h h' → R (TV.tup [.int .i64 n, .bool b]).val h') : CallsH Try.prog 42 (TVs.vals [.slice s]) h R := by
  apply tollerref05_Total_calls
  unfold tollerref05_Total_vc
  have el : L.length = s.len := by have := e.len; rwa [List.length_map] at this
  refine ⟨fun σ hh => 0 ≤ σ.2.2.2 ∧ σ.2.2.2 ≤ s.len ∧ Ext h hh, fun σ _ => ((s.len : Int) - σ.2.2.2).toNat, ⟨Int.le_refl 0, by first | omega | (dsimp only; omega), Ext.refl _⟩, ?_⟩
  rintro ⟨a1, a2, a3, i⟩ h2 ⟨i0, i1, x2⟩
  dsimp only at i0 i1 ⊢
  refine If.dec.2 ⟨fun hi => ?_, fun hi => hr h2 _ _ x2⟩
  refine read_vd (e.ext x2) i0 (by omega) fun x hx => newTV_in fun h3 v3 x3 s3 => put_in v3 (t := x.tv) rfl fun h4 v4 o4 s4 => ?_
  have x4 : Ext h h4 := x2.trans (Only.cut x3 o4 fun i hi => by omega)
  refine ⟨x.stake, v4.at1 rfl, If.dec.2 ⟨fun _ => hr h4 _ _ x4, fun _ => ⟨x.key, v4.at1 rfl, If.dec.2 ⟨fun _ => hr h4 _ _ x4, fun _ => ⟨x.key, v4.at1 rfl, If.dec.2 ⟨fun _ => hr h4 _ _ x4, fun _ => ⟨x.stake, v4.at1 rfl, If.dec.2 ⟨fun _ => hr h4 _ _ x4, fun _ => ?_⟩⟩⟩⟩⟩⟩⟩⟩
  rw [wrap_i64 (n := i + 1) (by omega) (by omega)]
  exact ⟨⟨by first | omega | (dsimp only; omega), by first | omega | (dsimp only; omega), x4⟩, by first | omega | (dsimp only; omega)⟩

/-- The configuration's numbers, each with what it is at most. -/
def nums (c : Cf) : List Int := [c.ep, 32, c.com, mn 16 (c.vals.len : Int), c.no, 256, c.orp, 64, c.ear, 64, c.quo, 64, c.pe, 16, c.by_, 256, c.win, 64, c.ban, 1048576, c.dec, 1048576, (c.vals.len : Int), 64]

theorem numbers_spec (hr : ∀ h' s, Elems 1 h' s (ints (nums c)) → Ext h h' → R (TV.slice s).val h') : CallsH Try.prog 41 (TVs.vals [c.tv]) h R := by
  apply tollerref05_Numbers_calls c.vals c.ep c.com c.no c.orp c.ear c.quo c.pe c.by_ c.win c.ban c.dec
  unfold tollerref05_Numbers_vc
  refine newTV_in fun h1 v1 x1 s1 => ?_
  refine ⟨c.ep, v1.at1 rfl, c.com, v1.at1 rfl, c.vals, v1.at1 rfl, c.no, v1.at1 rfl, c.orp, v1.at1 rfl, c.ear, v1.at1 rfl, c.quo, v1.at1 rfl, c.pe, v1.at1 rfl, c.by_, v1.at1 rfl, c.win, v1.at1 rfl, c.ban, v1.at1 rfl, c.dec, v1.at1 rfl, c.vals, v1.at1 rfl, ?_⟩
  have o := Own.new (T := 3) (sz := 1) h1 (ints (nums c)) (fun t ht => by
    obtain ⟨x, _, rfl⟩ := List.mem_map.1 ht
    rfl)
  exact hr _ _ o.elems (x1.trans (Ext.push _ _))

/-- What of a configuration that can be is of use here. -/
structure Fine (c : Cf) : Prop where
  com1 : 1 ≤ c.com
  com2 : c.com ≤ c.vals.len
  com3 : c.com ≤ 16
  len : c.vals.len ≤ 64

theorem good_spec {L : List Vd} (e : Elems 2 h c.vals (vds L)) (hv : c.vals.len ≤ 100) (hn : ∀ h', Ext h h' → R (TV.bool false).val h') (hy : ∀ h', Ext h h' → Fine c → R (TV.bool true).val h') : CallsH Try.prog 25 (TVs.vals [c.tv]) h R := by
  apply tollerref05_Good_calls c.vals c.ep c.com c.no c.orp c.ear c.quo c.pe c.by_ c.win c.ban c.dec
  unfold tollerref05_Good_vc
  refine newTV_in fun h1 v1 x1 s1 => ?_
  refine ⟨c.vals, c.ep, c.com, c.no, c.orp, c.ear, c.quo, c.pe, c.by_, c.win, c.ban, c.dec, v1.at, ?_⟩
  refine numbers_spec (c := c) fun h2 s2 e2 x2 => ⟨_, rfl, ?_⟩
  have x02 := x1.trans x2
  have el := ints_len e2
  have hl24 : (nums c).length = 24 := rfl
  refine ⟨fun σ hh => 0 ≤ σ.2 ∧ σ.2 ≤ 24 ∧ σ.2 % 2 = 0 ∧ hh = h2 ∧ (∀ j : Nat, j < σ.2.toNat → j % 2 = 0 → ∀ x y, (nums c)[j]? = some x → (nums c)[j + 1]? = some y → 1 ≤ x ∧ x ≤ y), fun σ _ => ((24 : Int) - σ.2).toNat,
    ⟨Int.le_refl 0, by decide, by decide, rfl, fun j hj => by simp at hj⟩, ?_⟩
  rintro ⟨f, i⟩ hh ⟨i0, i1, i2, rfl, hall⟩
  dsimp only at i0 i1 i2 hall ⊢
  refine If.dec.2 ⟨fun hi => ?_, fun hi => ?_⟩
  · refine read_int e2 i0 (by omega) fun x hx => If.dec.2 ⟨fun _ => hn _ x02, fun hx1 => ?_⟩
    rw [wrap_i64 (n := i + 1) (by omega) (by omega), wrap_i64 (n := i + 2) (by omega) (by omega)]
    refine read_int e2 i0 (by omega) fun x' hx' => read_int e2 (i := i + 1) (by omega) (by omega) fun y hy' => If.dec.2 ⟨fun _ => hn _ x02, fun hxy => ?_⟩
    rw [hx] at hx'
    injection hx' with hx'
    subst hx'
    refine ⟨⟨by first | omega | (dsimp only; omega), by first | omega | (dsimp only; omega), by first | omega | (dsimp only; omega), rfl, fun j hj h2' => ?_⟩, by first | omega | (dsimp only; omega)⟩
    try dsimp only at hj
    by_cases hji : j < i.toNat
    · exact hall j hji h2'
    · have hj2 : j = i.toNat := by omega
      subst hj2
      intro a b ha hb
      rw [hx] at ha
      injection ha with ha
      have hi1 : (i + 1).toNat = i.toNat + 1 := by omega
      rw [hi1] at hy'
      rw [hy'] at hb
      injection hb with hb
      omega
  · refine ⟨c.vals, (v1.ext x2).at1 rfl, total_spec (e.ext x02) (by omega) fun h3 n b x3 => ⟨n, b, rfl, ?_⟩⟩
    have hi3 : i.toNat = 24 := by omega
    rw [hi3] at hall
    have h2 := hall 2 (by decide) (by decide) c.com (mn 16 (c.vals.len : Int)) rfl rfl
    have h22 := hall 22 (by decide) (by decide) (c.vals.len : Int) 64 rfl rfl
    rw [mn_eq] at h2
    cases b with
    | false => exact hn h3 (x02.trans x3)
    | true => exact hy h3 (x02.trans x3) ⟨h2.1, by omega, by omega, by omega⟩

end
end Go.Proofs.Ytgdhddignbkloaa.Board
end

section
/- Members, plainly: as many as Committee says, each once; configurations that are read. -/
namespace Go.Proofs.Ytgdhddignbkloaa.Board
open Go Go.Vc

/-! ### The plain law -/

noncomputable def whos (slot : Int) (n : Nat) : List Int := (sorted slot n).map Seat.who

theorem whos_perm (slot : Int) (n : Nat) : (whos slot n).Perm ((List.range n).map fun (i : Nat) => (i : Int)) := by
  have := (sorted_perm slot n).map Seat.who
  unfold sts at this
  rw [List.map_map] at this
  exact this

theorem whos_nodup (slot : Int) (n : Nat) : (whos slot n).Nodup := by
  rw [(whos_perm slot n).nodup_iff]
  exact List.Pairwise.map _ (fun a b (h : a ≠ b) => by omega) List.nodup_range

theorem whos_mem {slot : Int} {n : Nat} {x : Int} (h : x ∈ whos slot n) : 0 ≤ x ∧ x < n := by
  have := (whos_perm slot n).mem_iff.1 h
  obtain ⟨i, hi, rfl⟩ := List.mem_map.1 this
  have := List.mem_range.1 hi
  omega

theorem whos_length (slot : Int) (n : Nat) : (whos slot n).length = n := by rw [(whos_perm slot n).length_eq]; simp

theorem mem_eq {n : Nat} {com slot : Int} (h0 : 0 ≤ slot) (h1 : slot ≤ 1073741824) : mem n com slot = (whos slot n).take (min (max com 0) (n : Int)).toNat := by
  unfold mem whos
  rw [if_neg (by omega), List.map_take]

theorem mem_out {n : Nat} {com slot : Int} (h : slot < 0 ∨ 1073741824 < slot) : mem n com slot = [] := by
  unfold mem
  rw [if_pos h]

theorem mem_len {n : Nat} {com slot : Int} (h0 : 0 ≤ slot) (h1 : slot ≤ 1073741824) (c0 : 0 ≤ com) (c1 : com ≤ n) : ((mem n com slot).length : Int) = com := by
  rw [mem_eq h0 h1, List.length_take, whos_length]
  omega

/-- With a lesser committee: the beginning of it. -/
theorem mem_less {n : Nat} {com less slot : Int} (l0 : 0 ≤ less) : mem n (com - less) slot = (mem n com slot).take (mem n (com - less) slot).length := by
  by_cases h : slot < 0 ∨ 1073741824 < slot
  · rw [mem_out h, mem_out h]; rfl
  · rw [mem_eq (by omega) (by omega), mem_eq (by omega) (by omega), List.length_take, whos_length, List.take_take]
    congr 1
    omega

theorem idx_at : ∀ (l : List Int) (k : Int) (i : Nat) (x : Int), l.Nodup → l[i]? = some x → idx l x k = k + i
  | [], _, _, _, _, h => by cases h
  | y :: ys, k, 0, x, _, h => by
    injection h with h
    subst h
    simp [idx]
  | y :: ys, k, i + 1, x, hn, h => by
    have hn' := List.nodup_cons.1 hn
    have hx : x ∈ ys := List.mem_of_getElem? h
    have hne : x ≠ y := fun e => hn'.1 (by rw [← e]; exact hx)
    rw [idx, if_neg hne, idx_at ys (k + 1) i x hn'.2 h]
    omega

theorem idx_out : ∀ (l : List Int) (k x : Int), x ∉ l → idx l x k = -1
  | [], _, _, _ => rfl
  | y :: ys, k, x, h => by
    rw [idx, if_neg (fun e => h (by rw [e]; exact List.mem_cons_self ..)), idx_out ys _ x (fun hx => h (List.mem_cons_of_mem _ hx))]

theorem pk_all : ∀ (l : List Int), pk l (List.replicate l.length true) = l
  | [] => rfl
  | x :: xs => by
    rw [List.length_cons, List.replicate_succ, pk, if_pos rfl, pk_all xs]

theorem pk_none : ∀ (l : List Int) (n : Nat), pk l (List.replicate n false) = []
  | [], 0 => rfl
  | [], n + 1 => rfl
  | x :: xs, 0 => rfl
  | x :: xs, n + 1 => by
    rw [List.replicate_succ, pk, if_neg (by decide), pk_none xs]

theorem pk_both : ∀ (l : List Int) (r : List Bool), r.length = l.length → (pk l r).length + (pk l (r.map not)).length = l.length
  | [], [], _ => rfl
  | [], _ :: _, h => by cases h
  | _ :: _, [], h => by cases h
  | x :: xs, b :: bs, h => by
    have ih := pk_both xs bs (by simpa using h)
    cases b
    · simp [pk]; omega
    · simp [pk]; omega

theorem set_true (m : Nat) : ∀ a : Nat, (List.replicate a true ++ List.replicate (m + 1) false).set a true = List.replicate (a + 1) true ++ List.replicate m false
  | 0 => by simp [List.replicate_succ]
  | a + 1 => by
    rw [List.replicate_succ, List.cons_append, List.set_cons_succ, set_true m a, List.replicate_succ (n := a + 1), List.cons_append]

/-! ### The program -/

section
variable {R : Value → Heap → Prop} {h : Heap} {c : Cf}

/-- A configuration is read. -/
theorem cf_at {b : Nat} (v : Var 24 h b c.tv) {K : Sl → Int → Int → Int → Int → Int → Int → Int → Int → Int → Int → Int → Prop} (hk : K c.vals c.ep c.com c.no c.orp c.ear c.quo c.pe c.by_ c.win c.ban c.dec) :
    ∃ (s : Sl), ∃ (n n_1 n_2 n_3 n_4 n_5 n_6 n_7 n_8 n_9 n_10 : Int), (at1 h b 0 (slVal s) ∧ at1 h b 1 (.int .i64 n) ∧ at1 h b 2 (.int .i64 n_1) ∧ at1 h b 3 (.int .i64 n_2) ∧ at1 h b 4 (.int .i64 n_3) ∧ at1 h b 5 (.int .i64 n_4) ∧ at1 h b 6 (.int .i64 n_5) ∧ at1 h b 7 (.int .i64 n_6) ∧
      at1 h b 8 (.int .i64 n_7) ∧ at1 h b 9 (.int .i64 n_8) ∧ at1 h b 10 (.int .i64 n_9) ∧ at1 h b 11 (.int .i64 n_10)) ∧ K s n n_1 n_2 n_3 n_4 n_5 n_6 n_7 n_8 n_9 n_10 :=
  ⟨c.vals, c.ep, c.com, c.no, c.orp, c.ear, c.quo, c.pe, c.by_, c.win, c.ban, c.dec, v.at, hk⟩

theorem cfsz {c d : Cf} : c.tv.size = d.tv.size := by simp only [Cf.tv, TV.size, TVs.size]
theorem cfsz1 {c : Cf} : 12 = c.tv.size := by simp only [Cf.tv, TV.size, TVs.size]

def zeroC : Cf := ⟨Sl.nil, 0, 0, 0, 0, 0, 0, 0, 0, 0, 0, 0⟩

end
end Go.Proofs.Ytgdhddignbkloaa.Board
end

section
/- Configurations, and rows of yes and no, that come in. -/
namespace Go.Proofs.Ytgdhddignbkloaa.Board
open Go Go.Vc

section
variable {H : Type} {enc : TypeId × Value → H} {w : World} {base fuel : Nat} {spare : Nat → Bool} {held : Bool}

theorem cell_spot {P : Program} {r : Reach} {base : Nat} {t e : TypeId} (ht : P.underlying t = some (.slice e)) {a : Addr} {len cap : Nat} (h : Cell.okWide P w r base t (.slice (some a) len cap)) : a.spot = none := by
  unfold Cell.okWide at h
  rw [ht] at h
  simp only at h
  unfold Cell.ok at h
  rw [ht] at h
  exact h.2.2.2.1

set_option maxRecDepth 100000 in
theorem vd_in {cs : List Value} {x : DataW H × List MemPlace} (h : DataW.trod enc Try.prog w base spare held fuel 59 cs = some x) : ∃ v : Vd, cs = v.tv.cells := by
  have hd : ∃ f0 f1 : Field, Try.prog.underlying 59 = some (.struct #[f0, f1]) ∧ f0.type = 3 ∧ f0.offset = 0 ∧ f1.type = 9 ∧ f1.offset = 1 := ⟨_, _, Try.underlying59, rfl, rfl, rfl, rfl⟩
  obtain ⟨f0, f1, hu, e0, e1, e2, e3⟩ := hd
  obtain ⟨xs, n, _, rfl, hlen, hl, hf⟩ := DataW.trod_struct hu h
  have c3 : Try.prog.cellsOf 3 = 1 := by kernel_rfl
  have c9 : Try.prog.cellsOf 9 = 1 := by kernel_rfl
  have c41 : Try.prog.cellsOf 59 = 2 := by kernel_rfl
  match xs, hl with
  | [y0, y1], _ =>
    have t0 := hf 0 f0 rfl
    have t1 := hf 1 f1 rfl
    rw [e0, e1, c3] at t0
    rw [e2, e3, c9] at t1
    obtain ⟨n0, h0, _, _⟩ := DataW.trod_int Try.underlying3 t0
    obtain ⟨s, h1, _, _⟩ := DataW.trod_string Try.underlying9 t1
    rw [c41] at hlen
    match cs, hlen with
    | [v0, v1], _ =>
      simp only [List.drop_zero, List.take_succ_cons, List.take_zero, List.drop_succ_cons, List.cons.injEq, and_true] at h0 h1
      subst h0; subst h1
      exact ⟨⟨n0, s.data.toList⟩, by simp [Vd.tv, TV.cells, TVs.cells]⟩

/-- A slice whose elements are known one by one. -/
theorem slice_in {α : Type} [Inhabited α] {tv : α → TV} {sz t e : Nat} (ht : Try.prog.underlying t = some (.slice e)) (he : Try.prog.cellsOf e = sz) (hsz : ∀ x, (tv x).size = sz)
    (hin : ∀ {fuel : Nat} {cs : List Value} {x : DataW H × List MemPlace}, DataW.trod enc Try.prog w base spare held fuel e cs = some x → ∃ v : α, cs = (tv v).cells)
    {a : Option Addr} {len cap : Nat} {x : DataW H × List MemPlace} (hs : ∀ x, a = some x → x.spot = none) (h : DataW.trod enc Try.prog w base spare held fuel t [.slice a len cap] = some x) :
    ∃ (sl : Sl) (cs : List α), Value.slice a len cap = (TV.slice sl).val ∧ Elems sz w.heap sl (cs.map tv) := by
  rcases Deep.open_slice ht h with ⟨hc, _⟩ | ⟨a', l', c', m, n, D, Pl, hc, _, hl, _, hm, _, hel⟩
  · simp only [List.cons.injEq, Value.slice.injEq, and_true] at hc
    obtain ⟨rfl, rfl, rfl⟩ := hc
    exact ⟨Sl.nil, [], rfl, Elems.nil_ sz _⟩
  · simp only [List.cons.injEq, Value.slice.injEq, and_true] at hc
    obtain ⟨rfl, rfl, rfl⟩ := hc
    have hsp := hs a' rfl
    have hlm : len ≤ m := by rw [hm]; split <;> omega
    have each : ∀ i, i < len → ∃ c : α, (tv c).at w.heap a'.block (a'.off + i * sz) := by
      intro i hi
      obtain ⟨cs', h1, h2⟩ := hel i (by omega)
      rw [he] at h1
      obtain ⟨_, hlen, hcell⟩ := World.cells?_some h1
      obtain ⟨c, rfl⟩ := hin h2
      refine ⟨c, ?_⟩
      rw [TV.at_iff]
      intro j hj
      have hj5 : j < sz := by rw [hsz] at hj; exact hj
      have := hcell j hj5
      rw [Deep.add_add] at this
      have hc2 := cel_of_cell hsp (i := i * sz + j) (v := (tv c).cells[j]'(by rw [TV.cells_length]; exact hj)) (by
        rw [this]
        simp [TV.cells_length, hj])
      rw [List.getElem?_eq_getElem (by rw [TV.cells_length]; exact hj), ← hc2, Nat.add_assoc]
    obtain ⟨f, hf⟩ := Deep.choose_lt each
    refine ⟨⟨some ⟨a'.block, a'.off⟩, len, cap⟩, (List.range len).map f, ?_, ⟨?_, ?_, ?_⟩⟩
    · cases a'
      simp only at hsp
      subst hsp
      rfl
    · simp
    · intro hn; cases hn
    · rintro l ⟨rfl⟩ i t ht
      rw [List.getElem?_map, Option.map_eq_some_iff] at ht
      obtain ⟨c, hc, rfl⟩ := ht
      rw [List.getElem?_map, Option.map_eq_some_iff] at hc
      obtain ⟨k, hk, rfl⟩ := hc
      have hk' := List.getElem?_eq_some_iff.1 hk
      obtain ⟨hi, he⟩ := hk'
      simp only [List.length_range] at hi
      simp only [List.getElem_range] at he
      subst he
      exact hf i hi

theorem row_in {a : Option Addr} {len cap : Nat} {x : DataW H × List MemPlace} (hs : ∀ x, a = some x → x.spot = none) (h : DataW.trod enc Try.prog w base spare held fuel 28 [.slice a len cap] = some x) :
    ∃ sl cs, Value.slice a len cap = (TV.slice sl).val ∧ Elems 1 w.heap sl (bools cs) :=
  slice_in (tv := TV.bool) Try.underlying28 (by kernel_rfl) (fun _ => rfl) (fun {fuel cs x} h => by
    obtain ⟨b, h0, _⟩ := DataW.trod_bool Try.underlying4 h
    exact ⟨b, by rw [h0]; rfl⟩) hs h

set_option maxRecDepth 100000 in
theorem cf_in {r : Reach} {base2 : Nat} {v : Value} {d : DataW H} {p : List MemPlace} (hv : Value.okWide Try.prog w r base2 24 v) (h : DataW.Trod enc Try.prog w base spare held 24 v d p) :
    ∃ c : Cf, (∃ L, Elems 2 w.heap c.vals (vds L)) ∧ v = c.tv.val := by
  have hd : ∃ f0 f1 f2 f3 f4 f5 f6 f7 f8 f9 f10 f11 : Field, Try.prog.underlying 24 = some (.struct #[f0, f1, f2, f3, f4, f5, f6, f7, f8, f9, f10, f11]) ∧ (f0.type = 22 ∧ f0.offset = 0) ∧ (f1.type = 3 ∧ f1.offset = 1) ∧ (f2.type = 3 ∧ f2.offset = 2) ∧
      (f3.type = 3 ∧ f3.offset = 3) ∧ (f4.type = 3 ∧ f4.offset = 4) ∧ (f5.type = 3 ∧ f5.offset = 5) ∧ (f6.type = 3 ∧ f6.offset = 6) ∧ (f7.type = 3 ∧ f7.offset = 7) ∧ (f8.type = 3 ∧ f8.offset = 8) ∧ (f9.type = 3 ∧ f9.offset = 9) ∧
      (f10.type = 3 ∧ f10.offset = 10) ∧ (f11.type = 3 ∧ f11.offset = 11) := ⟨_, _, _, _, _, _, _, _, _, _, _, _, Try.underlying24, ⟨rfl, rfl⟩, ⟨rfl, rfl⟩, ⟨rfl, rfl⟩, ⟨rfl, rfl⟩, ⟨rfl, rfl⟩, ⟨rfl, rfl⟩, ⟨rfl, rfl⟩, ⟨rfl, rfl⟩, ⟨rfl, rfl⟩, ⟨rfl, rfl⟩, ⟨rfl, rfl⟩, ⟨rfl, rfl⟩⟩
  obtain ⟨f0, f1, f2, f3, f4, f5, f6, f7, f8, f9, f10, f11, hu, e0, e1, e2, e3, e4, e5, e6, e7, e8, e9, e10, e11⟩ := hd
  have hct : Try.prog.cellTypes Try.prog.depth 24 = some [22, 3, 3, 3, 3, 3, 3, 3, 3, 3, 3, 3] := by kernel_rfl
  have c24 : Try.prog.cellsOf 24 = 12 := by kernel_rfl
  have c3 : Try.prog.cellsOf 3 = 1 := by kernel_rfl
  have c22 : Try.prog.cellsOf 22 = 1 := by kernel_rfl
  unfold Value.okWide at hv
  rw [hu] at hv
  simp only at hv
  obtain ⟨cs, rfl, hs, ts, hts, _, hcell⟩ := hv
  rw [hct] at hts
  obtain rfl := Option.some.inj hts
  obtain ⟨fuel, hf0⟩ := h
  have hf1 : DataW.trod enc Try.prog w base spare held fuel 24 cs.toList = some (d, p) := hf0
  obtain ⟨xs, n, _, _, hlen, hl, hf⟩ := DataW.trod_struct hu hf1
  rw [c24] at hlen
  match xs, hl with
  | [y0, y1, y2, y3, y4, y5, y6, y7, y8, y9, y10, y11], _ =>
    have t0 := hf 0 f0 rfl
    have t1 := hf 1 f1 rfl
    have t2 := hf 2 f2 rfl
    have t3 := hf 3 f3 rfl
    have t4 := hf 4 f4 rfl
    have t5 := hf 5 f5 rfl
    have t6 := hf 6 f6 rfl
    have t7 := hf 7 f7 rfl
    have t8 := hf 8 f8 rfl
    have t9 := hf 9 f9 rfl
    have t10 := hf 10 f10 rfl
    have t11 := hf 11 f11 rfl
    rw [e0.1, e0.2, c22] at t0
    rw [e1.1, e1.2, c3] at t1
    rw [e2.1, e2.2, c3] at t2
    rw [e3.1, e3.2, c3] at t3
    rw [e4.1, e4.2, c3] at t4
    rw [e5.1, e5.2, c3] at t5
    rw [e6.1, e6.2, c3] at t6
    rw [e7.1, e7.2, c3] at t7
    rw [e8.1, e8.2, c3] at t8
    rw [e9.1, e9.2, c3] at t9
    rw [e10.1, e10.2, c3] at t10
    rw [e11.1, e11.2, c3] at t11
    clear hf hf0 hf1
    obtain ⟨n1, h1, _, _⟩ := DataW.trod_int Try.underlying3 t1
    obtain ⟨n2, h2, _, _⟩ := DataW.trod_int Try.underlying3 t2
    obtain ⟨n3, h3, _, _⟩ := DataW.trod_int Try.underlying3 t3
    obtain ⟨n4, h4, _, _⟩ := DataW.trod_int Try.underlying3 t4
    obtain ⟨n5, h5, _, _⟩ := DataW.trod_int Try.underlying3 t5
    obtain ⟨n6, h6, _, _⟩ := DataW.trod_int Try.underlying3 t6
    obtain ⟨n7, h7, _, _⟩ := DataW.trod_int Try.underlying3 t7
    obtain ⟨n8, h8, _, _⟩ := DataW.trod_int Try.underlying3 t8
    obtain ⟨n9, h9, _, _⟩ := DataW.trod_int Try.underlying3 t9
    obtain ⟨n10, h10, _, _⟩ := DataW.trod_int Try.underlying3 t10
    obtain ⟨n11, h11, _, _⟩ := DataW.trod_int Try.underlying3 t11
    clear t1 t2 t3 t4 t5 t6 t7 t8 t9 t10 t11
    obtain ⟨cl⟩ := cs
    simp only at hlen hcell h1 h2 h3 h4 h5 h6 h7 h8 h9 h10 h11 t0
    match cl, hlen with
    | [v0, v1, v2, v3, v4, v5, v6, v7, v8, v9, v10, v11], _ =>
      simp only [List.drop_zero, List.take_succ_cons, List.take_zero, List.drop_succ_cons, List.cons.injEq, and_true] at h1 h2 h3 h4 h5 h6 h7 h8 h9 h10 h11 t0
      subst h1; subst h2; subst h3; subst h4; subst h5; subst h6; subst h7; subst h8; subst h9; subst h10; subst h11
      have hsl : ∃ a len cap, v0 = Value.slice a len cap := by
        rcases Deep.open_slice Try.underlying22 t0 with ⟨hc, _⟩ | ⟨a', l', c', m, n, D, Pl, hc, _⟩
        · exact ⟨_, _, _, by simpa using hc⟩
        · exact ⟨_, _, _, by simpa using hc⟩
      obtain ⟨a, len, cap, rfl⟩ := hsl
      obtain ⟨u, hu0, hok⟩ := hcell 0 _ rfl
      have hu22 : u = 22 := by
        have : some 22 = some u := hu0
        injection this with this
        exact this.symm
      subst hu22
      have hsp : ∀ x, a = some x → x.spot = none := fun x hx => by
        subst hx
        exact cell_spot Try.underlying22 hok
      obtain ⟨sl, L, e, hel⟩ := slice_in (tv := Vd.tv) (sz := 2) Try.underlying22 (by kernel_rfl) Vd.size (fun {fuel cs x} h => vd_in h) hsp t0
      have e' : Value.slice a len cap = slVal sl := e
      rw [e']
      exact ⟨⟨sl, n1, n2, n3, n4, n5, n6, n7, n8, n9, n10, n11⟩, ⟨L, hel⟩, rfl⟩

end

abbrev row_ (n : Nat) : Obj := row (zeros (TV.bool false) n) 4

end Go.Proofs.Ytgdhddignbkloaa.Board
end

section
/- The document's digest: its words and rounds are those of the program. -/

namespace Go.Proofs.Ytgdhddignbkloaa.Board
open Go Go.Vc

theorem wrap_u32 (n : Int) : IntKind.wrap .u32 n = n % 4294967296 := by
  unfold IntKind.wrap
  show (if (false && _) = true then _ else n % 2 ^ 32) = n % 4294967296
  simp

/-- A word turned right, as the document has it. -/
def rightF (x n : Int) : Int := IntKind.wrap .u32 (↑(BitVec.toNat (BitVec.ofInt (IntKind.bits .u32) (Int.fdiv x ((2 : Int) ^ min (Int.toNat (IntKind.wrap .u64 n)) (IntKind.bits .u32))) ||| BitVec.ofInt (IntKind.bits .u32) (IntKind.wrap .u32 (x * (2 : Int) ^ min (Int.toNat (IntKind.wrap .u64 (IntKind.wrap .i64 ((32 : Int) - n)))) (IntKind.bits .u32))))) : Int)

theorem turn_or (x : Int) (n : Int) (a b : Nat)
    (h1 : rightF x n = IntKind.wrap .u32 (↑(BitVec.toNat (BitVec.ofInt 32 (Int.fdiv x ((2 : Int) ^ a)) ||| BitVec.ofInt 32 (IntKind.wrap .u32 (x * (2 : Int) ^ b)))) : Int))
    (h2 : turnF x n = IntKind.wrap .u32 (↑(BitVec.toNat (BitVec.ofInt 32 (IntKind.wrap .u32 (x * (2 : Int) ^ b)) ||| BitVec.ofInt 32 (Int.fdiv x ((2 : Int) ^ a)))) : Int)) : rightF x n = turnF x n := by
  rw [h1, h2, BitVec.or_comm]

theorem right2 (x : Int) : rightF x 2 = turnF x 2 := turn_or x 2 2 30 (by kernel_rfl) (by kernel_rfl)
theorem right6 (x : Int) : rightF x 6 = turnF x 6 := turn_or x 6 6 26 (by kernel_rfl) (by kernel_rfl)
theorem right7 (x : Int) : rightF x 7 = turnF x 7 := turn_or x 7 7 25 (by kernel_rfl) (by kernel_rfl)
theorem right11 (x : Int) : rightF x 11 = turnF x 11 := turn_or x 11 11 21 (by kernel_rfl) (by kernel_rfl)
theorem right13 (x : Int) : rightF x 13 = turnF x 13 := turn_or x 13 13 19 (by kernel_rfl) (by kernel_rfl)
theorem right17 (x : Int) : rightF x 17 = turnF x 17 := turn_or x 17 17 15 (by kernel_rfl) (by kernel_rfl)
theorem right18 (x : Int) : rightF x 18 = turnF x 18 := turn_or x 18 18 14 (by kernel_rfl) (by kernel_rfl)
theorem right19 (x : Int) : rightF x 19 = turnF x 19 := turn_or x 19 19 13 (by kernel_rfl) (by kernel_rfl)
theorem right22 (x : Int) : rightF x 22 = turnF x 22 := turn_or x 22 22 10 (by kernel_rfl) (by kernel_rfl)
theorem right25 (x : Int) : rightF x 25 = turnF x 25 := turn_or x 25 25 7 (by kernel_rfl) (by kernel_rfl)

/-- Two parts of a word that do not meet. -/
theorem or_parts (A B k : Nat) (hB : B < 2 ^ k) (hA : A * 2 ^ k + B < 4294967296) : ((BitVec.toNat (BitVec.ofInt 32 ((A * 2 ^ k : Nat) : Int) ||| BitVec.ofInt 32 (B : Int)) : Nat) : Int) = ((A * 2 ^ k + B : Nat) : Int) := by
  rw [BitVec.ofInt_natCast, BitVec.ofInt_natCast, BitVec.toNat_or, BitVec.toNat_ofNat, BitVec.toNat_ofNat, Nat.mod_eq_of_lt (by omega), Nat.mod_eq_of_lt (by omega)]
  have := Nat.shiftLeft_add_eq_or_of_lt hB A
  rw [Nat.shiftLeft_eq] at this
  rw [this]

theorem wrap_nat (n : Nat) (h : n < 4294967296) : IntKind.wrap .u32 (n : Int) = (n : Int) := by
  rw [wrap_u32]
  omega

theorem be_bytes (a b c d : Nat) (ha : a < 256) (hb : b < 256) (hc : c < 256) (hd : d < 256) : be a b c d = (((a * 256 + b) * 256 + c) * 256 + d : Nat) := by
  have e : be a b c d = IntKind.wrap .u32 (↑(BitVec.toNat (BitVec.ofInt 32 (IntKind.wrap .u32 (↑(BitVec.toNat (BitVec.ofInt 32 (IntKind.wrap .u32 (↑(BitVec.toNat (BitVec.ofInt 32 (IntKind.wrap .u32 (IntKind.wrap .u32 (a : Int) * 2 ^ 24)) ||| BitVec.ofInt 32 (IntKind.wrap .u32 (IntKind.wrap .u32 (b : Int) * 2 ^ 16)))) : Int)) |||
      BitVec.ofInt 32 (IntKind.wrap .u32 (IntKind.wrap .u32 (c : Int) * 2 ^ 8)))) : Int)) ||| BitVec.ofInt 32 (IntKind.wrap .u32 (d : Int)))) : Int) := by
    unfold be
    kernel_rfl
  have w1 : IntKind.wrap .u32 (IntKind.wrap .u32 (a : Int) * 2 ^ 24) = ((a * 2 ^ 24 : Nat) : Int) := by rw [wrap_u32, wrap_u32]; omega
  have w2 : IntKind.wrap .u32 (IntKind.wrap .u32 (b : Int) * 2 ^ 16) = ((b * 2 ^ 16 : Nat) : Int) := by rw [wrap_u32, wrap_u32]; omega
  have w3 : IntKind.wrap .u32 (IntKind.wrap .u32 (c : Int) * 2 ^ 8) = ((c * 2 ^ 8 : Nat) : Int) := by rw [wrap_u32, wrap_u32]; omega
  rw [e, w1, w2, w3, wrap_nat d (by omega), or_parts a (b * 2 ^ 16) 24 (by omega) (by omega), wrap_nat (a * 2 ^ 24 + b * 2 ^ 16) (by omega)]
  rw [show a * 2 ^ 24 + b * 2 ^ 16 = (a * 256 + b) * 2 ^ 16 by omega, or_parts (a * 256 + b) (c * 2 ^ 8) 16 (by omega) (by omega), wrap_nat ((a * 256 + b) * 2 ^ 16 + c * 2 ^ 8) (by omega)]
  rw [show (a * 256 + b) * 2 ^ 16 + c * 2 ^ 8 = ((a * 256 + b) * 256 + c) * 2 ^ 8 by omega, or_parts ((a * 256 + b) * 256 + c) d 8 (by omega) (by omega), wrap_nat _ (by omega)]

/-- A word that grows by a byte. -/
def grow (n : Int) (b : UInt8) : Int := IntKind.wrap .u32 (IntKind.wrap .u32 (n * 256) + IntKind.wrap .u32 (b.toNat : Int))

theorem grow4 (a b c d : UInt8) : grow (grow (grow (grow 0 a) b) c) d = be (a.toNat : Int) (b.toNat : Int) (c.toNat : Int) (d.toNat : Int) := by
  have ha := a.toNat_lt
  have hb := b.toNat_lt
  have hc := c.toNat_lt
  have hd := d.toNat_lt
  rw [be_bytes _ _ _ _ ha hb hc hd]
  unfold grow
  simp only [wrap_u32]
  omega

theorem ex_turned (n n1 n2 n3 n4 n5 n6 n7 s0 s1 : Int) (h0 : s0 = IntKind.wrap .u32 (↑(BitVec.toNat (BitVec.ofInt (IntKind.bits IntKind.u32) (IntKind.wrap IntKind.u32 (↑(BitVec.toNat (BitVec.ofInt (IntKind.bits IntKind.u32) n4 ^^^ BitVec.ofInt (IntKind.bits IntKind.u32) n5)) : Int)) ^^^ BitVec.ofInt (IntKind.bits IntKind.u32) (Int.fdiv n ((2 : Int) ^ min (Int.toNat (3 : Int)) (IntKind.bits IntKind.u32))))) : Int))
    (h1 : s1 = IntKind.wrap .u32 (↑(BitVec.toNat (BitVec.ofInt (IntKind.bits IntKind.u32) (IntKind.wrap IntKind.u32 (↑(BitVec.toNat (BitVec.ofInt (IntKind.bits IntKind.u32) n6 ^^^ BitVec.ofInt (IntKind.bits IntKind.u32) n7)) : Int)) ^^^ BitVec.ofInt (IntKind.bits IntKind.u32) (Int.fdiv n1 ((2 : Int) ^ min (Int.toNat (10 : Int)) (IntKind.bits IntKind.u32))))) : Int)) :
    IntKind.wrap .u32 (IntKind.wrap .u32 (IntKind.wrap .u32 (n2 + n3) + s0) + s1) = ex n n1 n2 n3 n4 n5 n6 n7 := by
  unfold ex
  rw [← h0, ← h1]
  simp only [wrap_u32]
  omega

/-! ### Words -/

theorem wd_set {n : Nat} (w : Ws n) (i j : Nat) (c : Int) : wd (w.set i c) j = if i = j ∧ i < n then c else wd w j := by
  unfold wd Ws.set
  simp only [List.getD_eq_getElem?_getD, List.getElem?_set]
  by_cases h : i = j
  · subst h
    rw [if_pos rfl]
    by_cases hi : i < n
    · rw [if_pos (by rw [w.h]; exact hi), if_pos ⟨rfl, hi⟩]; rfl
    · rw [if_neg (by rw [w.h]; exact hi), if_neg (fun hx => hi hx.2), List.getElem?_eq_none (by rw [w.h]; omega)]
  · rw [if_neg h, if_neg (fun hx => h hx.1)]

theorem wd_shift (v : Ws 8) (j : Nat) (h0 : 0 < j) (h1 : j < 8) : wd (shift v) j = wd v (j - 1) := by
  obtain ⟨l, hl⟩ := v
  match l, hl with
  | [a, b, c, d, e, f, g, k], _ =>
    have : j = 1 ∨ j = 2 ∨ j = 3 ∨ j = 4 ∨ j = 5 ∨ j = 6 ∨ j = 7 := by omega
    rcases this with rfl | rfl | rfl | rfl | rfl | rfl | rfl <;> rfl

theorem ws_eq {n : Nat} {a b : Ws n} (h : ∀ j, j < n → wd a j = wd b j) : a = b := by
  apply Ws.ext'
  apply List.ext_getElem (by rw [a.h, b.h])
  intro j h1 h2
  have := h j (by rw [← a.h]; exact h1)
  unfold wd at this
  simpa [List.getD_eq_getElem?_getD, h1, h2] using this

theorem sum_wd (w v : Ws 8) : ∀ i j, i ≤ 8 → wd (sumW w v i) j = if j < i then IntKind.wrap .u32 (wd w j + wd v j) else wd w j
  | 0, j, _ => by simp [sumW]
  | i + 1, j, h => by
    rw [sumW, wd_set, sum_wd w v i i (by omega), sum_wd w v i j (by omega), if_neg (Nat.lt_irrefl i)]
    by_cases hij : i = j
    · subst hij
      rw [if_pos ⟨rfl, by omega⟩, if_pos (Nat.lt_succ_self i)]
    · rw [if_neg (fun hx => hij hx.1)]
      by_cases hj : j < i
      · rw [if_pos hj, if_pos (by omega)]
      · rw [if_neg hj, if_neg (by omega)]

theorem layB_wd (w : Ws 64) : ∀ i j, i ≤ 48 → j < 16 + i → ∀ k, i ≤ k → k ≤ 48 → wd (layB w k) j = wd (layB w i) j
  | i, j, _, hj, k, hik, hk => by
    induction k with
    | zero => have : i = 0 := by omega
              subst this; rfl
    | succ k ih =>
      by_cases h : i = k + 1
      · subst h; rfl
      · rw [layB, wd_set, if_neg (by omega)]
        exact ih (by omega) (by omega)

theorem layA_wd (bs : List UInt8) (i j : Nat) (hj : j < i) (hi : i ≤ 16) : wd (layA bs i) j = wd (layA bs 16) j := by
  have : ∀ k, i ≤ k → k ≤ 16 → wd (layA bs k) j = wd (layA bs i) j := by
    intro k
    induction k with
    | zero => intro h1 _; have : i = 0 := by omega
              omega
    | succ k ih =>
      intro h1 h2
      by_cases h : i = k + 1
      · subst h; rfl
      · rw [layA, wd_set, if_neg (by omega)]
        exact ih (by omega) (by omega)
  exact (this 16 hi (Nat.le_refl _)).symm

end Go.Proofs.Ytgdhddignbkloaa.Board
end

section
/- The conditions of functions, as the generator reckons them out, each with the proof that it is that. -/
namespace Go.Proofs.Ytgdhddignbkloaa
open Go Go.Vc
set_option maxRecDepth 100000
set_option linter.unusedVariables false

def tollerref03_Of_vc (s_ : List UInt8) (h : Heap) (R : Value → Heap → Prop) : Prop :=
 Vc.Bind (newTV h (TV.bytes (32 : Nat) (Bs.zero (32 : Nat))) (26 : Nat)) fun (h_1 : Array Obj) ↦
 (↑(List.length s_ + List.length (ByteArray.mk #[(128 : UInt8)]).data.toList) : Int) ≤ (9223372036854775807 : Int) ∧
 Go.Vc.Loop (s_ ++ (ByteArray.mk #[(128 : UInt8)]).data.toList) h_1 fun (s : List UInt8) (h_2 : Array Obj) (K : List UInt8 → Array Obj → Prop) ↦
 (64 : Int) ≠ (0 : Int) ∧
 If (!decide (Int.tmod (↑(List.length s) : Int) (64 : Int) = (56 : Int)))
 ((↑(List.length s + List.length (ByteArray.mk #[(0 : UInt8)]).data.toList) : Int) ≤ (9223372036854775807 : Int) ∧
 K (s ++ (ByteArray.mk #[(0 : UInt8)]).data.toList) h_2)
 (Go.Vc.Loop (s, (7 : Int)) h_2 fun (s_1 : List UInt8 × Int) (h_3 : Array Obj) (K : List UInt8 × Int → Array Obj → Prop) ↦
 If (decide ((0 : Int) ≤ s_1.snd))
 ((0 : Int) ≤ IntKind.wrap IntKind.u64 (IntKind.wrap IntKind.i64 ((8 : Int) * s_1.snd)) ∧
 ∃ (bs : List UInt8),
 strAt
 (Array.push h_3
 (row
 (TVs.cells
 [TV.int IntKind.u8
 (IntKind.wrap IntKind.u8
 (Int.fdiv (IntKind.wrap IntKind.u64 (IntKind.wrap IntKind.u64 (↑(List.length s_) : Int) * (8 : Int)))
 ((2 : Int) ^
 min (Int.toNat (IntKind.wrap IntKind.u64 (IntKind.wrap IntKind.i64 ((8 : Int) * s_1.snd))))
 (IntKind.bits IntKind.u64))))])
 (5 : Nat)))
 (Sl.mk (some (Loc.mk (Array.size h_3) (0 : Nat))) (1 : Nat) (1 : Nat)) bs ∧
 (↑(List.length s_1.fst + List.length bs) : Int) ≤ (9223372036854775807 : Int) ∧
 K (s_1.fst ++ bs, IntKind.wrap IntKind.i64 (s_1.snd - (1 : Int)))
 (Array.push h_3
 (row
 (TVs.cells
 [TV.int IntKind.u8
 (IntKind.wrap IntKind.u8
 (Int.fdiv (IntKind.wrap IntKind.u64 (IntKind.wrap IntKind.u64 (↑(List.length s_) : Int) * (8 : Int)))
 ((2 : Int) ^
 min (Int.toNat (IntKind.wrap IntKind.u64 (IntKind.wrap IntKind.i64 ((8 : Int) * s_1.snd))))
 (IntKind.bits IntKind.u64))))])
 (5 : Nat))))
 (Vc.Bind (newTV h_3 (TV.words IntKind.u32 (8 : Nat) (Ws.zero (8 : Nat))) (90 : Nat)) fun (h_4 : Array Obj) ↦
 CallsH Try.prog (56 : Nat) (TVs.vals [TV.int IntKind.i64 (8 : Int)]) h_4 fun (v : Value) (h_5 : Array Obj) ↦
 ∃ (s_2 : Sl),
 v = TV.val (TV.slice s_2) ∧
 Go.Vc.Loop (0 : Int) h_5 fun (s_3 : Int) (h_6 : Array Obj) (K : Int → Array Obj → Prop) ↦
 If (decide (s_3 < (↑s_2.len : Int)))
 ((0 : Int) ≤ s_3 ∧
 s_3 < (↑s_2.len : Int) ∧
 Nn s_2.a fun (l : Go.Vc.Loc) ↦
 ∃ (n : Int),
 at1 h_6 l.b (l.o + Int.toNat s_3 * (1 : Nat)) (Value.int IntKind.u64 n) ∧
 CallsH Try.prog (57 : Nat) (TVs.vals [TV.int IntKind.u64 n, TV.int IntKind.i64 (2 : Int)]) h_6
 fun (v : Value) (h : Array Obj) ↦
 ∃ (n : Int),
 v = TV.val (TV.int IntKind.u32 n) ∧
 (0 : Int) ≤ s_3 ∧
 s_3 < (↑(8 : Nat) : Int) ∧
 wok h (Array.size h_3) ((0 : Nat) + Int.toNat s_3 * (1 : Nat)) (1 : Nat) ∧
 Vc.Bind (TV.put h (Array.size h_3) ((0 : Nat) + Int.toNat s_3 * (1 : Nat)) (TV.int IntKind.u32 n))
 fun (h : Array Obj) ↦ K (IntKind.wrap IntKind.i64 (s_3 + (1 : Int))) h)
 (Vc.Bind (newTV h_6 (TV.words IntKind.u32 (64 : Nat) (Ws.zero (64 : Nat))) (94 : Nat)) fun (h_7 : Array Obj) ↦
 CallsH Try.prog (56 : Nat) (TVs.vals [TV.int IntKind.i64 (64 : Int)]) h_7 fun (v : Value) (h_8 : Array Obj) ↦
 ∃ (s_4 : Sl),
 v = TV.val (TV.slice s_4) ∧
 Go.Vc.Loop (0 : Int) h_8 fun (s_5 : Int) (h_9 : Array Obj) (K : Int → Array Obj → Prop) ↦
 If (decide (s_5 < (↑s_4.len : Int)))
 ((0 : Int) ≤ s_5 ∧
 s_5 < (↑s_4.len : Int) ∧
 Nn s_4.a fun (l : Go.Vc.Loc) ↦
 ∃ (n : Int),
 at1 h_9 l.b (l.o + Int.toNat s_5 * (1 : Nat)) (Value.int IntKind.u64 n) ∧
 CallsH Try.prog (57 : Nat) (TVs.vals [TV.int IntKind.u64 n, TV.int IntKind.i64 (3 : Int)]) h_9
 fun (v : Value) (h : Array Obj) ↦
 ∃ (n : Int),
 v = TV.val (TV.int IntKind.u32 n) ∧
 (0 : Int) ≤ s_5 ∧
 s_5 < (↑(64 : Nat) : Int) ∧
 wok h (Array.size h_6) ((0 : Nat) + Int.toNat s_5 * (1 : Nat)) (1 : Nat) ∧
 Vc.Bind (TV.put h (Array.size h_6) ((0 : Nat) + Int.toNat s_5 * (1 : Nat)) (TV.int IntKind.u32 n))
 fun (h : Array Obj) ↦ K (IntKind.wrap IntKind.i64 (s_5 + (1 : Int))) h)
 (Go.Vc.Loop (0 : Int) h_9 fun (s_6 : Int) (h_10 : Array Obj) (K : Int → Array Obj → Prop) ↦
 If (decide (s_6 < (↑(List.length s_1.fst) : Int)))
 (∃ (w : Ws (8 : Nat)),
 atWords h_10 (Array.size h_3) (0 : Nat) IntKind.u32 (8 : Nat) w ∧
 ∃ (w_1 : Ws (64 : Nat)),
 atWords h_10 (Array.size h_6) (0 : Nat) IntKind.u32 (64 : Nat) w_1 ∧
 (0 : Int) ≤ IntKind.wrap IntKind.i64 (s_6 + (64 : Int)) ∧
 IntKind.wrap IntKind.i64 (s_6 + (64 : Int)) ≤ (↑(List.length s_1.fst) : Int) ∧
 (0 : Int) ≤ s_6 ∧
 s_6 ≤ IntKind.wrap IntKind.i64 (s_6 + (64 : Int)) ∧
 CallsH Try.prog (58 : Nat)
 (TVs.vals
 [TV.words IntKind.u32 (8 : Nat) w, TV.words IntKind.u32 (64 : Nat) w_1,
 TV.str
 (List.take (Int.toNat (IntKind.wrap IntKind.i64 (s_6 + (64 : Int))) - Int.toNat s_6)
 (List.drop (Int.toNat s_6) s_1.fst))])
 h_10 fun (v : Value) (h : Array Obj) ↦
 ∃ (w : Ws (8 : Nat)),
 v = TV.val (TV.words IntKind.u32 (8 : Nat) w) ∧
 wok h (Array.size h_3) (0 : Nat) (8 : Nat) ∧
 Vc.Bind (TV.put h (Array.size h_3) (0 : Nat) (TV.words IntKind.u32 (8 : Nat) w))
 fun (h : Array Obj) ↦ K (IntKind.wrap IntKind.i64 (s_6 + (64 : Int))) h)
 (Vc.Bind (newTV h_10 (TV.bytes (32 : Nat) (Bs.zero (32 : Nat))) (26 : Nat)) fun (h_11 : Array Obj) ↦
 Go.Vc.Loop (0 : Int) h_11 fun (s : Int) (h_12 : Array Obj) (K : Int → Array Obj → Prop) ↦
 If (decide (s < (32 : Int)))
 ((4 : Int) ≠ (0 : Int) ∧
 (0 : Int) ≤ IntKind.wrap IntKind.i64 (Int.tdiv s (4 : Int)) ∧
 IntKind.wrap IntKind.i64 (Int.tdiv s (4 : Int)) < (↑(8 : Nat) : Int) ∧
 ∃ (n : Int),
 at1 h_12 (Array.size h_3)
 ((0 : Nat) + Int.toNat (IntKind.wrap IntKind.i64 (Int.tdiv s (4 : Int))) * (1 : Nat))
 (Value.int IntKind.u32 n) ∧
 (4 : Int) ≠ (0 : Int) ∧
 (0 : Int) ≤
 IntKind.wrap IntKind.u64
 (IntKind.wrap IntKind.i64
 ((24 : Int) - IntKind.wrap IntKind.i64 ((8 : Int) * Int.tmod s (4 : Int)))) ∧
 (0 : Int) ≤ s ∧
 s < (↑(32 : Nat) : Int) ∧
 wok h_12 (Array.size h_10) ((0 : Nat) + Int.toNat s * (1 : Nat)) (1 : Nat) ∧
 Vc.Bind
 (TV.put h_12 (Array.size h_10) ((0 : Nat) + Int.toNat s * (1 : Nat))
 (TV.int IntKind.u8
 (IntKind.wrap IntKind.u8
 (Int.fdiv n
 ((2 : Int) ^
 min
 (Int.toNat
 (IntKind.wrap IntKind.u64
 (IntKind.wrap IntKind.i64
 ((24 : Int) -
 IntKind.wrap IntKind.i64 ((8 : Int) * Int.tmod s (4 : Int))))))
 (IntKind.bits IntKind.u32))))))
 fun (h : Array Obj) ↦ K (IntKind.wrap IntKind.i64 (s + (1 : Int))) h)
 (∃ (b : Bs (32 : Nat)),
 atBytes h_12 (Array.size h_10) (0 : Nat) (32 : Nat) b ∧
 wok h_12 (Array.size h) (0 : Nat) (32 : Nat) ∧
 Vc.Bind (TV.put h_12 (Array.size h) (0 : Nat) (TV.bytes (32 : Nat) b)) fun (h_13 : Array Obj) ↦
 ∃ (b : Bs (32 : Nat)),
 atBytes h_13 (Array.size h) (0 : Nat) (32 : Nat) b ∧ R (TV.val (TV.bytes (32 : Nat) b)) h_13))))))

theorem tollerref03_Of_calls (s_ : List UInt8) (h : Heap) (R : Value → Heap → Prop) (H : tollerref03_Of_vc s_ h R) : CallsH Try.prog 43 (TVs.vals [TV.str s_]) h R :=
 vcFn_sound (C := ctx) ctx_ok (fn := Try.f43) Try.func43 ((by kernel_rfl : tollerref03_Of_vc s_ h R = vcFn ctx Try.f43 [TV.str s_] h R) ▸ H)


def tollerref03_primes_vc (n : Int) (h : Heap) (R : Value → Heap → Prop) : Prop :=
 Go.Vc.Loop (Sl.mk none (0 : Nat) (0 : Nat), (2 : Int)) h fun (s : Sl × Int) (h : Array Obj) (K : Sl × Int → Array Obj → Prop) ↦
 If (decide ((↑s.fst.len : Int) < n))
 (Go.Vc.Loop (true, (0 : Int)) h fun (s_1 : Bool × Int) (h : Array Obj) (K_1 : Bool × Int → Array Obj → Prop) ↦
 If (decide (s_1.snd < (↑s.fst.len : Int)))
 ((0 : Int) ≤ s_1.snd ∧
 s_1.snd < (↑s.fst.len : Int) ∧
 Nn s.fst.a fun (l : Go.Vc.Loc) ↦
 ∃ (n : Int),
 at1 h l.b (l.o + Int.toNat s_1.snd * (1 : Nat)) (Value.int IntKind.u64 n) ∧
 If s_1.fst (n ≠ (0 : Int) ∧ K_1 (!decide (Int.tmod s.snd n = (0 : Int)), IntKind.wrap IntKind.i64 (s_1.snd + (1 : Int))) h)
 (K_1 (false, IntKind.wrap IntKind.i64 (s_1.snd + (1 : Int))) h))
 (If s_1.fst
 (∃ (new : List Value),
 slAt (Array.push h (row (TVs.cells [TV.int IntKind.u64 s.snd]) (27 : Nat))) (Sl.mk (some (Loc.mk (Array.size h) (0 : Nat))) (1 : Nat) (1 : Nat))
 (1 : Nat) new ∧
 (∀ (v : Value), v ∈ new → isOne v = true) ∧
 vcAppend Ytgdhddignbkloaa.ctx (27 : Nat) s.fst (1 : Nat) new (Array.push h (row (TVs.cells [TV.int IntKind.u64 s.snd]) (27 : Nat)))
 fun (s_2 : Sl) (h : Array Obj) ↦ K (s_2, IntKind.wrap IntKind.u64 (s.snd + (1 : Int))) h)
 (K (s.fst, IntKind.wrap IntKind.u64 (s.snd + (1 : Int))) h)))
 (R (TV.val (TV.slice s.fst)) h)

theorem tollerref03_primes_calls (n : Int) (h : Heap) (R : Value → Heap → Prop) (H : tollerref03_primes_vc n h R) : CallsH Try.prog 56 (TVs.vals [TV.int IntKind.i64 n]) h R :=
 vcFn_sound (C := ctx) ctx_ok (fn := Try.f56) Try.func56 ((by kernel_rfl : tollerref03_primes_vc n h R = vcFn ctx Try.f56 [TV.int IntKind.i64 n] h R) ▸ H)


def tollerref03_root_vc (p : Int) (power : Int) (h : Heap) (R : Value → Heap → Prop) : Prop :=
 Go.Vc.Loop ((0 : Int), (39 : Int)) h fun (s : Int × Int) (h : Array Obj) (K : Int × Int → Array Obj → Prop) ↦
 If (decide ((0 : Int) ≤ s.snd))
 ((0 : Int) ≤ IntKind.wrap IntKind.u64 s.snd ∧
 CallsH Try.prog (66 : Nat)
 (TVs.vals
 [TV.int IntKind.u64
 (IntKind.wrap IntKind.u64
 (s.fst + IntKind.wrap IntKind.u64 ((1 : Int) * (2 : Int) ^ min (Int.toNat (IntKind.wrap IntKind.u64 s.snd)) (IntKind.bits IntKind.u64)))),
 TV.int IntKind.u64 p, TV.int IntKind.i64 power])
 h fun (v : Value) (h : Array Obj) ↦
 ∃ (b : Bool),
 v = TV.val (TV.bool b) ∧
 If (!b)
 ((0 : Int) ≤ IntKind.wrap IntKind.u64 s.snd ∧
 K
 (IntKind.wrap IntKind.u64
 (s.fst + IntKind.wrap IntKind.u64 ((1 : Int) * (2 : Int) ^ min (Int.toNat (IntKind.wrap IntKind.u64 s.snd)) (IntKind.bits IntKind.u64))),
 IntKind.wrap IntKind.i64 (s.snd - (1 : Int)))
 h)
 (K (s.fst, IntKind.wrap IntKind.i64 (s.snd - (1 : Int))) h))
 ((4294967296 : Int) ≠ (0 : Int) ∧ R (TV.val (TV.int IntKind.u32 (IntKind.wrap IntKind.u32 (Int.tmod s.fst (4294967296 : Int))))) h)

theorem tollerref03_root_calls (p : Int) (power : Int) (h : Heap) (R : Value → Heap → Prop) (H : tollerref03_root_vc p power h R) : CallsH Try.prog 57 (TVs.vals [TV.int IntKind.u64 p, TV.int IntKind.i64 power]) h R :=
 vcFn_sound (C := ctx) ctx_ok (fn := Try.f57) Try.func57 ((by kernel_rfl : tollerref03_root_vc p power h R = vcFn ctx Try.f57 [TV.int IntKind.u64 p, TV.int IntKind.i64 power] h R) ▸ H)


def tollerref03_block_vc (h_ : Ws (8 : Nat)) (keys : Ws (64 : Nat)) (s_ : List UInt8) (h : Heap) (R : Value → Heap → Prop) : Prop :=
 Vc.Bind (newTV h (TV.words IntKind.u32 (8 : Nat) h_) (90 : Nat)) fun (h_1 : Array Obj) ↦
 Vc.Bind (newTV h_1 (TV.words IntKind.u32 (64 : Nat) keys) (94 : Nat)) fun (h_2 : Array Obj) ↦
 Vc.Bind (newTV h_2 (TV.words IntKind.u32 (8 : Nat) (Ws.zero (8 : Nat))) (90 : Nat)) fun (h_3 : Array Obj) ↦
 Vc.Bind (newTV h_3 (TV.words IntKind.u32 (64 : Nat) (Ws.zero (64 : Nat))) (94 : Nat)) fun (h_4 : Array Obj) ↦
 Go.Vc.Loop (0 : Int) h_4 fun (s : Int) (h_5 : Array Obj) (K : Int → Array Obj → Prop) ↦
 If (decide (s < (64 : Int)))
 (If (decide (s < (16 : Int)))
 (Go.Vc.Loop (0 : Int) h_5 fun (s_1 : Int) (h : Array Obj) (K_1 : Int → Array Obj → Prop) ↦
 If (decide (s_1 < (4 : Int)))
 ((0 : Int) ≤ s ∧
 s < (↑(64 : Nat) : Int) ∧
 ∃ (n : Int),
 at1 h (Array.size h_3) ((0 : Nat) + Int.toNat s * (1 : Nat)) (Value.int IntKind.u32 n) ∧
 (0 : Int) ≤ IntKind.wrap IntKind.i64 (IntKind.wrap IntKind.i64 ((4 : Int) * s) + s_1) ∧
 IntKind.wrap IntKind.i64 (IntKind.wrap IntKind.i64 ((4 : Int) * s) + s_1) < (↑(List.length s_) : Int) ∧
 (0 : Int) ≤ s ∧
 s < (↑(64 : Nat) : Int) ∧
 wok h (Array.size h_3) ((0 : Nat) + Int.toNat s * (1 : Nat)) (1 : Nat) ∧
 Vc.Bind
 (TV.put h (Array.size h_3) ((0 : Nat) + Int.toNat s * (1 : Nat))
 (TV.int IntKind.u32
 (IntKind.wrap IntKind.u32
 (IntKind.wrap IntKind.u32 (n * (256 : Int)) +
 IntKind.wrap IntKind.u32
 (↑(UInt8.toNat
 (List.getD s_ (Int.toNat (IntKind.wrap IntKind.i64 (IntKind.wrap IntKind.i64 ((4 : Int) * s) + s_1)))
 (0 : UInt8))) :
 Int)))))
 fun (h : Array Obj) ↦ K_1 (IntKind.wrap IntKind.i64 (s_1 + (1 : Int))) h)
 (K (IntKind.wrap IntKind.i64 (s + (1 : Int))) h))
 ((0 : Int) ≤ IntKind.wrap IntKind.i64 (s - (15 : Int)) ∧
 IntKind.wrap IntKind.i64 (s - (15 : Int)) < (↑(64 : Nat) : Int) ∧
 ∃ (n : Int),
 at1 h_5 (Array.size h_3) ((0 : Nat) + Int.toNat (IntKind.wrap IntKind.i64 (s - (15 : Int))) * (1 : Nat)) (Value.int IntKind.u32 n) ∧
 (0 : Int) ≤ IntKind.wrap IntKind.i64 (s - (2 : Int)) ∧
 IntKind.wrap IntKind.i64 (s - (2 : Int)) < (↑(64 : Nat) : Int) ∧
 ∃ (n_1 : Int),
 at1 h_5 (Array.size h_3) ((0 : Nat) + Int.toNat (IntKind.wrap IntKind.i64 (s - (2 : Int))) * (1 : Nat))
 (Value.int IntKind.u32 n_1) ∧
 (0 : Int) ≤ IntKind.wrap IntKind.i64 (s - (16 : Int)) ∧
 IntKind.wrap IntKind.i64 (s - (16 : Int)) < (↑(64 : Nat) : Int) ∧
 ∃ (n_2 : Int),
 at1 h_5 (Array.size h_3) ((0 : Nat) + Int.toNat (IntKind.wrap IntKind.i64 (s - (16 : Int))) * (1 : Nat))
 (Value.int IntKind.u32 n_2) ∧
 (0 : Int) ≤ IntKind.wrap IntKind.i64 (s - (7 : Int)) ∧
 IntKind.wrap IntKind.i64 (s - (7 : Int)) < (↑(64 : Nat) : Int) ∧
 ∃ (n_3 : Int),
 at1 h_5 (Array.size h_3) ((0 : Nat) + Int.toNat (IntKind.wrap IntKind.i64 (s - (7 : Int))) * (1 : Nat))
 (Value.int IntKind.u32 n_3) ∧
 (0 : Int) ≤ (3 : Int) ∧
 (0 : Int) ≤ (10 : Int) ∧
 CallsH Try.prog (67 : Nat) (TVs.vals [TV.int IntKind.u32 n, TV.int IntKind.i64 (7 : Int)]) h_5
 fun (v : Value) (h : Array Obj) ↦
 ∃ (n_4 : Int),
 v = TV.val (TV.int IntKind.u32 n_4) ∧
 Ext h_5 h ∧
 CallsH Try.prog (67 : Nat) (TVs.vals [TV.int IntKind.u32 n, TV.int IntKind.i64 (18 : Int)]) h
 fun (v : Value) (h_6 : Array Obj) ↦
 ∃ (n_5 : Int),
 v = TV.val (TV.int IntKind.u32 n_5) ∧
 Ext h h_6 ∧
 CallsH Try.prog (67 : Nat) (TVs.vals [TV.int IntKind.u32 n_1, TV.int IntKind.i64 (17 : Int)])
 h_6 fun (v : Value) (h : Array Obj) ↦
 ∃ (n_6 : Int),
 v = TV.val (TV.int IntKind.u32 n_6) ∧
 Ext h_6 h ∧
 CallsH Try.prog (67 : Nat)
 (TVs.vals [TV.int IntKind.u32 n_1, TV.int IntKind.i64 (19 : Int)]) h
 fun (v : Value) (h_7 : Array Obj) ↦
 ∃ (n_7 : Int),
 v = TV.val (TV.int IntKind.u32 n_7) ∧
 Ext h h_7 ∧
 (0 : Int) ≤ s ∧
 s < (↑(64 : Nat) : Int) ∧
 wok h_7 (Array.size h_3) ((0 : Nat) + Int.toNat s * (1 : Nat)) (1 : Nat) ∧
 Vc.Bind
 (TV.put h_7 (Array.size h_3) ((0 : Nat) + Int.toNat s * (1 : Nat))
 (TV.int IntKind.u32
 (IntKind.wrap IntKind.u32
 (IntKind.wrap IntKind.u32
 (IntKind.wrap IntKind.u32 (n_2 + n_3) +
 IntKind.wrap IntKind.u32
 (↑(BitVec.toNat
 (BitVec.ofInt (IntKind.bits IntKind.u32)
 (IntKind.wrap IntKind.u32
 (↑(BitVec.toNat
 (BitVec.ofInt
 (IntKind.bits IntKind.u32) n_4 ^^^
 BitVec.ofInt
 (IntKind.bits IntKind.u32) n_5)) :
 Int)) ^^^
 BitVec.ofInt (IntKind.bits IntKind.u32)
 (Int.fdiv n
 ((2 : Int) ^
 min (Int.toNat (3 : Int))
 (IntKind.bits IntKind.u32))))) :
 Int)) +
 IntKind.wrap IntKind.u32
 (↑(BitVec.toNat
 (BitVec.ofInt (IntKind.bits IntKind.u32)
 (IntKind.wrap IntKind.u32
 (↑(BitVec.toNat
 (BitVec.ofInt (IntKind.bits IntKind.u32)
 n_6 ^^^
 BitVec.ofInt (IntKind.bits IntKind.u32)
 n_7)) :
 Int)) ^^^
 BitVec.ofInt (IntKind.bits IntKind.u32)
 (Int.fdiv n_1
 ((2 : Int) ^
 min (Int.toNat (10 : Int))
 (IntKind.bits IntKind.u32))))) :
 Int)))))
 fun (h : Array Obj) ↦ K (IntKind.wrap IntKind.i64 (s + (1 : Int))) h))
 ((0 : Int) ≤ (0 : Int) ∧
 (0 : Int) < (↑(8 : Nat) : Int) ∧
 ∃ (n : Int),
 at1 h_5 (Array.size h) ((0 : Nat) + Int.toNat (0 : Int) * (1 : Nat)) (Value.int IntKind.u32 n) ∧
 (0 : Int) ≤ (1 : Int) ∧
 (1 : Int) < (↑(8 : Nat) : Int) ∧
 ∃ (n_1 : Int),
 at1 h_5 (Array.size h) ((0 : Nat) + Int.toNat (1 : Int) * (1 : Nat)) (Value.int IntKind.u32 n_1) ∧
 (0 : Int) ≤ (2 : Int) ∧
 (2 : Int) < (↑(8 : Nat) : Int) ∧
 ∃ (n_2 : Int),
 at1 h_5 (Array.size h) ((0 : Nat) + Int.toNat (2 : Int) * (1 : Nat)) (Value.int IntKind.u32 n_2) ∧
 (0 : Int) ≤ (3 : Int) ∧
 (3 : Int) < (↑(8 : Nat) : Int) ∧
 ∃ (n_3 : Int),
 at1 h_5 (Array.size h) ((0 : Nat) + Int.toNat (3 : Int) * (1 : Nat)) (Value.int IntKind.u32 n_3) ∧
 (0 : Int) ≤ (4 : Int) ∧
 (4 : Int) < (↑(8 : Nat) : Int) ∧
 ∃ (n_4 : Int),
 at1 h_5 (Array.size h) ((0 : Nat) + Int.toNat (4 : Int) * (1 : Nat)) (Value.int IntKind.u32 n_4) ∧
 (0 : Int) ≤ (5 : Int) ∧
 (5 : Int) < (↑(8 : Nat) : Int) ∧
 ∃ (n_5 : Int),
 at1 h_5 (Array.size h) ((0 : Nat) + Int.toNat (5 : Int) * (1 : Nat)) (Value.int IntKind.u32 n_5) ∧
 (0 : Int) ≤ (6 : Int) ∧
 (6 : Int) < (↑(8 : Nat) : Int) ∧
 ∃ (n_6 : Int),
 at1 h_5 (Array.size h) ((0 : Nat) + Int.toNat (6 : Int) * (1 : Nat))
 (Value.int IntKind.u32 n_6) ∧
 (0 : Int) ≤ (7 : Int) ∧
 (7 : Int) < (↑(8 : Nat) : Int) ∧
 ∃ (n_7 : Int),
 at1 h_5 (Array.size h) ((0 : Nat) + Int.toNat (7 : Int) * (1 : Nat))
 (Value.int IntKind.u32 n_7) ∧
 Go.Vc.Loop (n, n_1, n_2, n_3, n_4, n_5, n_6, n_7, (0 : Int)) h_5
 fun (s_1 : Int × Int × Int × Int × Int × Int × Int × Int × Int) (h_6 : Array Obj)
 (K : Int × Int × Int × Int × Int × Int × Int × Int × Int → Array Obj → Prop) ↦
 If (decide (s_1.snd.snd.snd.snd.snd.snd.snd.snd < (64 : Int)))
 ((0 : Int) ≤ s_1.snd.snd.snd.snd.snd.snd.snd.snd ∧
 s_1.snd.snd.snd.snd.snd.snd.snd.snd < (↑(64 : Nat) : Int) ∧
 ∃ (n_8 : Int),
 at1 h_6 (Array.size h_1)
 ((0 : Nat) +
 Int.toNat s_1.snd.snd.snd.snd.snd.snd.snd.snd * (1 : Nat))
 (Value.int IntKind.u32 n_8) ∧
 (0 : Int) ≤ s_1.snd.snd.snd.snd.snd.snd.snd.snd ∧
 s_1.snd.snd.snd.snd.snd.snd.snd.snd < (↑(64 : Nat) : Int) ∧
 ∃ (n_9 : Int),
 at1 h_6 (Array.size h_3)
 ((0 : Nat) +
 Int.toNat s_1.snd.snd.snd.snd.snd.snd.snd.snd * (1 : Nat))
 (Value.int IntKind.u32 n_9) ∧
 CallsH Try.prog (67 : Nat)
 (TVs.vals
 [TV.int IntKind.u32 s_1.snd.snd.snd.snd.fst,
 TV.int IntKind.i64 (6 : Int)])
 h_6 fun (v : Value) (h_7 : Array Obj) ↦
 ∃ (n_10 : Int),
 v = TV.val (TV.int IntKind.u32 n_10) ∧
 Ext h_6 h_7 ∧
 CallsH Try.prog (67 : Nat)
 (TVs.vals
 [TV.int IntKind.u32 s_1.snd.snd.snd.snd.fst,
 TV.int IntKind.i64 (11 : Int)])
 h_7 fun (v : Value) (h_8 : Array Obj) ↦
 ∃ (n_11 : Int),
 v = TV.val (TV.int IntKind.u32 n_11) ∧
 Ext h_7 h_8 ∧
 CallsH Try.prog (67 : Nat)
 (TVs.vals
 [TV.int IntKind.u32 s_1.snd.snd.snd.snd.fst,
 TV.int IntKind.i64 (25 : Int)])
 h_8 fun (v : Value) (h_9 : Array Obj) ↦
 ∃ (n_12 : Int),
 v = TV.val (TV.int IntKind.u32 n_12) ∧
 Ext h_8 h_9 ∧
 CallsH Try.prog (67 : Nat)
 (TVs.vals
 [TV.int IntKind.u32 s_1.fst,
 TV.int IntKind.i64 (2 : Int)])
 h_9
 fun (v : Value) (h_10 : Array Obj) ↦
 ∃ (n_13 : Int),
 v =
 TV.val
 (TV.int IntKind.u32 n_13) ∧
 CallsH Try.prog (67 : Nat)
 (TVs.vals
 [TV.int IntKind.u32 s_1.fst,
 TV.int IntKind.i64
 (13 : Int)])
 h_10
 fun (v : Value)
 (h_11 : Array Obj) ↦
 ∃ (n_14 : Int),
 v =
 TV.val
 (TV.int IntKind.u32
 n_14) ∧
 CallsH Try.prog (67 : Nat)
 (TVs.vals
 [TV.int IntKind.u32
 s_1.fst,
 TV.int IntKind.i64
 (22 : Int)])
 h_11
 fun (v : Value)
 (h_12 : Array Obj) ↦
 ∃ (n_15 : Int),
 v =
 TV.val
 (TV.int
 IntKind.u32
 n_15) ∧
 K
 (IntKind.wrap
 IntKind.u32
 (IntKind.wrap
 IntKind.u32
 (IntKind.wrap
 IntKind.u32
 (IntKind.wrap
 IntKind.u32
 (IntKind.wrap
 IntKind.u32
 (s_1.snd.snd.snd.snd.snd.snd.snd.fst +
 IntKind.wrap
 IntKind.u32
 (↑(BitVec.toNat
 (BitVec.ofInt
 (IntKind.bits
 IntKind.u32)
 (IntKind.wrap
 IntKind.u32
 (↑(BitVec.toNat
 (BitVec.ofInt
 (IntKind.bits
 IntKind.u32)
 n_10 ^^^
 BitVec.ofInt
 (IntKind.bits
 IntKind.u32)
 n_11)) :
 Int)) ^^^
 BitVec.ofInt
 (IntKind.bits
 IntKind.u32)
 n_12)) :
 Int)) +
 IntKind.wrap
 IntKind.u32
 (↑(BitVec.toNat
 (BitVec.ofInt
 (IntKind.bits
 IntKind.u32)
 (IntKind.wrap
 IntKind.u32
 (↑(BitVec.toNat
 (BitVec.ofInt
 (IntKind.bits
 IntKind.u32)
 s_1.snd.snd.snd.snd.fst &&&
 BitVec.ofInt
 (IntKind.bits
 IntKind.u32)
 s_1.snd.snd.snd.snd.snd.fst)) :
 Int)) ^^^
 BitVec.ofInt
 (IntKind.bits
 IntKind.u32)
 (IntKind.wrap
 IntKind.u32
 (↑(BitVec.toNat
 (BitVec.ofInt
 (IntKind.bits
 IntKind.u32)
 (IntKind.wrap
 IntKind.u32
 (↑(BitVec.toNat
 (BitVec.ofInt
 (IntKind.bits
 IntKind.u32)
 (if
 IntKind.signed
 IntKind.u32 =
 true then
 (-1 :
 Int)
 else
 IntKind.max
 IntKind.u32) ^^^
 BitVec.ofInt
 (IntKind.bits
 IntKind.u32)
 s_1.snd.snd.snd.snd.fst)) :
 Int)) &&&
 BitVec.ofInt
 (IntKind.bits
 IntKind.u32)
 s_1.snd.snd.snd.snd.snd.snd.fst)) :
 Int)))) :
 Int)) +
 n_8) +
 n_9) +
 IntKind.wrap
 IntKind.u32
 (IntKind.wrap
 IntKind.u32
 (↑(BitVec.toNat
 (BitVec.ofInt
 (IntKind.bits
 IntKind.u32)
 (IntKind.wrap
 IntKind.u32
 (↑(BitVec.toNat
 (BitVec.ofInt
 (IntKind.bits
 IntKind.u32)
 n_13 ^^^
 BitVec.ofInt
 (IntKind.bits
 IntKind.u32)
 n_14)) :
 Int)) ^^^
 BitVec.ofInt
 (IntKind.bits
 IntKind.u32)
 n_15)) :
 Int) +
 IntKind.wrap
 IntKind.u32
 (↑(BitVec.toNat
 (BitVec.ofInt
 (IntKind.bits
 IntKind.u32)
 (IntKind.wrap
 IntKind.u32
 (↑(BitVec.toNat
 (BitVec.ofInt
 (IntKind.bits
 IntKind.u32)
 (IntKind.wrap
 IntKind.u32
 (↑(BitVec.toNat
 (BitVec.ofInt
 (IntKind.bits
 IntKind.u32)
 s_1.fst &&&
 BitVec.ofInt
 (IntKind.bits
 IntKind.u32)
 s_1.snd.fst)) :
 Int)) ^^^
 BitVec.ofInt
 (IntKind.bits
 IntKind.u32)
 (IntKind.wrap
 IntKind.u32
 (↑(BitVec.toNat
 (BitVec.ofInt
 (IntKind.bits
 IntKind.u32)
 s_1.fst &&&
 BitVec.ofInt
 (IntKind.bits
 IntKind.u32)
 s_1.snd.snd.fst)) :
 Int)))) :
 Int)) ^^^
 BitVec.ofInt
 (IntKind.bits
 IntKind.u32)
 (IntKind.wrap
 IntKind.u32
 (↑(BitVec.toNat
 (BitVec.ofInt
 (IntKind.bits
 IntKind.u32)
 s_1.snd.fst &&&
 BitVec.ofInt
 (IntKind.bits
 IntKind.u32)
 s_1.snd.snd.fst)) :
 Int)))) :
 Int))),
 s_1.fst,
 s_1.snd.fst,
 s_1.snd.snd.fst,
 IntKind.wrap
 IntKind.u32
 (s_1.snd.snd.snd.fst +
 IntKind.wrap
 IntKind.u32
 (IntKind.wrap
 IntKind.u32
 (IntKind.wrap
 IntKind.u32
 (IntKind.wrap
 IntKind.u32
 (s_1.snd.snd.snd.snd.snd.snd.snd.fst +
 IntKind.wrap
 IntKind.u32
 (↑(BitVec.toNat
 (BitVec.ofInt
 (IntKind.bits
 IntKind.u32)
 (IntKind.wrap
 IntKind.u32
 (↑(BitVec.toNat
 (BitVec.ofInt
 (IntKind.bits
 IntKind.u32)
 n_10 ^^^
 BitVec.ofInt
 (IntKind.bits
 IntKind.u32)
 n_11)) :
 Int)) ^^^
 BitVec.ofInt
 (IntKind.bits
 IntKind.u32)
 n_12)) :
 Int)) +
 IntKind.wrap
 IntKind.u32
 (↑(BitVec.toNat
 (BitVec.ofInt
 (IntKind.bits
 IntKind.u32)
 (IntKind.wrap
 IntKind.u32
 (↑(BitVec.toNat
 (BitVec.ofInt
 (IntKind.bits
 IntKind.u32)
 s_1.snd.snd.snd.snd.fst &&&
 BitVec.ofInt
 (IntKind.bits
 IntKind.u32)
 s_1.snd.snd.snd.snd.snd.fst)) :
 Int)) ^^^
 BitVec.ofInt
 (IntKind.bits
 IntKind.u32)
 (IntKind.wrap
 IntKind.u32
 (↑(BitVec.toNat
 (BitVec.ofInt
 (IntKind.bits
 IntKind.u32)
 (IntKind.wrap
 IntKind.u32
 (↑(BitVec.toNat
 (BitVec.ofInt
 (IntKind.bits
 IntKind.u32)
 (if
 IntKind.signed
 IntKind.u32 =
 true then
 (-1 :
 Int)
 else
 IntKind.max
 IntKind.u32) ^^^
 BitVec.ofInt
 (IntKind.bits
 IntKind.u32)
 s_1.snd.snd.snd.snd.fst)) :
 Int)) &&&
 BitVec.ofInt
 (IntKind.bits
 IntKind.u32)
 s_1.snd.snd.snd.snd.snd.snd.fst)) :
 Int)))) :
 Int)) +
 n_8) +
 n_9)),
 s_1.snd.snd.snd.snd.fst,
 s_1.snd.snd.snd.snd.snd.fst,
 s_1.snd.snd.snd.snd.snd.snd.fst,
 IntKind.wrap
 IntKind.i64
 (s_1.snd.snd.snd.snd.snd.snd.snd.snd +
 (1 : Int)))
 h_12)
 ((0 : Int) ≤ (0 : Int) ∧
 (0 : Int) < (↑(8 : Nat) : Int) ∧
 ∃ (n_8 : Int),
 at1 h_6 (Array.size h) ((0 : Nat) + Int.toNat (0 : Int) * (1 : Nat))
 (Value.int IntKind.u32 n_8) ∧
 (0 : Int) ≤ (1 : Int) ∧
 (1 : Int) < (↑(8 : Nat) : Int) ∧
 ∃ (n_9 : Int),
 at1 h_6 (Array.size h)
 ((0 : Nat) + Int.toNat (1 : Int) * (1 : Nat))
 (Value.int IntKind.u32 n_9) ∧
 (0 : Int) ≤ (2 : Int) ∧
 (2 : Int) < (↑(8 : Nat) : Int) ∧
 ∃ (n_10 : Int),
 at1 h_6 (Array.size h)
 ((0 : Nat) + Int.toNat (2 : Int) * (1 : Nat))
 (Value.int IntKind.u32 n_10) ∧
 (0 : Int) ≤ (3 : Int) ∧
 (3 : Int) < (↑(8 : Nat) : Int) ∧
 ∃ (n_11 : Int),
 at1 h_6 (Array.size h)
 ((0 : Nat) + Int.toNat (3 : Int) * (1 : Nat))
 (Value.int IntKind.u32 n_11) ∧
 (0 : Int) ≤ (4 : Int) ∧
 (4 : Int) < (↑(8 : Nat) : Int) ∧
 ∃ (n_12 : Int),
 at1 h_6 (Array.size h)
 ((0 : Nat) +
 Int.toNat (4 : Int) * (1 : Nat))
 (Value.int IntKind.u32 n_12) ∧
 (0 : Int) ≤ (5 : Int) ∧
 (5 : Int) < (↑(8 : Nat) : Int) ∧
 ∃ (n_13 : Int),
 at1 h_6 (Array.size h)
 ((0 : Nat) +
 Int.toNat (5 : Int) *
 (1 : Nat))
 (Value.int IntKind.u32 n_13) ∧
 (0 : Int) ≤ (6 : Int) ∧
 (6 : Int) <
 (↑(8 : Nat) : Int) ∧
 ∃ (n_14 : Int),
 at1 h_6 (Array.size h)
 ((0 : Nat) +
 Int.toNat
 (6 : Int) *
 (1 : Nat))
 (Value.int IntKind.u32
 n_14) ∧
 (0 : Int) ≤ (7 : Int) ∧
 (7 : Int) <
 (↑(8 : Nat) :
 Int) ∧
 ∃ (n_15 : Int),
 at1 h_6
 (Array.size h)
 ((0 : Nat) +
 Int.toNat
 (7 :
 Int) *
 (1 : Nat))
 (Value.int
 IntKind.u32
 n_15) ∧
 wok h_6
 (Array.size
 h_2)
 (0 : Nat)
 (8 : Nat) ∧
 Vc.Bind
 (TV.put h_6
 (Array.size
 h_2)
 (0 : Nat)
 (TV.words
 IntKind.u32
 (8 :
 Nat)
 (Ws.set
 (Ws.set
 (Ws.set
 (Ws.set
 (Ws.set
 (Ws.set
 (Ws.set
 (Ws.set
 (Ws.zero
 (8 :
 Nat))
 (0 :
 Nat)
 (IntKind.wrap
 IntKind.u32
 (n_8 +
 s_1.fst)))
 (1 :
 Nat)
 (IntKind.wrap
 IntKind.u32
 (n_9 +
 s_1.snd.fst)))
 (2 :
 Nat)
 (IntKind.wrap
 IntKind.u32
 (n_10 +
 s_1.snd.snd.fst)))
 (3 :
 Nat)
 (IntKind.wrap
 IntKind.u32
 (n_11 +
 s_1.snd.snd.snd.fst)))
 (4 :
 Nat)
 (IntKind.wrap
 IntKind.u32
 (n_12 +
 s_1.snd.snd.snd.snd.fst)))
 (5 :
 Nat)
 (IntKind.wrap
 IntKind.u32
 (n_13 +
 s_1.snd.snd.snd.snd.snd.fst)))
 (6 :
 Nat)
 (IntKind.wrap
 IntKind.u32
 (n_14 +
 s_1.snd.snd.snd.snd.snd.snd.fst)))
 (7 :
 Nat)
 (IntKind.wrap
 IntKind.u32
 (n_15 +
 s_1.snd.snd.snd.snd.snd.snd.snd.fst)))))
 fun
 (h :
 Array
 Obj) ↦
 ∃ (w :
 Ws
 (8 :
 Nat)),
 atWords h
 (Array.size
 h_2)
 (0 :
 Nat)
 IntKind.u32
 (8 :
 Nat)
 w ∧
 R
 (TV.val
 (TV.words
 IntKind.u32
 (8 :
 Nat)
 w))
 h))

theorem tollerref03_block_calls (h_ : Ws (8 : Nat)) (keys : Ws (64 : Nat)) (s_ : List UInt8) (h : Heap) (R : Value → Heap → Prop) (H : tollerref03_block_vc h_ keys s_ h R) : CallsH Try.prog 58 (TVs.vals [TV.words IntKind.u32 (8 : Nat) h_, TV.words IntKind.u32 (64 : Nat) keys, TV.str s_]) h R :=
 vcFn_sound (C := ctx) ctx_ok (fn := Try.f58) Try.func58 ((by kernel_rfl : tollerref03_block_vc h_ keys s_ h R = vcFn ctx Try.f58 [TV.words IntKind.u32 (8 : Nat) h_, TV.words IntKind.u32 (64 : Nat) keys, TV.str s_] h R) ▸ H)


def tollerref03_above_vc (x : Int) (p : Int) (power : Int) (h : Heap) (R : Value → Heap → Prop) : Prop :=
 CallsH Try.prog (73 : Nat) (TVs.vals [TV.int IntKind.u64 x, TV.int IntKind.u64 x]) h fun (v : Value) (h : Heap) ↦
 ∃ (n : Int),
 ∃ (n_1 : Int),
 v = TV.val (TV.tup [TV.int IntKind.u64 n, TV.int IntKind.u64 n_1]) ∧
 If (decide (power = (2 : Int)))
 (If (decide (p < n)) (R (TV.val (TV.bool true)) h)
 (If (decide (n = p)) (R (TV.val (TV.bool (decide ((0 : Int) < n_1)))) h) (R (TV.val (TV.bool false)) h)))
 (CallsH Try.prog (73 : Nat) (TVs.vals [TV.int IntKind.u64 n, TV.int IntKind.u64 x]) h fun (v : Value) (h : Heap) ↦
 ∃ (n : Int),
 ∃ (n_2 : Int),
 v = TV.val (TV.tup [TV.int IntKind.u64 n, TV.int IntKind.u64 n_2]) ∧
 CallsH Try.prog (73 : Nat) (TVs.vals [TV.int IntKind.u64 n_1, TV.int IntKind.u64 x]) h fun (v : Value) (h : Heap) ↦
 ∃ (n_3 : Int),
 ∃ (n_4 : Int),
 v = TV.val (TV.tup [TV.int IntKind.u64 n_3, TV.int IntKind.u64 n_4]) ∧
 (0 : Int) ≤ n_2 ∧
 (0 : Int) ≤ n_3 ∧
 (0 : Int) ≤ (0 : Int) ∧
 (0 : Int) ≤ (1 : Int) ∧
 (0 : Int) ≤ (32 : Int) ∧
 If
 (!decide
 (IntKind.wrap IntKind.u64 (n + (n_2 + n_3 + (0 : Int)) / (18446744073709551616 : Int)) =
 Int.fdiv p ((2 : Int) ^ min (Int.toNat (32 : Int)) (IntKind.bits IntKind.u64))))
 ((0 : Int) ≤ (32 : Int) ∧
 R
 (TV.val
 (TV.bool
 (decide
 (Int.fdiv p ((2 : Int) ^ min (Int.toNat (32 : Int)) (IntKind.bits IntKind.u64)) <
 IntKind.wrap IntKind.u64 (n + (n_2 + n_3 + (0 : Int)) / (18446744073709551616 : Int))))))
 h)
 ((0 : Int) ≤ (32 : Int) ∧
 If
 (!decide
 ((n_2 + n_3 + (0 : Int)) % (18446744073709551616 : Int) =
 IntKind.wrap IntKind.u64 (p * (2 : Int) ^ min (Int.toNat (32 : Int)) (IntKind.bits IntKind.u64))))
 (R
 (TV.val
 (TV.bool
 (decide
 (IntKind.wrap IntKind.u64 (p * (2 : Int) ^ min (Int.toNat (32 : Int)) (IntKind.bits IntKind.u64)) <
 (n_2 + n_3 + (0 : Int)) % (18446744073709551616 : Int)))))
 h)
 (R (TV.val (TV.bool (decide ((0 : Int) < n_4)))) h)))

theorem tollerref03_above_calls (x : Int) (p : Int) (power : Int) (h : Heap) (R : Value → Heap → Prop) (H : tollerref03_above_vc x p power h R) : CallsH Try.prog 66 (TVs.vals [TV.int IntKind.u64 x, TV.int IntKind.u64 p, TV.int IntKind.i64 power]) h R :=
 vcFn_sound (C := ctx) ctx_ok (fn := Try.f66) Try.func66 ((by kernel_rfl : tollerref03_above_vc x p power h R = vcFn ctx Try.f66 [TV.int IntKind.u64 x, TV.int IntKind.u64 p, TV.int IntKind.i64 power] h R) ▸ H)


def tollerref03_right_vc (x : Int) (n : Int) (h : Heap) (R : Value → Heap → Prop) : Prop :=
 (0 : Int) ≤ IntKind.wrap IntKind.u64 n ∧
 (0 : Int) ≤ IntKind.wrap IntKind.u64 (IntKind.wrap IntKind.i64 ((32 : Int) - n)) ∧
 R
 (TV.val
 (TV.int IntKind.u32
 (IntKind.wrap IntKind.u32
 (↑(BitVec.toNat
 (BitVec.ofInt (IntKind.bits IntKind.u32)
 (Int.fdiv x ((2 : Int) ^ min (Int.toNat (IntKind.wrap IntKind.u64 n)) (IntKind.bits IntKind.u32))) |||
 BitVec.ofInt (IntKind.bits IntKind.u32)
 (IntKind.wrap IntKind.u32
 (x * (2 : Int) ^ min (Int.toNat (IntKind.wrap IntKind.u64 (IntKind.wrap IntKind.i64 ((32 : Int) - n)))) (IntKind.bits IntKind.u32))))) :
 Int))))
 h

theorem tollerref03_right_calls (x : Int) (n : Int) (h : Heap) (R : Value → Heap → Prop) (H : tollerref03_right_vc x n h R) : CallsH Try.prog 67 (TVs.vals [TV.int IntKind.u32 x, TV.int IntKind.i64 n]) h R :=
 vcFn_sound (C := ctx) ctx_ok (fn := Try.f67) Try.func67 ((by kernel_rfl : tollerref03_right_vc x n h R = vcFn ctx Try.f67 [TV.int IntKind.u32 x, TV.int IntKind.i64 n] h R) ▸ H)


def math_bits_Mul64_vc (x : Int) (y : Int) (h : Heap) (R : Value → Heap → Prop) : Prop :=
 (0 : Int) ≤ (32 : Int) ∧
 (0 : Int) ≤ (32 : Int) ∧
 (0 : Int) ≤ (32 : Int) ∧
 (0 : Int) ≤ (32 : Int) ∧
 (0 : Int) ≤ (32 : Int) ∧
 R
 (TV.val
 (TV.tup
 [TV.int IntKind.u64
 (IntKind.wrap IntKind.u64
 (IntKind.wrap IntKind.u64
 (IntKind.wrap IntKind.u64
 (Int.fdiv x ((2 : Int) ^ min (Int.toNat (32 : Int)) (IntKind.bits IntKind.u64)) *
 Int.fdiv y ((2 : Int) ^ min (Int.toNat (32 : Int)) (IntKind.bits IntKind.u64))) +
 Int.fdiv
 (IntKind.wrap IntKind.u64
 (IntKind.wrap IntKind.u64
 (Int.fdiv x ((2 : Int) ^ min (Int.toNat (32 : Int)) (IntKind.bits IntKind.u64)) *
 IntKind.wrap IntKind.u64
 (↑(BitVec.toNat
 (BitVec.ofInt (IntKind.bits IntKind.u64) y &&& BitVec.ofInt (IntKind.bits IntKind.u64) (4294967295 : Int))) :
 Int)) +
 Int.fdiv
 (IntKind.wrap IntKind.u64
 (IntKind.wrap IntKind.u64
 (↑(BitVec.toNat
 (BitVec.ofInt (IntKind.bits IntKind.u64) x &&& BitVec.ofInt (IntKind.bits IntKind.u64) (4294967295 : Int))) :
 Int) *
 IntKind.wrap IntKind.u64
 (↑(BitVec.toNat
 (BitVec.ofInt (IntKind.bits IntKind.u64) y &&& BitVec.ofInt (IntKind.bits IntKind.u64) (4294967295 : Int))) :
 Int)))
 ((2 : Int) ^ min (Int.toNat (32 : Int)) (IntKind.bits IntKind.u64))))
 ((2 : Int) ^ min (Int.toNat (32 : Int)) (IntKind.bits IntKind.u64))) +
 Int.fdiv
 (IntKind.wrap IntKind.u64
 (IntKind.wrap IntKind.u64
 (↑(BitVec.toNat
 (BitVec.ofInt (IntKind.bits IntKind.u64)
 (IntKind.wrap IntKind.u64
 (IntKind.wrap IntKind.u64
 (Int.fdiv x ((2 : Int) ^ min (Int.toNat (32 : Int)) (IntKind.bits IntKind.u64)) *
 IntKind.wrap IntKind.u64
 (↑(BitVec.toNat
 (BitVec.ofInt (IntKind.bits IntKind.u64) y &&&
 BitVec.ofInt (IntKind.bits IntKind.u64) (4294967295 : Int))) :
 Int)) +
 Int.fdiv
 (IntKind.wrap IntKind.u64
 (IntKind.wrap IntKind.u64
 (↑(BitVec.toNat
 (BitVec.ofInt (IntKind.bits IntKind.u64) x &&&
 BitVec.ofInt (IntKind.bits IntKind.u64) (4294967295 : Int))) :
 Int) *
 IntKind.wrap IntKind.u64
 (↑(BitVec.toNat
 (BitVec.ofInt (IntKind.bits IntKind.u64) y &&&
 BitVec.ofInt (IntKind.bits IntKind.u64) (4294967295 : Int))) :
 Int)))
 ((2 : Int) ^ min (Int.toNat (32 : Int)) (IntKind.bits IntKind.u64)))) &&&
 BitVec.ofInt (IntKind.bits IntKind.u64) (4294967295 : Int))) :
 Int) +
 IntKind.wrap IntKind.u64
 (IntKind.wrap IntKind.u64
 (↑(BitVec.toNat
 (BitVec.ofInt (IntKind.bits IntKind.u64) x &&& BitVec.ofInt (IntKind.bits IntKind.u64) (4294967295 : Int))) :
 Int) *
 Int.fdiv y ((2 : Int) ^ min (Int.toNat (32 : Int)) (IntKind.bits IntKind.u64)))))
 ((2 : Int) ^ min (Int.toNat (32 : Int)) (IntKind.bits IntKind.u64)))),
 TV.int IntKind.u64 (IntKind.wrap IntKind.u64 (x * y))]))
 h

theorem math_bits_Mul64_calls (x : Int) (y : Int) (h : Heap) (R : Value → Heap → Prop) (H : math_bits_Mul64_vc x y h R) : CallsH Try.prog 73 (TVs.vals [TV.int IntKind.u64 x, TV.int IntKind.u64 y]) h R :=
 vcFn_sound (C := ctx) ctx_ok (fn := Try.f73) Try.func73 ((by kernel_rfl : math_bits_Mul64_vc x y h R = vcFn ctx Try.f73 [TV.int IntKind.u64 x, TV.int IntKind.u64 y] h R) ▸ H)


def tollerref01_Put_vc (n : Int) (width : Int) (h : Heap) (R : Value → Heap → Prop) : Prop :=
 If (decide (width ≤ (0 : Int))) (R (TV.val (TV.str (ByteArray.mk #[]).data.toList)) h)
 ((256 : Int) ≠ (0 : Int) ∧
 (256 : Int) ≠ (0 : Int) ∧
 (Ext h (Array.push h (row (TVs.cells [TV.int IntKind.u8 (IntKind.wrap IntKind.u8 (Int.tmod n (256 : Int)))]) (5 : Nat))) ∧
 ∃ (bs : List UInt8),
 strAt (Array.push h (row (TVs.cells [TV.int IntKind.u8 (IntKind.wrap IntKind.u8 (Int.tmod n (256 : Int)))]) (5 : Nat)))
 (Sl.mk (some (Loc.mk (Array.size h) (0 : Nat))) (1 : Nat) (1 : Nat)) bs ∧
 CallsH Try.prog (44 : Nat)
 (TVs.vals
 [TV.int IntKind.u64 (IntKind.wrap IntKind.u64 (Int.tdiv n (256 : Int))),
 TV.int IntKind.i64 (IntKind.wrap IntKind.i64 (mn width (8 : Int) - (1 : Int)))])
 (Array.push h (row (TVs.cells [TV.int IntKind.u8 (IntKind.wrap IntKind.u8 (Int.tmod n (256 : Int)))]) (5 : Nat)))
 fun (v : Value) (h_1 : Array Obj) ↦
 ∃ (s : List UInt8),
 v = TV.val (TV.str s) ∧
 Ext (Array.push h (row (TVs.cells [TV.int IntKind.u8 (IntKind.wrap IntKind.u8 (Int.tmod n (256 : Int)))]) (5 : Nat))) h_1 ∧
 (↑(List.length bs + List.length s) : Int) ≤ (9223372036854775807 : Int) ∧ R (TV.val (TV.str (bs ++ s))) h_1) ∧
 CallsH Try.prog (44 : Nat)
 (TVs.vals
 [TV.int IntKind.u64 (IntKind.wrap IntKind.u64 (Int.tdiv n (256 : Int))),
 TV.int IntKind.i64 (IntKind.wrap IntKind.i64 (mn width (8 : Int) - (1 : Int)))])
 h fun (v : Value) (h_1 : Heap) ↦
 ∃ (s : List UInt8),
 v = TV.val (TV.str s) ∧
 Ext h h_1 ∧
 Ext h_1 (Array.push h_1 (row (TVs.cells [TV.int IntKind.u8 (IntKind.wrap IntKind.u8 (Int.tmod n (256 : Int)))]) (5 : Nat))) ∧
 ∃ (bs : List UInt8),
 strAt (Array.push h_1 (row (TVs.cells [TV.int IntKind.u8 (IntKind.wrap IntKind.u8 (Int.tmod n (256 : Int)))]) (5 : Nat)))
 (Sl.mk (some (Loc.mk (Array.size h_1) (0 : Nat))) (1 : Nat) (1 : Nat)) bs ∧
 (↑(List.length bs + List.length s) : Int) ≤ (9223372036854775807 : Int) ∧
 R (TV.val (TV.str (bs ++ s)))
 (Array.push h_1 (row (TVs.cells [TV.int IntKind.u8 (IntKind.wrap IntKind.u8 (Int.tmod n (256 : Int)))]) (5 : Nat))))

theorem tollerref01_Put_calls (n : Int) (width : Int) (h : Heap) (R : Value → Heap → Prop) (H : tollerref01_Put_vc n width h R) : CallsH Try.prog 44 (TVs.vals [TV.int IntKind.u64 n, TV.int IntKind.i64 width]) h R :=
 vcFn_sound (C := ctx) ctx_ok (fn := Try.f44) Try.func44 ((by kernel_rfl : tollerref01_Put_vc n width h R = vcFn ctx Try.f44 [TV.int IntKind.u64 n, TV.int IntKind.i64 width] h R) ▸ H)


def tollerref03_Less_vc (a : Bs (32 : Nat)) (b : Bs (32 : Nat)) (h : Heap) (R : Value → Heap → Prop) : Prop :=
 Vc.Bind (newTV h (TV.bytes (32 : Nat) a) (26 : Nat)) fun (h_1 : Array Obj) ↦
 Vc.Bind (newTV h_1 (TV.bytes (32 : Nat) b) (26 : Nat)) fun (h_2 : Array Obj) ↦
 Go.Vc.Loop (false, (0 : Int)) h_2 fun (s : Bool × Int) (h_3 : Array Obj) (K : Bool × Int → Array Obj → Prop) ↦
 If (decide (s.snd < (32 : Int)))
 ((0 : Int) ≤ s.snd ∧
 s.snd < (↑(32 : Nat) : Int) ∧
 ∃ (n : Int),
 at1 h_3 (Array.size h) ((0 : Nat) + Int.toNat s.snd * (1 : Nat)) (Value.int IntKind.u8 n) ∧
 (0 : Int) ≤ s.snd ∧
 s.snd < (↑(32 : Nat) : Int) ∧
 ∃ (n_1 : Int),
 at1 h_3 (Array.size h_1) ((0 : Nat) + Int.toNat s.snd * (1 : Nat)) (Value.int IntKind.u8 n_1) ∧
 If (!decide (n = n_1))
 ((0 : Int) ≤ s.snd ∧
 s.snd < (↑(32 : Nat) : Int) ∧
 ∃ (n : Int),
 at1 h_3 (Array.size h) ((0 : Nat) + Int.toNat s.snd * (1 : Nat)) (Value.int IntKind.u8 n) ∧
 (0 : Int) ≤ s.snd ∧
 s.snd < (↑(32 : Nat) : Int) ∧
 ∃ (n_2 : Int),
 at1 h_3 (Array.size h_1) ((0 : Nat) + Int.toNat s.snd * (1 : Nat)) (Value.int IntKind.u8 n_2) ∧
 R (TV.val (TV.bool (decide (n < n_2)))) h_3)
 (K (s.fst, IntKind.wrap IntKind.i64 (s.snd + (1 : Int))) h_3))
 (R (TV.val (TV.bool false)) h_3)

theorem tollerref03_Less_calls (a : Bs (32 : Nat)) (b : Bs (32 : Nat)) (h : Heap) (R : Value → Heap → Prop) (H : tollerref03_Less_vc a b h R) : CallsH Try.prog 45 (TVs.vals [TV.bytes (32 : Nat) a, TV.bytes (32 : Nat) b]) h R :=
 vcFn_sound (C := ctx) ctx_ok (fn := Try.f45) Try.func45 ((by kernel_rfl : tollerref03_Less_vc a b h R = vcFn ctx Try.f45 [TV.bytes (32 : Nat) a, TV.bytes (32 : Nat) b] h R) ▸ H)


def tollerref06_Members_vc (c_Validators : Sl) (c_Epoch : Int) (c_Committee : Int) (c_Nodes : Int) (c_Orphans : Int) (c_Early : Int) (c_Quota : Int) (c_Peers : Int) (c_Bytes : Int) (c_Window : Int) (c_Ban : Int) (c_Decay : Int) (slot : Int) (h : Heap) (R : Value → Heap → Prop) : Prop :=
 Vc.Bind
 (newTV h
 (TV.agg
 [TV.slice c_Validators, TV.int IntKind.i64 c_Epoch, TV.int IntKind.i64 c_Committee, TV.int IntKind.i64 c_Nodes, TV.int IntKind.i64 c_Orphans,
 TV.int IntKind.i64 c_Early, TV.int IntKind.i64 c_Quota, TV.int IntKind.i64 c_Peers, TV.int IntKind.i64 c_Bytes, TV.int IntKind.i64 c_Window,
 TV.int IntKind.i64 c_Ban, TV.int IntKind.i64 c_Decay])
 (24 : Nat))
 fun (h_1 : Array Obj) ↦
 Join
 (fun (s : Sl) (h_2 : Array Obj) ↦
 ∃ (s : Sl),
 at1 h_2 (Array.size h) (0 : Nat) (slVal s) ∧
 Go.Vc.Loop (Sl.mk none (0 : Nat) (0 : Nat), (0 : Int)) h_2 fun (s_1 : Sl × Int) (h_3 : Array Obj) (K : Sl × Int → Array Obj → Prop) ↦
 If (decide (s_1.snd < (↑s.len : Int)))
 (CallsH Try.prog (44 : Nat) (TVs.vals [TV.int IntKind.u64 (IntKind.wrap IntKind.u64 slot), TV.int IntKind.i64 (4 : Int)]) h_3
 fun (v : Value) (h : Array Obj) ↦
 ∃ (s : List UInt8),
 v = TV.val (TV.str s) ∧
 (↑(List.length (ByteArray.mk #[(98 : UInt8), (111 : UInt8), (97 : UInt8), (114 : UInt8), (100 : UInt8)]).data.toList + List.length s) :
 Int) ≤
 (9223372036854775807 : Int) ∧
 CallsH Try.prog (44 : Nat) (TVs.vals [TV.int IntKind.u64 (IntKind.wrap IntKind.u64 s_1.snd), TV.int IntKind.i64 (2 : Int)]) h
 fun (v : Value) (h : Array Obj) ↦
 ∃ (s_2 : List UInt8),
 v = TV.val (TV.str s_2) ∧
 (↑(List.length ((ByteArray.mk #[(98 : UInt8), (111 : UInt8), (97 : UInt8), (114 : UInt8), (100 : UInt8)]).data.toList ++ s) +
 List.length s_2) :
 Int) ≤
 (9223372036854775807 : Int) ∧
 CallsH Try.prog (43 : Nat)
 (TVs.vals
 [TV.str ((ByteArray.mk #[(98 : UInt8), (111 : UInt8), (97 : UInt8), (114 : UInt8), (100 : UInt8)]).data.toList ++ s ++ s_2)])
 h fun (v : Value) (h : Array Obj) ↦
 ∃ (b : Bs (32 : Nat)),
 v = TV.val (TV.bytes (32 : Nat) b) ∧
 ∃ (new : List Value),
 slAt (Array.push h (row (TVs.cells [TV.bytes (32 : Nat) b]) (26 : Nat)))
 (Sl.mk (some (Loc.mk (Array.size h) (0 : Nat))) (1 : Nat) (1 : Nat)) (32 : Nat) new ∧
 (∀ (v : Value), v ∈ new → isOne v = true) ∧
 vcAppend Ytgdhddignbkloaa.ctx (26 : Nat) s_1.fst (1 : Nat) new
 (Array.push h (row (TVs.cells [TV.bytes (32 : Nat) b]) (26 : Nat))) fun (s : Sl) (h : Array Obj) ↦
 K (s, IntKind.wrap IntKind.i64 (s_1.snd + (1 : Int))) h)
 ((0 : Int) ≤ (↑s_1.fst.len : Int) ∧
 (↑s_1.fst.len : Int) ≤ (↑s_1.fst.len : Int) ∧
 (↑(1 : Nat) : Int) * (↑s_1.fst.len : Int) ≤ (281474976710656 : Int) ∧
 (↑s_1.fst.len : Int) < (9223372036854775808 : Int) ∧
 Go.Vc.Loop (Sl.mk none (0 : Nat) (0 : Nat)) (Array.push h_3 (row (zeros (TV.bool false) (Int.toNat (↑s_1.fst.len : Int))) (4 : Nat)))
 fun (s : Sl) (h_4 : Array Obj) (K : Sl → Array Obj → Prop) ↦
 ∃ (n : Int),
 at1 h_4 (Array.size h) (2 : Nat) (Value.int IntKind.i64 n) ∧
 If (decide ((↑s.len : Int) < n))
 (Go.Vc.Loop ((-1 : Int), (0 : Int)) h_4 fun (s_2 : Int × Int) (h : Array Obj) (K_1 : Int × Int → Array Obj → Prop) ↦
 If (decide (s_2.snd < (↑s_1.fst.len : Int)))
 ((0 : Int) ≤ s_2.snd ∧
 s_2.snd < (↑(Int.toNat (↑s_1.fst.len : Int)) : Int) ∧
 ∃ (b : Bool),
 at1 h (Array.size h_3) ((0 : Nat) + Int.toNat s_2.snd * (1 : Nat)) (Value.bool b) ∧
 If (!b)
 (If (decide (s_2.fst < (0 : Int))) (K_1 (s_2.snd, IntKind.wrap IntKind.i64 (s_2.snd + (1 : Int))) h)
 ((0 : Int) ≤ s_2.snd ∧
 s_2.snd < (↑s_1.fst.len : Int) ∧
 Nn s_1.fst.a fun (l : Go.Vc.Loc) ↦
 ∃ (b : Bs (32 : Nat)),
 atBytes h l.b (l.o + Int.toNat s_2.snd * (32 : Nat)) (32 : Nat) b ∧
 (0 : Int) ≤ s_2.fst ∧
 s_2.fst < (↑s_1.fst.len : Int) ∧
 Nn s_1.fst.a fun (l : Go.Vc.Loc) ↦
 ∃ (b_1 : Bs (32 : Nat)),
 atBytes h l.b (l.o + Int.toNat s_2.fst * (32 : Nat)) (32 : Nat) b_1 ∧
 CallsH Try.prog (45 : Nat) (TVs.vals [TV.bytes (32 : Nat) b, TV.bytes (32 : Nat) b_1]) h
 fun (v : Value) (h : Array Obj) ↦
 ∃ (b : Bool),
 v = TV.val (TV.bool b) ∧
 If b (K_1 (s_2.snd, IntKind.wrap IntKind.i64 (s_2.snd + (1 : Int))) h)
 (K_1 (s_2.fst, IntKind.wrap IntKind.i64 (s_2.snd + (1 : Int))) h)))
 (K_1 (s_2.fst, IntKind.wrap IntKind.i64 (s_2.snd + (1 : Int))) h))
 (If (decide (s_2.fst < (0 : Int))) (R (TV.val (TV.slice s)) h)
 ((0 : Int) ≤ s_2.fst ∧
 s_2.fst < (↑(Int.toNat (↑s_1.fst.len : Int)) : Int) ∧
 wok h (Array.size h_3) ((0 : Nat) + Int.toNat s_2.fst * (1 : Nat)) (1 : Nat) ∧
 Vc.Bind (TV.put h (Array.size h_3) ((0 : Nat) + Int.toNat s_2.fst * (1 : Nat)) (TV.bool true)) fun (h : Array Obj) ↦
 ∃ (new : List Value),
 slAt (Array.push h (row (TVs.cells [TV.int IntKind.i64 s_2.fst]) (3 : Nat)))
 (Sl.mk (some (Loc.mk (Array.size h) (0 : Nat))) (1 : Nat) (1 : Nat)) (1 : Nat) new ∧
 (∀ (v : Value), v ∈ new → isOne v = true) ∧
 vcAppend Ytgdhddignbkloaa.ctx (3 : Nat) s (1 : Nat) new
 (Array.push h (row (TVs.cells [TV.int IntKind.i64 s_2.fst]) (3 : Nat))) fun (s : Sl) (h : Array Obj) ↦
 K s h)))
 (R (TV.val (TV.slice s)) h_4)))
 fun (J : Sl → Array Obj → Prop) ↦
 If (decide (slot < (0 : Int))) (R (TV.val (TV.slice Sl.nil)) h_1)
 (If (decide ((1073741824 : Int) < slot)) (R (TV.val (TV.slice Sl.nil)) h_1) (J (Sl.mk none (0 : Nat) (0 : Nat)) h_1))

theorem tollerref06_Members_calls (c_Validators : Sl) (c_Epoch : Int) (c_Committee : Int) (c_Nodes : Int) (c_Orphans : Int) (c_Early : Int) (c_Quota : Int) (c_Peers : Int) (c_Bytes : Int) (c_Window : Int) (c_Ban : Int) (c_Decay : Int) (slot : Int) (h : Heap) (R : Value → Heap → Prop) (H : tollerref06_Members_vc c_Validators c_Epoch c_Committee c_Nodes c_Orphans c_Early c_Quota c_Peers c_Bytes c_Window c_Ban c_Decay slot h R) : CallsH Try.prog 26 (TVs.vals [TV.agg [TV.slice c_Validators, TV.int IntKind.i64 c_Epoch, TV.int IntKind.i64 c_Committee, TV.int IntKind.i64 c_Nodes, TV.int IntKind.i64 c_Orphans, TV.int IntKind.i64 c_Early, TV.int IntKind.i64 c_Quota, TV.int IntKind.i64 c_Peers, TV.int IntKind.i64 c_Bytes, TV.int IntKind.i64 c_Window, TV.int IntKind.i64 c_Ban, TV.int IntKind.i64 c_Decay], TV.int IntKind.i64 slot]) h R :=
 vcFn_sound (C := ctx) ctx_ok (fn := Try.f26) Try.func26 ((by kernel_rfl : tollerref06_Members_vc c_Validators c_Epoch c_Committee c_Nodes c_Orphans c_Early c_Quota c_Peers c_Bytes c_Window c_Ban c_Decay slot h R = vcFn ctx Try.f26 [TV.agg [TV.slice c_Validators, TV.int IntKind.i64 c_Epoch, TV.int IntKind.i64 c_Committee, TV.int IntKind.i64 c_Nodes, TV.int IntKind.i64 c_Orphans, TV.int IntKind.i64 c_Early, TV.int IntKind.i64 c_Quota, TV.int IntKind.i64 c_Peers, TV.int IntKind.i64 c_Bytes, TV.int IntKind.i64 c_Window, TV.int IntKind.i64 c_Ban, TV.int IntKind.i64 c_Decay], TV.int IntKind.i64 slot] h R) ▸ H)


def tollerref06_Pick_vc (c_Validators : Sl) (c_Epoch : Int) (c_Committee : Int) (c_Nodes : Int) (c_Orphans : Int) (c_Early : Int) (c_Quota : Int) (c_Peers : Int) (c_Bytes : Int) (c_Window : Int) (c_Ban : Int) (c_Decay : Int) (slot : Int) (row : Sl) (h : Heap) (R : Value → Heap → Prop) : Prop :=
 Vc.Bind
 (newTV h
 (TV.agg
 [TV.slice c_Validators, TV.int IntKind.i64 c_Epoch, TV.int IntKind.i64 c_Committee, TV.int IntKind.i64 c_Nodes, TV.int IntKind.i64 c_Orphans,
 TV.int IntKind.i64 c_Early, TV.int IntKind.i64 c_Quota, TV.int IntKind.i64 c_Peers, TV.int IntKind.i64 c_Bytes, TV.int IntKind.i64 c_Window,
 TV.int IntKind.i64 c_Ban, TV.int IntKind.i64 c_Decay])
 (24 : Nat))
 fun (h_1 : Array Obj) ↦
 ∃ (s : Sl),
 ∃ (n : Int),
 ∃ (n_1 : Int),
 ∃ (n_2 : Int),
 ∃ (n_3 : Int),
 ∃ (n_4 : Int),
 ∃ (n_5 : Int),
 ∃ (n_6 : Int),
 ∃ (n_7 : Int),
 ∃ (n_8 : Int),
 ∃ (n_9 : Int),
 ∃ (n_10 : Int),
 (at1 h_1 (Array.size h) (0 : Nat) (slVal s) ∧
 at1 h_1 (Array.size h) (1 : Nat) (Value.int IntKind.i64 n) ∧
 at1 h_1 (Array.size h) (2 : Nat) (Value.int IntKind.i64 n_1) ∧
 at1 h_1 (Array.size h) (3 : Nat) (Value.int IntKind.i64 n_2) ∧
 at1 h_1 (Array.size h) (4 : Nat) (Value.int IntKind.i64 n_3) ∧
 at1 h_1 (Array.size h) (5 : Nat) (Value.int IntKind.i64 n_4) ∧
 at1 h_1 (Array.size h) (6 : Nat) (Value.int IntKind.i64 n_5) ∧
 at1 h_1 (Array.size h) (7 : Nat) (Value.int IntKind.i64 n_6) ∧
 at1 h_1 (Array.size h) (8 : Nat) (Value.int IntKind.i64 n_7) ∧
 at1 h_1 (Array.size h) (9 : Nat) (Value.int IntKind.i64 n_8) ∧
 at1 h_1 (Array.size h) (10 : Nat) (Value.int IntKind.i64 n_9) ∧
 at1 h_1 (Array.size h) (11 : Nat) (Value.int IntKind.i64 n_10)) ∧
 CallsH Try.prog (26 : Nat)
 (TVs.vals
 [TV.agg
 [TV.slice s, TV.int IntKind.i64 n, TV.int IntKind.i64 n_1, TV.int IntKind.i64 n_2, TV.int IntKind.i64 n_3,
 TV.int IntKind.i64 n_4, TV.int IntKind.i64 n_5, TV.int IntKind.i64 n_6, TV.int IntKind.i64 n_7, TV.int IntKind.i64 n_8,
 TV.int IntKind.i64 n_9, TV.int IntKind.i64 n_10],
 TV.int IntKind.i64 slot])
 h_1 fun (v : Value) (h : Array Obj) ↦
 ∃ (s : Sl),
 v = TV.val (TV.slice s) ∧
 Join
 (fun (s_1 : Sl × Bool) (h : Array Obj) ↦
 Go.Vc.Loop (Sl.mk none (0 : Nat) (0 : Nat), (0 : Int)) h
 fun (s_2 : Sl × Int) (h : Array Obj) (K : Sl × Int → Array Obj → Prop) ↦
 If (decide (s_2.snd < (↑s.len : Int)))
 ((0 : Int) ≤ s_2.snd ∧
 s_2.snd < (↑row.len : Int) ∧
 Nn row.a fun (l : Go.Vc.Loc) ↦
 ∃ (b : Bool),
 at1 h l.b (l.o + Int.toNat s_2.snd * (1 : Nat)) (Value.bool b) ∧
 If b
 ((0 : Int) ≤ s_2.snd ∧
 s_2.snd < (↑s.len : Int) ∧
 Nn s.a fun (l : Go.Vc.Loc) ↦
 ∃ (n : Int),
 at1 h l.b (l.o + Int.toNat s_2.snd * (1 : Nat)) (Value.int IntKind.i64 n) ∧
 ∃ (new : List Value),
 slAt (Array.push h (Vc.row (TVs.cells [TV.int IntKind.i64 n]) (3 : Nat)))
 (Sl.mk (some (Loc.mk (Array.size h) (0 : Nat))) (1 : Nat) (1 : Nat)) (1 : Nat) new ∧
 (∀ (v : Value), v ∈ new → isOne v = true) ∧
 vcAppend Ytgdhddignbkloaa.ctx (3 : Nat) s_2.fst (1 : Nat) new
 (Array.push h (Vc.row (TVs.cells [TV.int IntKind.i64 n]) (3 : Nat)))
 fun (s : Sl) (h : Array Obj) ↦ K (s, IntKind.wrap IntKind.i64 (s_2.snd + (1 : Int))) h)
 (K (s_2.fst, IntKind.wrap IntKind.i64 (s_2.snd + (1 : Int))) h))
 (R (TV.val (TV.tup [TV.slice s_2.fst, TV.bool true])) h))
 fun (J : Sl × Bool → Array Obj → Prop) ↦
 If (!decide ((↑s.len : Int) = (↑row.len : Int))) (R (TV.val (TV.tup [TV.slice Sl.nil, TV.bool false])) h)
 (If (decide ((↑s.len : Int) = (0 : Int))) (R (TV.val (TV.tup [TV.slice Sl.nil, TV.bool false])) h)
 (J (Sl.mk none (0 : Nat) (0 : Nat), false) h))

theorem tollerref06_Pick_calls (c_Validators : Sl) (c_Epoch : Int) (c_Committee : Int) (c_Nodes : Int) (c_Orphans : Int) (c_Early : Int) (c_Quota : Int) (c_Peers : Int) (c_Bytes : Int) (c_Window : Int) (c_Ban : Int) (c_Decay : Int) (slot : Int) (row : Sl) (h : Heap) (R : Value → Heap → Prop) (H : tollerref06_Pick_vc c_Validators c_Epoch c_Committee c_Nodes c_Orphans c_Early c_Quota c_Peers c_Bytes c_Window c_Ban c_Decay slot row h R) : CallsH Try.prog 35 (TVs.vals [TV.agg [TV.slice c_Validators, TV.int IntKind.i64 c_Epoch, TV.int IntKind.i64 c_Committee, TV.int IntKind.i64 c_Nodes, TV.int IntKind.i64 c_Orphans, TV.int IntKind.i64 c_Early, TV.int IntKind.i64 c_Quota, TV.int IntKind.i64 c_Peers, TV.int IntKind.i64 c_Bytes, TV.int IntKind.i64 c_Window, TV.int IntKind.i64 c_Ban, TV.int IntKind.i64 c_Decay], TV.int IntKind.i64 slot, TV.slice row]) h R :=
 vcFn_sound (C := ctx) ctx_ok (fn := Try.f35) Try.func35 ((by kernel_rfl : tollerref06_Pick_vc c_Validators c_Epoch c_Committee c_Nodes c_Orphans c_Early c_Quota c_Peers c_Bytes c_Window c_Ban c_Decay slot row h R = vcFn ctx Try.f35 [TV.agg [TV.slice c_Validators, TV.int IntKind.i64 c_Epoch, TV.int IntKind.i64 c_Committee, TV.int IntKind.i64 c_Nodes, TV.int IntKind.i64 c_Orphans, TV.int IntKind.i64 c_Early, TV.int IntKind.i64 c_Quota, TV.int IntKind.i64 c_Peers, TV.int IntKind.i64 c_Bytes, TV.int IntKind.i64 c_Window, TV.int IntKind.i64 c_Ban, TV.int IntKind.i64 c_Decay], TV.int IntKind.i64 slot, TV.slice row] h R) ▸ H)


def tollerref06_Place_vc (c_Validators : Sl) (c_Epoch : Int) (c_Committee : Int) (c_Nodes : Int) (c_Orphans : Int) (c_Early : Int) (c_Quota : Int) (c_Peers : Int) (c_Bytes : Int) (c_Window : Int) (c_Ban : Int) (c_Decay : Int) (slot : Int) (who : Int) (h : Heap) (R : Value → Heap → Prop) : Prop :=
 Vc.Bind
 (newTV h
 (TV.agg
 [TV.slice c_Validators, TV.int IntKind.i64 c_Epoch, TV.int IntKind.i64 c_Committee, TV.int IntKind.i64 c_Nodes, TV.int IntKind.i64 c_Orphans,
 TV.int IntKind.i64 c_Early, TV.int IntKind.i64 c_Quota, TV.int IntKind.i64 c_Peers, TV.int IntKind.i64 c_Bytes, TV.int IntKind.i64 c_Window,
 TV.int IntKind.i64 c_Ban, TV.int IntKind.i64 c_Decay])
 (24 : Nat))
 fun (h_1 : Array Obj) ↦
 ∃ (s : Sl),
 ∃ (n : Int),
 ∃ (n_1 : Int),
 ∃ (n_2 : Int),
 ∃ (n_3 : Int),
 ∃ (n_4 : Int),
 ∃ (n_5 : Int),
 ∃ (n_6 : Int),
 ∃ (n_7 : Int),
 ∃ (n_8 : Int),
 ∃ (n_9 : Int),
 ∃ (n_10 : Int),
 (at1 h_1 (Array.size h) (0 : Nat) (slVal s) ∧
 at1 h_1 (Array.size h) (1 : Nat) (Value.int IntKind.i64 n) ∧
 at1 h_1 (Array.size h) (2 : Nat) (Value.int IntKind.i64 n_1) ∧
 at1 h_1 (Array.size h) (3 : Nat) (Value.int IntKind.i64 n_2) ∧
 at1 h_1 (Array.size h) (4 : Nat) (Value.int IntKind.i64 n_3) ∧
 at1 h_1 (Array.size h) (5 : Nat) (Value.int IntKind.i64 n_4) ∧
 at1 h_1 (Array.size h) (6 : Nat) (Value.int IntKind.i64 n_5) ∧
 at1 h_1 (Array.size h) (7 : Nat) (Value.int IntKind.i64 n_6) ∧
 at1 h_1 (Array.size h) (8 : Nat) (Value.int IntKind.i64 n_7) ∧
 at1 h_1 (Array.size h) (9 : Nat) (Value.int IntKind.i64 n_8) ∧
 at1 h_1 (Array.size h) (10 : Nat) (Value.int IntKind.i64 n_9) ∧
 at1 h_1 (Array.size h) (11 : Nat) (Value.int IntKind.i64 n_10)) ∧
 CallsH Try.prog (26 : Nat)
 (TVs.vals
 [TV.agg
 [TV.slice s, TV.int IntKind.i64 n, TV.int IntKind.i64 n_1, TV.int IntKind.i64 n_2, TV.int IntKind.i64 n_3,
 TV.int IntKind.i64 n_4, TV.int IntKind.i64 n_5, TV.int IntKind.i64 n_6, TV.int IntKind.i64 n_7, TV.int IntKind.i64 n_8,
 TV.int IntKind.i64 n_9, TV.int IntKind.i64 n_10],
 TV.int IntKind.i64 slot])
 h_1 fun (v : Value) (h : Array Obj) ↦
 ∃ (s : Sl),
 v = TV.val (TV.slice s) ∧
 Go.Vc.Loop ((0 : Int), (0 : Int)) h fun (s_1 : Int × Int) (h : Array Obj) (K : Int × Int → Array Obj → Prop) ↦
 If (decide (s_1.snd < (↑s.len : Int)))
 ((0 : Int) ≤ s_1.snd ∧
 s_1.snd < (↑s.len : Int) ∧
 Nn s.a fun (l : Go.Vc.Loc) ↦
 ∃ (n : Int),
 at1 h l.b (l.o + Int.toNat s_1.snd * (1 : Nat)) (Value.int IntKind.i64 n) ∧
 If (decide (n = who)) (R (TV.val (TV.int IntKind.i64 s_1.snd)) h)
 (K (s_1.fst, IntKind.wrap IntKind.i64 (s_1.snd + (1 : Int))) h))
 (R (TV.val (TV.int IntKind.i64 (-1 : Int))) h)

theorem tollerref06_Place_calls (c_Validators : Sl) (c_Epoch : Int) (c_Committee : Int) (c_Nodes : Int) (c_Orphans : Int) (c_Early : Int) (c_Quota : Int) (c_Peers : Int) (c_Bytes : Int) (c_Window : Int) (c_Ban : Int) (c_Decay : Int) (slot : Int) (who : Int) (h : Heap) (R : Value → Heap → Prop) (H : tollerref06_Place_vc c_Validators c_Epoch c_Committee c_Nodes c_Orphans c_Early c_Quota c_Peers c_Bytes c_Window c_Ban c_Decay slot who h R) : CallsH Try.prog 36 (TVs.vals [TV.agg [TV.slice c_Validators, TV.int IntKind.i64 c_Epoch, TV.int IntKind.i64 c_Committee, TV.int IntKind.i64 c_Nodes, TV.int IntKind.i64 c_Orphans, TV.int IntKind.i64 c_Early, TV.int IntKind.i64 c_Quota, TV.int IntKind.i64 c_Peers, TV.int IntKind.i64 c_Bytes, TV.int IntKind.i64 c_Window, TV.int IntKind.i64 c_Ban, TV.int IntKind.i64 c_Decay], TV.int IntKind.i64 slot, TV.int IntKind.i64 who]) h R :=
 vcFn_sound (C := ctx) ctx_ok (fn := Try.f36) Try.func36 ((by kernel_rfl : tollerref06_Place_vc c_Validators c_Epoch c_Committee c_Nodes c_Orphans c_Early c_Quota c_Peers c_Bytes c_Window c_Ban c_Decay slot who h R = vcFn ctx Try.f36 [TV.agg [TV.slice c_Validators, TV.int IntKind.i64 c_Epoch, TV.int IntKind.i64 c_Committee, TV.int IntKind.i64 c_Nodes, TV.int IntKind.i64 c_Orphans, TV.int IntKind.i64 c_Early, TV.int IntKind.i64 c_Quota, TV.int IntKind.i64 c_Peers, TV.int IntKind.i64 c_Bytes, TV.int IntKind.i64 c_Window, TV.int IntKind.i64 c_Ban, TV.int IntKind.i64 c_Decay], TV.int IntKind.i64 slot, TV.int IntKind.i64 who] h R) ▸ H)


end Go.Proofs.Ytgdhddignbkloaa
end

section
/- The document's digest: a block does what the program's take does. -/
namespace Go.Proofs.Ytgdhddignbkloaa.Board
open Go Go.Vc
section
variable {R : Value → Heap → Prop} {h : Heap}

theorem right_spec {x n : Int} (hr : R (TV.int .u32 (rightF x n)).val h) : CallsH Try.prog 67 (TVs.vals [.int .u32 x, .int .i64 n]) h R := by
  apply tollerref03_right_calls
  unfold tollerref03_right_vc
  exact ⟨wrap_u64_nonneg _, wrap_u64_nonneg _, hr⟩

theorem by8_get {bs : List UInt8} {i : Nat} : ((bs.getD i 0).toNat : Int) = by8 bs i := rfl

theorem grow_by8 (n : Int) (bs : List UInt8) (i : Nat) : IntKind.wrap .u32 (IntKind.wrap .u32 (n * 256) + IntKind.wrap .u32 ((bs.getD i 0).toNat : Int)) = grow n (bs.getD i 0) := rfl

/-- A word out of its first bytes. -/
def growN (bs : List UInt8) (i : Nat) : Nat → Int
  | 0 => 0
  | k + 1 => grow (growN bs i k) (bs.getD (4 * i + k) 0)

/-- The words so far: those up to the i-th are there, the others are 0. -/
def Part (w : Ws 64) (bs : List UInt8) (i : Nat) : Prop := (∀ j, j < i → wd w j = wd (layF bs) j) ∧ ∀ j, i ≤ j → wd w j = 0

theorem lay_low (bs : List UInt8) (j : Nat) (hj : j < 16) : wd (layF bs) j = be (by8 bs (4 * j)) (by8 bs (4 * j + 1)) (by8 bs (4 * j + 2)) (by8 bs (4 * j + 3)) := by
  unfold layF
  rw [layB_wd (layA bs 16) 0 j (Nat.zero_le _) (by omega) 48 (Nat.zero_le _) (Nat.le_refl _), layB, ← layA_wd bs (j + 1) j (Nat.lt_succ_self j) (by omega), layA, wd_set, if_pos ⟨rfl, by omega⟩]

theorem lay_high (bs : List UInt8) (j : Nat) (h0 : 16 ≤ j) (h1 : j < 64) : wd (layF bs) j = exAt (layF bs) j := by
  unfold layF
  obtain ⟨i, rfl⟩ : ∃ i, j = 16 + i := ⟨j - 16, by omega⟩
  have e : ∀ k, k < 16 + i → wd (layB (layA bs 16) 48) k = wd (layB (layA bs 16) i) k := fun k hk => layB_wd (layA bs 16) i k (by omega) hk 48 (by omega) (Nat.le_refl _)
  rw [layB_wd (layA bs 16) (i + 1) (16 + i) (by omega) (by omega) 48 (by omega) (Nat.le_refl _), layB, wd_set, if_pos ⟨rfl, h1⟩]
  unfold exAt
  rw [e _ (by omega), e _ (by omega), e _ (by omega), e _ (by omega)]

theorem eight (X : Ws 8) : Ws.set (Ws.set (Ws.set (Ws.set (Ws.set (Ws.set (Ws.set (Ws.set (Ws.zero 8) 0 (wd X 0)) 1 (wd X 1)) 2 (wd X 2)) 3 (wd X 3)) 4 (wd X 4)) 5 (wd X 5)) 6 (wd X 6)) 7 (wd X 7) = X := by
  obtain ⟨l, hl⟩ := X
  match l, hl with
  | [a, b, c, d, e, f, g, k], _ => rfl

theorem round_wd (w k : Ws 64) (i : Nat) (v : Ws 8) :
    wd (roundW w k i v) 0 = t0 (wd v 7) (turnF (wd v 4) 6) (turnF (wd v 4) 11) (turnF (wd v 4) 25) (wd v 4) (wd v 5) (wd v 6) (wd k i) (wd w i) (turnF (wd v 0) 2) (turnF (wd v 0) 13) (turnF (wd v 0) 22) (wd v 0) (wd v 1) (wd v 2) (wd v 1) (wd v 2) ∧
    wd (roundW w k i v) 1 = wd v 0 ∧ wd (roundW w k i v) 2 = wd v 1 ∧ wd (roundW w k i v) 3 = wd v 2 ∧
    wd (roundW w k i v) 4 = t4 (wd v 3) (wd v 7) (turnF (wd v 4) 6) (turnF (wd v 4) 11) (turnF (wd v 4) 25) (wd v 4) (wd v 5) (wd v 6) (wd k i) (wd w i) ∧
    wd (roundW w k i v) 5 = wd v 4 ∧ wd (roundW w k i v) 6 = wd v 5 ∧ wd (roundW w k i v) 7 = wd v 6 := by
  unfold roundW
  refine ⟨?_, ?_, ?_, ?_, ?_, ?_, ?_, ?_⟩ <;> rw [wd_set, wd_set]
  · rw [if_pos ⟨rfl, by decide⟩]
  · rw [if_neg (by decide), if_neg (by decide), wd_shift _ _ (by decide) (by decide)]
  · rw [if_neg (by decide), if_neg (by decide), wd_shift _ _ (by decide) (by decide)]
  · rw [if_neg (by decide), if_neg (by decide), wd_shift _ _ (by decide) (by decide)]
  · rw [if_neg (by decide), if_pos ⟨rfl, by decide⟩, wd_shift _ _ (by decide) (by decide)]
  · rw [if_neg (by decide), if_neg (by decide), wd_shift _ _ (by decide) (by decide)]
  · rw [if_neg (by decide), if_neg (by decide), wd_shift _ _ (by decide) (by decide)]
  · rw [if_neg (by decide), if_neg (by decide), wd_shift _ _ (by decide) (by decide)]

set_option maxHeartbeats 1000000 in
theorem block_spec {w0 : Ws 8} {bs : List UInt8} (hl : bs.length = 64) (hr : ∀ h', Ext h h' → R (TV.words .u32 8 (takeF w0 bs)).val h') : CallsH Try.prog 58 (TVs.vals [.words .u32 8 w0, .words .u32 64 keysW, .str bs]) h R := by
  apply tollerref03_block_calls
  unfold tollerref03_block_vc
  refine newTV_in fun h1 v1 x1 s1 => newTV_in fun h2 v2 x2 s2 => newTV_in fun h3 v3 x3 s3 => newTV_in fun h4 v4 x4 s4 => ?_
  have va := ((v1.ext x2).ext x3).ext x4
  have vb := (v2.ext x3).ext x4
  have vc := v3.ext x4
  have x04 := ((x1.trans x2).trans x3).trans x4
  refine ⟨fun i hh => 0 ≤ i ∧ i ≤ 64 ∧ Only (· = h3.size) h4 hh ∧ ∃ w : Ws 64, Var 94 hh h3.size (.words .u32 64 w) ∧ Part w bs i.toNat, fun i _ => ((64 : Int) - i).toNat, ⟨Int.le_refl 0, by decide, Only.refl _ _, Ws.zero 64, v4, (fun j hj => absurd hj (by simp)), fun j _ => ?_⟩, ?_⟩
  · unfold wd Ws.zero
    simp only [List.getD_eq_getElem?_getD, List.getElem?_replicate]
    split <;> rfl
  rintro i h5 ⟨i0, i1, o5, w, v5, p1, p2⟩
  refine If.dec.2 ⟨fun hi => ?_, fun hi => ?_⟩
  · have hi1 : (i + 1).toNat = i.toNat + 1 := by omega
    have next : ∀ (hh : Heap) (w' : Ws 64), Only (· = h3.size) h4 hh → Var 94 hh h3.size (.words .u32 64 w') → (∀ j, j ≠ i.toNat → wd w' j = wd w j) → wd w' i.toNat = wd (layF bs) i.toNat →
        ((0 ≤ i + 1 ∧ i + 1 ≤ 64 ∧ Only (· = h3.size) h4 hh ∧ ∃ w : Ws 64, Var 94 hh h3.size (.words .u32 64 w) ∧ Part w bs (i + 1).toNat) ∧ ((64 : Int) - (i + 1)).toNat < ((64 : Int) - i).toNat) := by
      intro hh w' oh vh hn hw
      refine ⟨⟨by omega, by omega, oh, w', vh, fun j hj => ?_, fun j hj => ?_⟩, by omega⟩
      · by_cases hji : j = i.toNat
        · rw [hji]; exact hw
        · rw [hn j hji]; exact p1 j (by omega)
      · rw [hn j (by omega)]; exact p2 j (by omega)
    rw [wrap_i64 (n := i + 1) (by omega) (by omega)]
    refine If.dec.2 ⟨fun h16 => ?_, fun h16 => ?_⟩
    · -- four bytes make a word
      refine ⟨fun k hh => 0 ≤ k ∧ k ≤ 4 ∧ Only (· = h3.size) h4 hh ∧ ∃ w' : Ws 64, Var 94 hh h3.size (.words .u32 64 w') ∧ (∀ j, j ≠ i.toNat → wd w' j = wd w j) ∧ wd w' i.toNat = growN bs i.toNat k.toNat, fun k _ => ((4 : Int) - k).toNat,
        ⟨Int.le_refl 0, by decide, o5, w, v5, (fun j _ => rfl), p2 _ (Nat.le_refl _)⟩, ?_⟩
      rintro k h6 ⟨k0, k1, o6, w', v6, q1, q2⟩
      refine If.dec.2 ⟨fun hk => ?_, fun hk => ?_⟩
      · rw [wrap_i64 (n := 4 * i) (by omega) (by omega), wrap_i64 (n := 4 * i + k) (by omega) (by omega), wrap_i64 (n := k + 1) (by omega) (by omega)]
        refine ⟨i0, by omega, _, word_at v6 (by omega), by omega, by omega, i0, by omega, put_word v6 (i := i.toNat) (by omega) (by omega) fun h7 v7 o7 s7 => ?_⟩
        refine ⟨⟨by omega, by omega, o6.trans o7, _, v7, fun j hj => ?_, ?_⟩, by first | omega | (dsimp only; omega)⟩
        · rw [wd_set, if_neg (fun hx => hj hx.1.symm)]; exact q1 j hj
        · rw [wd_set, if_pos ⟨rfl, by omega⟩, q2]
          have t0' : (4 * i + k).toNat = 4 * i.toNat + k.toNat := by omega
          have t1' : (k + 1).toNat = k.toNat + 1 := by omega
          rw [t0', t1']
          rfl
      · have hk4 : k.toNat = 4 := by omega
        rw [hk4] at q2
        refine next h6 w' o6 v6 q1 ?_
        rw [q2, lay_low bs i.toNat (by omega)]
        exact grow4 _ _ _ _
    · rw [wrap_i64 (n := i - 15) (by omega) (by omega), wrap_i64 (n := i - 2) (by omega) (by omega), wrap_i64 (n := i - 16) (by omega) (by omega), wrap_i64 (n := i - 7) (by omega) (by omega)]
      have e15 : (i - 15).toNat = i.toNat - 15 := by omega
      have e2 : (i - 2).toNat = i.toNat - 2 := by omega
      have e16 : (i - 16).toNat = i.toNat - 16 := by omega
      have e7 : (i - 7).toNat = i.toNat - 7 := by omega
      rw [e15, e2, e16, e7]
      refine ⟨by omega, by omega, _, word_at v5 (by omega), by omega, by omega, _, word_at v5 (by omega), by omega, by omega, _, word_at v5 (by omega), by omega, by omega, _, word_at v5 (by omega), by decide, by decide, ?_⟩
      refine right_spec ⟨_, rfl, Ext.refl _, right_spec ⟨_, rfl, Ext.refl _, right_spec ⟨_, rfl, Ext.refl _, right_spec ⟨_, rfl, Ext.refl _, ?_⟩⟩⟩⟩
      refine ⟨i0, by omega, put_word v5 (i := i.toNat) (by omega) (by omega) fun h6 v6 o6 s6 => ?_⟩
      refine next h6 _ (o5.trans o6) v6 (fun j hj => by rw [wd_set, if_neg (fun hx => hj hx.1.symm)]) ?_
      rw [wd_set, if_pos ⟨rfl, by omega⟩, lay_high bs i.toNat (by omega) (by omega), ex_turned _ _ _ _ _ _ _ _ _ _ rfl rfl]
      unfold exAt
      rw [p1 _ (by omega), p1 _ (by omega), p1 _ (by omega), p1 _ (by omega), right7, right18, right17, right19]
  · have hw : w = layF bs := ws_eq fun j hj => p1 j (by omega)
    subst hw
    have va5 : Var 90 h5 h.size (.words .u32 8 w0) := va.only o5 (by omega)
    have vb5 : Var 94 h5 h1.size (.words .u32 64 keysW) := vb.only o5 (by omega)
    have vc5 : Var 90 h5 h2.size (.words .u32 8 (Ws.zero 8)) := vc.only o5 (by omega)
    refine ⟨by decide, by decide, _, word_at va5 (by decide), by decide, by decide, _, word_at va5 (by decide), by decide, by decide, _, word_at va5 (by decide), by decide, by decide, _, word_at va5 (by decide), by decide, by decide, _, word_at va5 (by decide),
      by decide, by decide, _, word_at va5 (by decide), by decide, by decide, _, word_at va5 (by decide), by decide, by decide, _, word_at va5 (by decide), ?_⟩
    refine ⟨fun σ hh => hh = h5 ∧ 0 ≤ σ.2.2.2.2.2.2.2.2 ∧ σ.2.2.2.2.2.2.2.2 ≤ 64 ∧ ∃ V : Ws 8, V = roundsW (layF bs) keysW w0 σ.2.2.2.2.2.2.2.2.toNat ∧ σ.1 = wd V 0 ∧ σ.2.1 = wd V 1 ∧ σ.2.2.1 = wd V 2 ∧ σ.2.2.2.1 = wd V 3 ∧ σ.2.2.2.2.1 = wd V 4 ∧ σ.2.2.2.2.2.1 = wd V 5 ∧ σ.2.2.2.2.2.2.1 = wd V 6 ∧ σ.2.2.2.2.2.2.2.1 = wd V 7,
      fun σ _ => ((64 : Int) - σ.2.2.2.2.2.2.2.2).toNat, ⟨rfl, Int.le_refl 0, (by decide : (0 : Int) ≤ 64), w0, rfl, rfl, rfl, rfl, rfl, rfl, rfl, rfl, rfl⟩, ?_⟩
    rintro ⟨a, b, c, d, e, f, g, k, j⟩ hh ⟨hhe, j0, j1, V, hV, ha, hb, hc, hd, he, hf, hg, hk⟩
    obtain rfl := hhe.symm
    dsimp only at j0 j1 hV ha hb hc hd he hf hg hk ⊢
    subst ha hb hc hd he hf hg hk
    refine If.dec.2 ⟨fun hj => ?_, fun hj => ?_⟩
    · rw [wrap_i64 (n := j + 1) (by omega) (by omega)]
      refine ⟨j0, by omega, _, word_at vb5 (by omega), j0, by omega, _, word_at v5 (by omega), ?_⟩
      refine right_spec ⟨_, rfl, Ext.refl _, right_spec ⟨_, rfl, Ext.refl _, right_spec ⟨_, rfl, Ext.refl _, right_spec ⟨_, rfl, right_spec ⟨_, rfl, right_spec ⟨_, rfl, ?_⟩⟩⟩⟩⟩⟩
      have hj1 : (j + 1).toNat = j.toNat + 1 := by omega
      obtain ⟨r0, r1, r2, r3, r4, r5, r6, r7⟩ := round_wd (layF bs) keysW j.toNat V
      refine ⟨⟨by trivial, by first | omega | (dsimp only; omega), by first | omega | (dsimp only; omega), roundW (layF bs) keysW j.toNat V, ?_, ?_, ?_, ?_, ?_, ?_, ?_, ?_, ?_⟩, by first | omega | (dsimp only; omega)⟩
      · rw [hj1, roundsW, ← hV]
      · rw [r0, ← right6, ← right11, ← right25, ← right2, ← right13, ← right22]; rfl
      · exact r1.symm
      · exact r2.symm
      · exact r3.symm
      · rw [r4, ← right6, ← right11, ← right25]; rfl
      · exact r5.symm
      · exact r6.symm
      · exact r7.symm
    · have hj2 : j.toNat = 64 := by omega
      rw [hj2] at hV
      refine ⟨by decide, by decide, _, word_at va5 (by decide), by decide, by decide, _, word_at va5 (by decide), by decide, by decide, _, word_at va5 (by decide), by decide, by decide, _, word_at va5 (by decide), by decide, by decide, _, word_at va5 (by decide),
        by decide, by decide, _, word_at va5 (by decide), by decide, by decide, _, word_at va5 (by decide), by decide, by decide, _, word_at va5 (by decide), ?_⟩
      have e8 := eight (takeF w0 bs)
      have sw : ∀ j, j < 8 → wd (takeF w0 bs) j = IntKind.wrap .u32 (wd w0 j + wd V j) := fun j hj => by
        unfold takeF
        rw [sum_wd _ _ 8 j (Nat.le_refl _), if_pos hj, hV]
      rw [sw 0 (by decide), sw 1 (by decide), sw 2 (by decide), sw 3 (by decide), sw 4 (by decide), sw 5 (by decide), sw 6 (by decide), sw 7 (by decide)] at e8
      have x05 : Ext h h5 := Only.cut x04 o5 fun i hi => by omega
      have fin : ∀ X : Ws 8, X = takeF w0 bs → wok h5 h2.size 0 8 ∧ Bind (TV.put h5 h2.size 0 (TV.words .u32 8 X)) fun hh => ∃ w : Ws 8, atWords hh h2.size 0 .u32 8 w ∧ R (TV.words .u32 8 w).val hh := by
        intro X hX
        subst hX
        exact put_in vc5 (t := .words .u32 8 (takeF w0 bs)) wsz fun h6 v6 o6 s6 => ⟨_, v6.at, hr h6 (Only.cut x05 o6 fun i hi => by omega)⟩
      exact fin _ e8

end
end Go.Proofs.Ytgdhddignbkloaa.Board
end

section
/- The document's digest: primes, roots, and the whole. -/
namespace Go.Proofs.Ytgdhddignbkloaa.Board
open Go Go.Vc
set_option maxRecDepth 100000

def mulHi (x y : Int) : Int := (IntKind.wrap IntKind.u64 (IntKind.wrap IntKind.u64 (IntKind.wrap IntKind.u64 (Int.fdiv x ((2 : Int) ^ min (Int.toNat (32 : Int)) (IntKind.bits IntKind.u64)) * Int.fdiv y ((2 : Int) ^ min (Int.toNat (32 : Int)) (IntKind.bits IntKind.u64))) + Int.fdiv (IntKind.wrap IntKind.u64 (IntKind.wrap IntKind.u64 (Int.fdiv x ((2 : Int) ^ min (Int.toNat (32 : Int)) (IntKind.bits IntKind.u64)) * IntKind.wrap IntKind.u64 (↑(BitVec.toNat (BitVec.ofInt (IntKind.bits IntKind.u64) y &&& BitVec.ofInt (IntKind.bits IntKind.u64) (4294967295 : Int))) : Int)) + Int.fdiv (IntKind.wrap IntKind.u64 (IntKind.wrap IntKind.u64 (↑(BitVec.toNat (BitVec.ofInt (IntKind.bits IntKind.u64) x &&& BitVec.ofInt (IntKind.bits IntKind.u64) (4294967295 : Int))) : Int) * IntKind.wrap IntKind.u64 (↑(BitVec.toNat (BitVec.ofInt (IntKind.bits IntKind.u64) y &&& BitVec.ofInt (IntKind.bits IntKind.u64) (4294967295 : Int))) : Int))) ((2 : Int) ^ min (Int.toNat (32 : Int)) (IntKind.bits IntKind.u64)))) ((2 : Int) ^ min (Int.toNat (32 : Int)) (IntKind.bits IntKind.u64))) + Int.fdiv (IntKind.wrap IntKind.u64 (IntKind.wrap IntKind.u64 (↑(BitVec.toNat (BitVec.ofInt (IntKind.bits IntKind.u64) (IntKind.wrap IntKind.u64 (IntKind.wrap IntKind.u64 (Int.fdiv x ((2 : Int) ^ min (Int.toNat (32 : Int)) (IntKind.bits IntKind.u64)) * IntKind.wrap IntKind.u64 (↑(BitVec.toNat (BitVec.ofInt (IntKind.bits IntKind.u64) y &&& BitVec.ofInt (IntKind.bits IntKind.u64) (4294967295 : Int))) : Int)) + Int.fdiv (IntKind.wrap IntKind.u64 (IntKind.wrap IntKind.u64 (↑(BitVec.toNat (BitVec.ofInt (IntKind.bits IntKind.u64) x &&& BitVec.ofInt (IntKind.bits IntKind.u64) (4294967295 : Int))) : Int) * IntKind.wrap IntKind.u64 (↑(BitVec.toNat (BitVec.ofInt (IntKind.bits IntKind.u64) y &&& BitVec.ofInt (IntKind.bits IntKind.u64) (4294967295 : Int))) : Int))) ((2 : Int) ^ min (Int.toNat (32 : Int)) (IntKind.bits IntKind.u64)))) &&& BitVec.ofInt (IntKind.bits IntKind.u64) (4294967295 : Int))) : Int) + IntKind.wrap IntKind.u64 (IntKind.wrap IntKind.u64 (↑(BitVec.toNat (BitVec.ofInt (IntKind.bits IntKind.u64) x &&& BitVec.ofInt (IntKind.bits IntKind.u64) (4294967295 : Int))) : Int) * Int.fdiv y ((2 : Int) ^ min (Int.toNat (32 : Int)) (IntKind.bits IntKind.u64))))) ((2 : Int) ^ min (Int.toNat (32 : Int)) (IntKind.bits IntKind.u64))))
def mulLo (x y : Int) : Int := IntKind.wrap .u64 (x * y)

def aboveF (x p power : Int) : Bool :=
  if power = 2 then (if p < mulHi x x then true else if mulHi x x = p then decide (0 < mulLo x x) else false)
  else
    let mid := (mulLo (mulHi x x) x + mulHi (mulLo x x) x + 0) % 18446744073709551616
    let top := IntKind.wrap .u64 (mulHi (mulHi x x) x + (mulLo (mulHi x x) x + mulHi (mulLo x x) x + 0) / 18446744073709551616)
    if top = Int.fdiv p ((2 : Int) ^ min (Int.toNat 32) (IntKind.bits .u64)) then
      (if mid = IntKind.wrap .u64 (p * (2 : Int) ^ min (Int.toNat 32) (IntKind.bits .u64)) then decide (0 < mulLo (mulLo x x) x)
       else decide (IntKind.wrap .u64 (p * (2 : Int) ^ min (Int.toNat 32) (IntKind.bits .u64)) < mid))
    else decide (Int.fdiv p ((2 : Int) ^ min (Int.toNat 32) (IntKind.bits .u64)) < top)

def rootGo (p power : Int) : Nat → Int → Int
  | 0, x => x
  | k + 1, x => if aboveF (IntKind.wrap .u64 (x + IntKind.wrap .u64 (1 * (2 : Int) ^ min (Int.toNat (IntKind.wrap .u64 (k : Int))) (IntKind.bits .u64)))) p power = true then rootGo p power k x
    else rootGo p power k (IntKind.wrap .u64 (x + IntKind.wrap .u64 (1 * (2 : Int) ^ min (Int.toNat (IntKind.wrap .u64 (k : Int))) (IntKind.bits .u64))))

def rootF (p power : Int) : Int := IntKind.wrap .u32 (Int.tmod (rootGo p power 40 0) 4294967296)

/-- The primes among the first numbers from 2 on. -/
def genL : Nat → List Int
  | 0 => []
  | k + 1 => if (genL k).all (fun p => !decide (Int.tmod ((k : Int) + 2) p = 0)) = true then genL k ++ [(k : Int) + 2] else genL k

abbrev u64s (l : List Int) : List TV := l.map (TV.int .u64)

section
variable {R : Value → Heap → Prop} {h : Heap}

theorem mul_spec {x y : Int} (hr : R (TV.tup [.int .u64 (mulHi x y), .int .u64 (mulLo x y)]).val h) : CallsH Try.prog 73 (TVs.vals [.int .u64 x, .int .u64 y]) h R := by
  apply math_bits_Mul64_calls
  unfold math_bits_Mul64_vc
  exact ⟨by decide, by decide, by decide, by decide, by decide, hr⟩

theorem above_spec {x p power : Int} (hr : R (TV.bool (aboveF x p power)).val h) : CallsH Try.prog 66 (TVs.vals [.int .u64 x, .int .u64 p, .int .i64 power]) h R := by
  apply tollerref03_above_calls
  unfold tollerref03_above_vc
  refine mul_spec ⟨_, _, rfl, ?_⟩
  unfold aboveF at hr
  refine If.dec.2 ⟨fun h2 => ?_, fun h2 => ?_⟩
  · rw [if_pos h2] at hr
    refine If.dec.2 ⟨fun h3 => ?_, fun h3 => If.dec.2 ⟨fun h4 => ?_, fun h4 => ?_⟩⟩
    · rw [if_pos h3] at hr; exact hr
    · rw [if_neg h3, if_pos h4] at hr; exact hr
    · rw [if_neg h3, if_neg h4] at hr; exact hr
  · rw [if_neg h2] at hr
    refine mul_spec ⟨_, _, rfl, mul_spec ⟨_, _, rfl, wrap_u64_nonneg _, ?_⟩⟩
    refine ⟨wrap_u64_nonneg _, Int.le_refl _, by decide, by decide, If.split (fun hb => ⟨by decide, ?_⟩) fun hb => ⟨by decide, If.split (fun hc => ?_) fun hc => ?_⟩⟩
    · have h3 : ¬ (IntKind.wrap .u64 (mulHi (mulHi x x) x + (mulLo (mulHi x x) x + mulHi (mulLo x x) x + 0) / 18446744073709551616) = Int.fdiv p ((2 : Int) ^ min (Int.toNat 32) (IntKind.bits .u64))) := by simpa using hb
      simp only [if_neg h3] at hr
      exact hr
    · have h3 : (IntKind.wrap .u64 (mulHi (mulHi x x) x + (mulLo (mulHi x x) x + mulHi (mulLo x x) x + 0) / 18446744073709551616) = Int.fdiv p ((2 : Int) ^ min (Int.toNat 32) (IntKind.bits .u64))) := by simpa using hb
      have h4 : ¬ ((mulLo (mulHi x x) x + mulHi (mulLo x x) x + 0) % 18446744073709551616 = IntKind.wrap .u64 (p * (2 : Int) ^ min (Int.toNat 32) (IntKind.bits .u64))) := by simpa using hc
      simp only [if_pos h3, if_neg h4] at hr
      exact hr
    · have h3 : (IntKind.wrap .u64 (mulHi (mulHi x x) x + (mulLo (mulHi x x) x + mulHi (mulLo x x) x + 0) / 18446744073709551616) = Int.fdiv p ((2 : Int) ^ min (Int.toNat 32) (IntKind.bits .u64))) := by simpa using hb
      have h4 : ((mulLo (mulHi x x) x + mulHi (mulLo x x) x + 0) % 18446744073709551616 = IntKind.wrap .u64 (p * (2 : Int) ^ min (Int.toNat 32) (IntKind.bits .u64))) := by simpa using hc
      simp only [if_pos h3, if_pos h4] at hr
      exact hr

theorem root_spec {p power : Int} (hr : R (TV.int .u32 (rootF p power)).val h) : CallsH Try.prog 57 (TVs.vals [.int .u64 p, .int .i64 power]) h R := by
  apply tollerref03_root_calls
  unfold tollerref03_root_vc
  obtain ⟨G, hG⟩ : ∃ G, G = rootGo p power 40 0 := ⟨_, rfl⟩
  unfold rootF at hr
  rw [← hG] at hr
  refine ⟨fun σ hh => hh = h ∧ ∃ k : Nat, k ≤ 40 ∧ σ.2 = (k : Int) - 1 ∧ G = rootGo p power k σ.1, fun σ _ => (σ.2 + 1).toNat, ⟨rfl, 40, Nat.le_refl _, rfl, hG⟩, ?_⟩
  clear hG
  rintro ⟨x, i⟩ hh ⟨rfl, k, hk, hi, hx⟩
  dsimp only at hi hx ⊢
  subst hi
  refine If.dec.2 ⟨fun h0 => ?_, fun h0 => ?_⟩
  · obtain ⟨m, rfl⟩ : ∃ m, k = m + 1 := ⟨k - 1, by omega⟩
    have hm : ((m + 1 : Nat) : Int) - 1 = (m : Int) := by omega
    rw [hm, wrap_i64 (n := (m : Int) - 1) (by omega) (by omega)]
    rw [rootGo] at hx
    refine ⟨wrap_u64_nonneg _, above_spec ⟨_, rfl, ?_⟩⟩
    cases hb : aboveF (IntKind.wrap .u64 (x + IntKind.wrap .u64 (1 * (2 : Int) ^ min (Int.toNat (IntKind.wrap .u64 (m : Int))) (IntKind.bits .u64)))) p power with
    | true =>
      rw [if_pos hb] at hx
      exact If.no ⟨⟨by trivial, m, by omega, rfl, hx⟩, by first | omega | (dsimp only; omega)⟩
    | false =>
      rw [if_neg (by rw [hb]; decide)] at hx
      exact If.yes ⟨wrap_u64_nonneg _, ⟨by trivial, m, by omega, rfl, hx⟩, by first | omega | (dsimp only; omega)⟩
  · have : k = 0 := by omega
    subst this
    rw [rootGo] at hx
    rw [hx] at hr
    exact ⟨by decide, hr⟩

theorem bytes57 : (ctx.ti 27).bytes = 8 := by kernel_rfl
theorem size57 : (ctx.ti 27).size = 1 := by kernel_rfl
theorem zsize57 : (ctx.ti 27).z.size = 1 := by kernel_rfl

theorem read_u64 {s : Sl} {l : List Int} {i : Int} (e : Elems 1 h s (u64s l)) (i0 : 0 ≤ i) (i1 : i < l.length) {K : Int → Prop} (hk : ∀ x, l[i.toNat]? = some x → K x) :
    0 ≤ i ∧ i < (s.len : Int) ∧ Nn s.a fun (p : Vc.Loc) => ∃ (n : Int), at1 h p.b (p.o + i.toNat * 1) (.int .u64 n) ∧ K n := by
  have hl := e.len
  rw [List.length_map] at hl
  refine e.read i0 (by omega) fun p t hla ht ha => ?_
  rw [List.getElem?_map] at ht
  obtain ⟨x, hx, rfl⟩ := Option.map_eq_some_iff.1 ht
  exact ⟨x, ha, hk x hx⟩

theorem genL_pos : ∀ k, ∀ p ∈ genL k, p ≠ 0
  | 0, p, hp => by cases hp
  | k + 1, p, hp => by
    rw [genL] at hp
    split at hp
    · rcases List.mem_append.1 hp with h1 | h1
      · exact genL_pos k p h1
      · have := List.mem_singleton.1 h1
        omega
    · exact genL_pos k p hp

theorem genL_len : ∀ k, (genL k).length ≤ k
  | 0 => Nat.le_refl _
  | k + 1 => by
    have := genL_len k
    rw [genL]
    split
    · rw [List.length_append, List.length_singleton]; omega
    · omega

theorem wrap_u64_small {n : Int} (h0 : 0 ≤ n) (h1 : n < 18446744073709551616) : IntKind.wrap .u64 n = n := by
  have : IntKind.wrap .u64 n = n % 18446744073709551616 := by
    unfold IntKind.wrap
    show (if (false && _) = true then _ else n % 2 ^ 64) = n % 18446744073709551616
    simp
  rw [this]
  omega

theorem primes_spec {n : Int} (J : Nat) (hJ : J < 1000) (hlt : ∀ j, j < J → ((genL j).length : Int) < n) (hge : n ≤ ((genL J).length : Int)) (hr : ∀ h' s, Own 27 1 h' s (u64s (genL J)) → Ext h h' → R (TV.slice s).val h') :
    CallsH Try.prog 56 (TVs.vals [.int .i64 n]) h R := by
  apply tollerref03_primes_calls
  unfold tollerref03_primes_vc
  refine ⟨fun σ hh => ∃ j : Nat, j ≤ J ∧ σ.2 = (j : Int) + 2 ∧ Own 27 1 hh σ.1 (u64s (genL j)) ∧ (∀ l, σ.1.a = some l → h.size ≤ l.b) ∧ Ext h hh, fun σ _ => ((J : Int) + 2 - σ.2).toNat, ⟨0, Nat.zero_le _, rfl, Own.nil _ _ _, (fun l hl => by cases hl), Ext.refl _⟩, ?_⟩
  rintro ⟨s, c⟩ h1 ⟨j, hj, hc, o1, b1, x1⟩
  dsimp only at hc o1 b1 ⊢
  subst hc
  have hlen := o1.len
  rw [List.length_map] at hlen
  have hjl := genL_len j
  refine If.dec.2 ⟨fun hn => ?_, fun hn => ?_⟩
  · have hjJ : j < J := by
      rcases Nat.lt_or_ge j J with h2 | h2
      · exact h2
      · have : j = J := by omega
        subst this
        omega
    refine ⟨fun σ hh => hh = h1 ∧ 0 ≤ σ.2 ∧ σ.2 ≤ s.len ∧ σ.1 = ((genL j).take σ.2.toNat).all (fun p => !decide (Int.tmod ((j : Int) + 2) p = 0)), fun σ _ => ((s.len : Int) - σ.2).toNat, ⟨rfl, Int.le_refl 0, by first | omega | (dsimp only; omega), rfl⟩, ?_⟩
    rintro ⟨f, i⟩ hh ⟨hhe, i0, i1, hf⟩
    obtain rfl := hhe.symm
    dsimp only at i0 i1 hf ⊢
    refine If.dec.2 ⟨fun hi => ?_, fun hi => ?_⟩
    · refine read_u64 o1.elems i0 (by omega) fun x hx => ?_
      have hx0 := genL_pos j x (List.mem_of_getElem? hx)
      have hi1 : (i + 1).toNat = i.toNat + 1 := by omega
      rw [wrap_i64 (n := i + 1) (by omega) (by omega)]
      have htk : ((genL j).take (i.toNat + 1)).all (fun p => !decide (Int.tmod ((j : Int) + 2) p = 0)) = (f && !decide (Int.tmod ((j : Int) + 2) x = 0)) := by
        rw [take_snoc hx, List.all_append, ← hf]
        simp
      cases f with
      | true =>
        refine If.yes ⟨hx0, ⟨by trivial, by first | omega | (dsimp only; omega), by first | omega | (dsimp only; omega), ?_⟩, by first | omega | (dsimp only; omega)⟩
        try dsimp only
        rw [hi1, htk, Bool.true_and]
      | false =>
        refine If.no ⟨⟨by trivial, by first | omega | (dsimp only; omega), by first | omega | (dsimp only; omega), ?_⟩, by first | omega | (dsimp only; omega)⟩
        try dsimp only
        rw [hi1, htk, Bool.false_and]
    · have hi2 : i.toNat = (genL j).length := by omega
      rw [hi2, List.take_length] at hf
      rw [wrap_u64_small (n := (j : Int) + 2 + 1) (by omega) (by omega)]
      have hg : genL (j + 1) = if f = true then genL j ++ [(j : Int) + 2] else genL j := by rw [genL, ← hf]
      cases f with
      | true =>
        refine If.yes (append1 (C := ctx) (T := 27) (sz := 1) (x := .int .u64 ((j : Int) + 2)) size57 zsize57 (by rw [bytes57]; decide) (by rw [bytes57]; omega) o1 rfl rfl fun s4 h4 o4 f4 b4 => ?_)
        refine ⟨⟨j + 1, by omega, by first | omega | (dsimp only; omega), ?_, fun l hl => ?_, Only.cut x1 f4 fun i ⟨l, hl, e⟩ => by rw [← e]; exact b1 l hl⟩, by first | omega | (dsimp only; omega)⟩
        · rw [hg, if_pos rfl]
          simp only [u64s, List.map_append, List.map_cons, List.map_nil] at o4 ⊢
          exact o4
        · rcases b4 l hl with ⟨l', h9, h10⟩ | h9
          · rw [← h10]; exact b1 l' h9
          · have := x1.size; omega
      | false =>
        refine If.no ⟨⟨j + 1, by omega, by first | omega | (dsimp only; omega), ?_, b1, x1⟩, by first | omega | (dsimp only; omega)⟩
        rw [hg, if_neg (by decide)]
        exact o1
  · have : j = J := by
      rcases Nat.lt_or_ge j J with h2 | h2
      · have := hlt j h2; omega
      · omega
    subst this
    exact hr h1 s o1 x1

theorem genL_mono : ∀ k m, k ≤ m → (genL k).length ≤ (genL m).length := by
  intro k m hkm
  induction m with
  | zero => have : k = 0 := by omega
            subst this; exact Nat.le_refl _
  | succ m ih =>
    by_cases hk : k = m + 1
    · subst hk; exact Nat.le_refl _
    · have := ih (by omega)
      rw [genL]
      split
      · rw [List.length_append]; omega
      · exact this

theorem p8 : (genL 17).length = 7 ∧ (genL 18).length = 8 := by decide +kernel
theorem p64 : (genL 309).length = 63 ∧ (genL 310).length = 64 := by decide +kernel
theorem firsts : (genL 18).map (fun p => rootF p 2) = firstW.l := by decide +kernel
theorem keysR : (genL 310).map (fun p => rootF p 3) = keysW.l := by decide +kernel

end
end Go.Proofs.Ytgdhddignbkloaa.Board
end

section
/- The document's digest of any text, block by block. -/
namespace Go.Proofs.Ytgdhddignbkloaa.Board
open Go Go.Vc

def padK (n : Nat) : Nat := (119 - n % 64) % 64

def rlens (n : Int) : Nat → List UInt8
  | 0 => []
  | m + 1 => rlens n m ++ [UInt8.ofNat (IntKind.wrap .u8 (Int.fdiv (IntKind.wrap .u64 (IntKind.wrap .u64 n * 8)) ((2 : Int) ^ min (Int.toNat (IntKind.wrap .u64 (IntKind.wrap .i64 (8 * (7 - (m : Int)))))) (IntKind.bits .u64)))).toNat]

def padF (s : List UInt8) : List UInt8 := ((s ++ [128]) ++ List.replicate (padK s.length) 0) ++ rlens (s.length : Int) 8

def foldP (t : List UInt8) (w : Ws 8) : Nat → Ws 8
  | 0 => w
  | n + 1 => takeF (foldP t w n) ((t.drop (64 * n)).take 64)

/-- The document's digest. -/
def docF (s : List UInt8) : Bs 32 := outF (foldP (padF s) firstW ((padF s).length / 64)) 8

theorem rlens_length (n : Int) : ∀ m, (rlens n m).length = m
  | 0 => rfl
  | m + 1 => by simp [rlens, rlens_length n m]

theorem padF_length (s : List UInt8) : (padF s).length = s.length + 1 + padK s.length + 8 := by
  unfold padF
  rw [List.length_append, List.length_append, List.length_append, rlens_length]
  simp

theorem padF_mod (s : List UInt8) : (padF s).length % 64 = 0 := by
  rw [padF_length]
  unfold padK
  omega

def rb (w : Ws 8) (i : Nat) : UInt8 := if i % 4 = 3 then UInt8.ofNat (IntKind.wrap .u8 (wd w (i / 4))).toNat else UInt8.ofNat (ob (wd w (i / 4)) (24 - 8 * ((i % 4 : Nat) : Int))).toNat

def rout (w : Ws 8) : Nat → Bs 32
  | 0 => Bs.zero 32
  | i + 1 => (rout w i).set i (rb w i)

theorem rout_out (w : Ws 8) : rout w 32 = outF w 8 := by kernel_rfl

theorem byte_exp : ∀ i : Fin 32, min (Int.toNat (IntKind.wrap .u64 (IntKind.wrap .i64 (24 - IntKind.wrap .i64 (8 * Int.tmod ((i.val : Nat) : Int) 4))))) (IntKind.bits .u32) = 24 - 8 * (i.val % 4) := by decide +kernel
theorem ob_exp : ∀ i : Fin 32, min (Int.toNat (24 - 8 * ((i.val % 4 : Nat) : Int))) (IntKind.bits .u32) = 24 - 8 * (i.val % 4) := by decide +kernel

theorem rb_eq (w : Ws 8) (i : Nat) (hi : i < 32) : rb w i = UInt8.ofNat (IntKind.wrap .u8 (Int.fdiv (wd w (i / 4)) ((2 : Int) ^ min (Int.toNat (IntKind.wrap .u64 (IntKind.wrap .i64 (24 - IntKind.wrap .i64 (8 * Int.tmod (i : Int) 4))))) (IntKind.bits .u32)))).toNat := by
  have e1 := byte_exp ⟨i, hi⟩
  have e2 := ob_exp ⟨i, hi⟩
  dsimp only at e1 e2
  rw [e1]
  unfold rb ob
  rw [e2]
  split
  · rename_i h3
    rw [h3]
    have : Int.fdiv (wd w (i / 4)) ((2 : Int) ^ (24 - 8 * 3)) = wd w (i / 4) := by
      show Int.fdiv (wd w (i / 4)) 1 = wd w (i / 4)
      exact Int.fdiv_one _
    rw [this]
  · rfl

section
variable {R : Value → Heap → Prop} {h : Heap}

theorem str1 {h : Heap} {c : Int} (c0 : 0 ≤ c) (c1 : c < 256) : strAt (h.push (row (TVs.cells [TV.int .u8 c]) 5)) (Sl.mk (some (Vc.Loc.mk h.size 0)) 1 1) [UInt8.ofNat c.toNat] := by
  refine ⟨rfl, .inr ⟨_, rfl, fun j hj => ?_⟩⟩
  have hj0 : j = 0 := by simpa using hj
  subst hj0
  have hg := push_get h (row (TVs.cells [TV.int .u8 c]) 5)
  have := at1_row (o := 0) hg (v := Value.int .u8 c) rfl
  unfold at1 at this
  rw [this]
  have e : ((UInt8.ofNat c.toNat).toNat : Int) = c := by
    rw [UInt8.toNat_ofNat']
    omega
  show some (Value.int .u8 c) = some (Value.int .u8 ((UInt8.ofNat c.toNat).toNat : Int))
  rw [e]

theorem filled {n : Nat} {W : Ws n} {l : List Int} (hl : l.length = n) (h : ∀ j x, l[j]? = some x → wd W j = x) : W.l = l := by
  apply List.ext_getElem (by rw [W.h, hl])
  intro j h1 h2
  have := h j l[j] (List.getElem?_eq_getElem h2)
  unfold wd at this
  rw [← this]
  simp [List.getD_eq_getElem?_getD, h1]

set_option maxRecDepth 100000 in
set_option maxHeartbeats 1000000 in
theorem docof_spec {s : List UInt8} (hs : s.length < 100000) (hr : ∀ h', Ext h h' → R (TV.bytes 32 (docF s)).val h') : CallsH Try.prog 43 (TVs.vals [.str s]) h R := by
  apply tollerref03_Of_calls
  unfold tollerref03_Of_vc
  refine newTV_in fun h1 v1 x1 s1 => ⟨by show ((s.length + 1 : Nat) : Int) ≤ _; omega, ?_⟩
  have hpk : padK s.length < 64 := by unfold padK; omega
  refine ⟨fun t hh => hh = h1 ∧ ∃ k, k ≤ padK s.length ∧ t = (s ++ [128]) ++ List.replicate k 0, fun t _ => s.length + 200 - t.length, ⟨rfl, 0, Nat.zero_le _, by simp⟩, ?_⟩
  rintro t hh ⟨hhe, k, hk, rfl⟩
  obtain rfl := hhe.symm
  have htl : ((s ++ [128]) ++ List.replicate k (0 : UInt8)).length = s.length + 1 + k := by simp; omega
  refine ⟨by decide, If.split (fun hb => ?_) fun hb => ?_⟩
  · have hne : ¬ Int.tmod (((s ++ [128]) ++ List.replicate k (0 : UInt8)).length : Int) 64 = 56 := by simpa using hb
    rw [htl, Int.tmod_eq_emod_of_nonneg (by omega)] at hne
    have hk' : k ≠ padK s.length := fun e => hne (by rw [e]; unfold padK; omega)
    have hone : List.length (ByteArray.mk #[(0 : UInt8)]).data.toList = 1 := rfl
    refine ⟨by rw [hone]; have htl2 := htl; omega, ⟨by trivial, k + 1, by omega, ?_⟩, ?_⟩
    · show ((s ++ [128]) ++ List.replicate k 0) ++ [0] = _
      rw [List.replicate_succ', List.append_assoc]
    · show s.length + 200 - (((s ++ [128]) ++ List.replicate k (0 : UInt8)) ++ [0]).length < s.length + 200 - ((s ++ [128]) ++ List.replicate k (0 : UInt8)).length
      rw [List.length_append, htl, List.length_singleton]
      omega
  have heq : Int.tmod (((s ++ [128]) ++ List.replicate k (0 : UInt8)).length : Int) 64 = 56 := by simpa using hb
  rw [htl, Int.tmod_eq_emod_of_nonneg (by omega)] at heq
  have hkk : k = padK s.length := by unfold padK at hk ⊢; omega
  subst hkk
  have hbase : padF s = ((s ++ [128]) ++ List.replicate (padK s.length) 0) ++ rlens (s.length : Int) 8 := rfl
  generalize (s ++ [128]) ++ List.replicate (padK s.length) (0 : UInt8) = base at *
  refine ⟨fun σ hh => ∃ m : Nat, m ≤ 8 ∧ σ.2 = 7 - (m : Int) ∧ σ.1 = base ++ rlens (s.length : Int) m ∧ Ext h1 hh, fun σ _ => (σ.2 + 1).toNat, ⟨0, by decide, rfl, by simp [rlens], Ext.refl _⟩, ?_⟩
  rintro ⟨t, kk⟩ h2 ⟨m, hm, hk2, ht, x2⟩
  dsimp only at hk2 ht ⊢
  subst hk2 ht
  refine If.dec.2 ⟨fun h0 => ?_, fun h0 => ?_⟩
  · have hw := wrap_u8_range (Int.fdiv (IntKind.wrap .u64 (IntKind.wrap .u64 (s.length : Int) * 8)) ((2 : Int) ^ min (Int.toNat (IntKind.wrap .u64 (IntKind.wrap .i64 (8 * (7 - (m : Int)))))) (IntKind.bits .u64)))
    rw [wrap_i64 (n := 7 - (m : Int) - 1) (by omega) (by omega)]
    refine ⟨wrap_u64_nonneg _, _, str1 hw.1 hw.2, ?_, ⟨m + 1, by omega, by first | omega | (dsimp only; omega), ?_, x2.trans (Ext.push _ _)⟩, by first | omega | (dsimp only; omega)⟩
    · rw [List.length_append, rlens_length, htl, List.length_singleton]
      omega
    · show (base ++ rlens (s.length : Int) m) ++ _ = base ++ rlens (s.length : Int) (m + 1)
      rw [rlens, List.append_assoc]
  have hm8 : m = 8 := by omega
  subst hm8
  rw [← hbase]
  have hmod := padF_mod s
  have hpl := padF_length s
  generalize hT : padF s = T at *
  have x12 := x1.trans x2
  refine newTV_in fun h3 v3 x3 s3 => primes_spec 18 (by decide) (fun j hj => ?_) (by rw [p8.2]; decide) fun h4 sl4 o4 x4 => ⟨_, rfl, ?_⟩
  · have := genL_mono j 17 (by omega)
    rw [p8.1] at this
    omega
  have l4 := o4.len
  rw [List.length_map, p8.2] at l4
  have v4 := v3.ext x4
  refine ⟨fun i hh => 0 ≤ i ∧ i ≤ 8 ∧ Only (· = h2.size) h4 hh ∧ ∃ W : Ws 8, Var 90 hh h2.size (.words .u32 8 W) ∧ ∀ j x, j < i.toNat → (genL 18)[j]? = some x → wd W j = rootF x 2, fun i _ => ((8 : Int) - i).toNat,
    ⟨Int.le_refl 0, by decide, Only.refl _ _, _, v4, fun j x hj => absurd hj (by simp)⟩, ?_⟩
  rintro i h5 ⟨i0, i1, f5, W, v5, hW⟩
  have sep4 : ∀ l, sl4.a = some l → l.b ≠ h2.size := fun l hl => by
    intro he
    rcases o4.row with hn | ⟨b, rest, ha, hb, _⟩
    · rw [hn] at hl; cases hl
    · rw [ha] at hl
      cases hl
      have : b = h2.size := he
      subst this
      have hv : h4[h2.size]? = _ := v4
      rw [hb] at hv
      injection hv with hv
      unfold row at hv
      injection hv with _ h9
      exact absurd h9 (by decide)
  have o5 := o4.only f5 sep4
  refine If.dec.2 ⟨fun hi => ?_, fun hi => ?_⟩
  · rw [wrap_i64 (n := i + 1) (by omega) (by omega)]
    refine read_u64 o5.elems i0 (by rw [p8.2]; omega) fun x hx => root_spec ⟨_, rfl, i0, by omega, put_word v5 (i := i.toNat) (by omega) (by omega) fun h6 v6 f6 s6 => ?_⟩
    have hi1 : (i + 1).toNat = i.toNat + 1 := by omega
    refine ⟨⟨by omega, by omega, f5.trans f6, _, v6, fun j y hj hy => ?_⟩, by first | omega | (dsimp only; omega)⟩
    rw [wd_set]
    by_cases hji : i.toNat = j
    · subst hji
      rw [if_pos ⟨rfl, by omega⟩]
      rw [hx] at hy
      injection hy with hy
      rw [hy]
    · rw [if_neg (fun he => hji he.1)]
      exact hW j y (by omega) hy
  have hi8 : i = 8 := by omega
  subst hi8
  have hWf : W = firstW := by
    apply Ws.ext'
    rw [← firsts]
    refine filled (by rw [List.length_map, p8.2]) fun j x hx => ?_
    rw [List.getElem?_map] at hx
    obtain ⟨y, hy, rfl⟩ := Option.map_eq_some_iff.1 hx
    have hj := (List.getElem?_eq_some_iff.1 hy).1
    rw [p8.2] at hj
    exact hW j y (by simpa using hj) hy
  subst hWf
  have q25 : h2.size < h5.size := v5.lt
  have x25 : Ext h2 h5 := Only.cut (x3.trans x4) f5 fun i hi => by omega
  have z25 := x25.size
  refine newTV_in fun h6 v6 x6 s6 => primes_spec 310 (by decide) (fun j hj => ?_) (by rw [p64.2]; decide) fun h7 sl7 o7 x7 => ⟨_, rfl, ?_⟩
  · have := genL_mono j 309 (by omega)
    rw [p64.1] at this
    omega
  have l7 := o7.len
  rw [List.length_map, p64.2] at l7
  have v7 := v6.ext x7
  have v57 : Var 90 h7 h2.size (.words .u32 8 firstW) := (v5.ext x6).ext x7
  refine ⟨fun i hh => 0 ≤ i ∧ i ≤ 64 ∧ Only (· = h5.size) h7 hh ∧ ∃ W : Ws 64, Var 94 hh h5.size (.words .u32 64 W) ∧ ∀ j x, j < i.toNat → (genL 310)[j]? = some x → wd W j = rootF x 3, fun i _ => ((64 : Int) - i).toNat,
    ⟨Int.le_refl 0, by decide, Only.refl _ _, _, v7, fun j x hj => absurd hj (by simp)⟩, ?_⟩
  rintro i h8 ⟨i0, i1, f8, W, v8, hW⟩
  have sep7 : ∀ l, sl7.a = some l → l.b ≠ h5.size := fun l hl => by
    intro he
    rcases o7.row with hn | ⟨b, rest, ha, hb, _⟩
    · rw [hn] at hl; cases hl
    · rw [ha] at hl
      cases hl
      have : b = h5.size := he
      subst this
      have hv : h7[h5.size]? = _ := v7
      rw [hb] at hv
      injection hv with hv
      unfold row at hv
      injection hv with _ h9
      exact absurd h9 (by decide)
  have o8 := o7.only f8 sep7
  refine If.dec.2 ⟨fun hi => ?_, fun hi => ?_⟩
  · rw [wrap_i64 (n := i + 1) (by omega) (by omega)]
    refine read_u64 o8.elems i0 (by rw [p64.2]; omega) fun x hx => root_spec ⟨_, rfl, i0, by omega, put_word v8 (i := i.toNat) (by omega) (by omega) fun h9 v9 f9 s9 => ?_⟩
    have hi1 : (i + 1).toNat = i.toNat + 1 := by omega
    refine ⟨⟨by omega, by omega, f8.trans f9, _, v9, fun j y hj hy => ?_⟩, by first | omega | (dsimp only; omega)⟩
    rw [wd_set]
    by_cases hji : i.toNat = j
    · subst hji
      rw [if_pos ⟨rfl, by omega⟩]
      rw [hx] at hy
      injection hy with hy
      rw [hy]
    · rw [if_neg (fun he => hji he.1)]
      exact hW j y (by omega) hy
  have hi64 : i = 64 := by omega
  subst hi64
  have hWk : W = keysW := by
    apply Ws.ext'
    rw [← keysR]
    refine filled (by rw [List.length_map, p64.2]) fun j x hx => ?_
    rw [List.getElem?_map] at hx
    obtain ⟨y, hy, rfl⟩ := Option.map_eq_some_iff.1 hx
    have hj := (List.getElem?_eq_some_iff.1 hy).1
    rw [p64.2] at hj
    exact hW j y (by simpa using hj) hy
  subst hWk
  have v28 : Var 90 h8 h2.size (.words .u32 8 firstW) := v57.only f8 (by omega)
  have x58 : Ext h5 h8 := Only.cut (x6.trans x7) f8 fun i hi => by omega
  refine ⟨fun at_ hh => ∃ n : Nat, 64 * n ≤ T.length ∧ at_ = ((64 * n : Nat) : Int) ∧ Var 90 hh h2.size (.words .u32 8 (foldP T firstW n)) ∧ Only (· = h2.size) h8 hh, fun at_ _ => ((T.length : Int) - at_).toNat, ⟨0, Nat.zero_le _, rfl, v28, Only.refl _ _⟩, ?_⟩
  rintro at_ h9 ⟨n, hn, rfl, v9, f9⟩
  have v59 : Var 94 h9 h5.size (.words .u32 64 keysW) := v8.only f9 (by omega)
  refine If.dec.2 ⟨fun hi => ?_, fun hi => ?_⟩
  · rw [wrap_i64 (n := ((64 * n : Nat) : Int) + 64) (by omega) (by omega)]
    refine ⟨_, v9.at, _, v59.at, by omega, by omega, by omega, by omega, ?_⟩
    have hcut : List.take ((((64 * n : Nat) : Int) + 64).toNat - ((64 * n : Nat) : Int).toNat) (List.drop ((64 * n : Nat) : Int).toNat T) = (T.drop (64 * n)).take 64 := by
      have e1 : (((64 * n : Nat) : Int) + 64).toNat - ((64 * n : Nat) : Int).toNat = 64 := by omega
      rw [e1, Int.toNat_natCast]
    rw [hcut]
    refine block_spec (by rw [List.length_take, List.length_drop]; omega) fun h10 x10 => ⟨_, rfl, ?_⟩
    refine put_in (v9.ext x10) (t := .words .u32 8 (foldP T firstW (n + 1))) wsz fun h11 v11 f11 s11 => ?_
    have hb9 := v9.lt
    refine ⟨⟨n + 1, by omega, by omega, v11, f9.trans ((Only.of_ext x10).trans f11)⟩, by first | omega | (dsimp only; omega)⟩
  have hn2 : n = T.length / 64 := by omega
  rw [hn2] at v9
  have z9 := f9.size
  have hb9 := v9.lt
  have hlt2 : h.size < h2.size := by have := x2.size; omega
  refine newTV_in fun h10 v10 x10 s10 => ?_
  refine ⟨fun i hh => 0 ≤ i ∧ i ≤ 32 ∧ Only (· = h9.size) h10 hh ∧ Var 26 hh h9.size (.bytes 32 (rout (foldP T firstW (T.length / 64)) i.toNat)), fun i _ => ((32 : Int) - i).toNat, ⟨Int.le_refl 0, by decide, Only.refl _ _, v10⟩, ?_⟩
  rintro i h11 ⟨i0, i1, f11, v11⟩
  have v911 : Var 90 h11 h2.size (.words .u32 8 (foldP T firstW (T.length / 64))) := (v9.ext x10).only f11 (by omega)
  refine If.dec.2 ⟨fun hi => ?_, fun hi => ?_⟩
  · have hq : Int.tdiv i 4 = i / 4 := Int.tdiv_eq_ediv_of_nonneg i0
    have hq2 : (i / 4).toNat = i.toNat / 4 := by omega
    rw [wrap_i64 (n := i + 1) (by omega) (by omega), hq, wrap_i64 (n := i / 4) (by omega) (by omega), hq2]
    refine ⟨by decide, by omega, by omega, _, word_at v911 (by omega), by decide, wrap_u64_nonneg _, i0, by omega, ?_⟩
    have hw := wrap_u8_range (Int.fdiv (wd (foldP T firstW (T.length / 64)) (i.toNat / 4)) ((2 : Int) ^ min (Int.toNat (IntKind.wrap .u64 (IntKind.wrap .i64 (24 - IntKind.wrap .i64 (8 * Int.tmod i 4))))) (IntKind.bits .u32)))
    refine put_byte v11 (i := i.toNat) (by omega) (by omega) hw.1 hw.2 fun h12 v12 f12 s12 => ?_
    have hi1 : (i + 1).toNat = i.toNat + 1 := by omega
    refine ⟨⟨by omega, by omega, f11.trans f12, ?_⟩, by first | omega | (dsimp only; omega)⟩
    rw [hi1, rout, rb_eq _ _ (by omega)]
    have hcast : ((i.toNat : Nat) : Int) = i := by omega
    rw [hcast]
    exact v12
  have hi32 : i.toNat = 32 := by omega
  rw [hi32, rout_out] at v11
  have x911 : Ext h9 h11 := Only.cut x10 f11 fun i hi => by omega
  have x28 := x25.trans x58
  have v1' : Var 26 h11 h.size (.bytes 32 (Bs.zero 32)) := ((((v1.ext x2).ext x28).only f9 (by omega)).ext x911)
  have hdoc : docF s = outF (foldP T firstW (T.length / 64)) 8 := by unfold docF; rw [hT]
  refine ⟨_, v11.bytes, put_in v1' (t := .bytes 32 (outF (foldP T firstW (T.length / 64)) 8)) bsz fun h12 v12 f12 s12 => ⟨_, v12.bytes, ?_⟩⟩
  rw [← hdoc]
  refine hr h12 ?_
  have x09 : Ext h h9 := Only.cut (x12.trans x28) f9 fun i hi => by omega
  exact Only.cut (x09.trans x911) f12 fun i hi => by omega

end
end Go.Proofs.Ytgdhddignbkloaa.Board
end

section
/- The program's digest of texts of any length. -/
namespace Go.Proofs.Ytgdhddignbkloaa.Board
open Go Go.Vc

abbrev bcells (bs : List UInt8) : List Value := bs.map fun c => Value.int .u8 (c.toNat : Int)

theorem bcells_one (bs : List UInt8) : ∀ v ∈ bcells bs, isOne v = true := fun v hv => by
  obtain ⟨c, _, rfl⟩ := List.mem_map.1 hv
  rfl

/-- A row of bytes, not from its block's beginning maybe, in blocks of Q, as all blocks to come are. -/
structure Row2 (Q : Nat → Prop) (h : Heap) (s : Sl) (bs : List UInt8) : Prop where
  len : bs.length = s.len
  cap : s.len ≤ s.cap
  row : (s.a = none ∧ s.cap = 0) ∨ ∃ b pre rest, s.a = some ⟨b, pre.length⟩ ∧ h[b]? = some (Go.Vc.row (pre ++ bcells bs ++ rest) 5) ∧ s.cap - s.len ≤ rest.length
  far : ∀ l, s.a = some l → Q l.b
  new : ∀ i, h.size ≤ i → Q i

section
variable {R : Value → Heap → Prop} {h : Heap} {Q : Nat → Prop} {s : Sl} {bs : List UInt8}

theorem Row2.lt (r : Row2 Q h s bs) : ∀ l, s.a = some l → l.b < h.size := fun l hl => by
  rcases r.row with ⟨hn, _⟩ | ⟨b, pre, rest, ha, hb, _⟩
  · rw [hn] at hl; cases hl
  · rw [ha] at hl; cases hl
    exact row_lt hb

theorem Row2.only {S : Nat → Prop} {h' : Heap} (r : Row2 Q h s bs) (o : Only S h h') (hs : ∀ l, s.a = some l → ¬ S l.b) : Row2 Q h' s bs := by
  refine ⟨r.len, r.cap, ?_, r.far, fun i hi => r.new i (Nat.le_trans o.size hi)⟩
  rcases r.row with h1 | ⟨b, pre, rest, ha, hb, hc⟩
  · exact .inl h1
  · exact .inr ⟨b, pre, rest, ha, (o.same b (row_lt hb) (hs _ ha)).trans hb, hc⟩

theorem Row2.elems (r : Row2 Q h s bs) : Elems 1 h s (bys bs) := by
  refine ⟨by rw [List.length_map]; exact r.len, fun hn => ?_, fun l hl i t ht => ?_⟩
  · rcases r.row with ⟨_, hc⟩ | ⟨b, pre, rest, ha, _⟩
    · have := r.len
      have := r.cap
      have : bs = [] := List.eq_nil_of_length_eq_zero (by omega)
      rw [this]
      rfl
    · rw [ha] at hn; cases hn
  · rcases r.row with ⟨hn, _⟩ | ⟨b, pre, rest, ha, hb, _⟩
    · rw [hn] at hl; cases hl
    · rw [ha] at hl
      cases hl
      rw [List.getElem?_map] at ht
      obtain ⟨c, hc, rfl⟩ := Option.map_eq_some_iff.1 ht
      show at1 h b (pre.length + i * 1) (.int .u8 (c.toNat : Int))
      refine at1_row hb ?_
      have hi := (List.getElem?_eq_some_iff.1 hc).1
      rw [Nat.mul_one, List.append_assoc, List.getElem?_append_right (Nat.le_add_right _ _), Nat.add_sub_cancel_left, List.getElem?_append_left (by rw [List.length_map]; exact hi), List.getElem?_map, hc]
      rfl

theorem Row2.cut2 (r : Row2 Q h s bs) {h' : Heap} (o : Only (In s) h h') : Only Q h h' := o.mono fun i ⟨l, hl, e⟩ => by rw [← e]; exact r.far l hl

theorem app2 {us : List UInt8} {K : Sl → Heap → Prop} (r : Row2 Q h s bs) (hl : bs.length + us.length < 1000000)
    (hk : ∀ s' h', Row2 Q h' s' (bs ++ us) → Only (In s) h h' → (∀ l, s'.a = some l → (∃ l', s.a = some l' ∧ l'.b = l.b) ∨ h.size ≤ l.b) → K s' h') :
    vcAppend ctx 5 s us.length (bcells us) h K := by
  have rl := r.len
  have rc := r.cap
  have blen : (bcells bs).length = s.len := by rw [List.length_map]; exact rl
  have ulen : (bcells us).length = us.length := List.length_map ..
  have both : bcells (bs ++ us) = bcells bs ++ bcells us := List.map_append ..
  refine ⟨bcells bs, ?_, by rw [bytes5]; omega, by rw [bytes5]; decide, fun hroom => ?_, fun hroom hn => ?_, fun hroom c hc => ?_⟩
  · rw [size5]
    refine ⟨by rw [blen, Nat.mul_one], ?_⟩
    rcases r.row with ⟨hn, hc⟩ | ⟨b, pre, rest, ha, hb, _⟩
    · exact .inl ⟨by omega, hn⟩
    · refine .inr ⟨_, ha, fun j hj => ?_⟩
      show cel h b (pre.length + j) = _
      rw [List.getElem?_eq_getElem hj]
      refine at1_row hb ?_
      rw [List.append_assoc, List.getElem?_append_right (Nat.le_add_right _ _), Nat.add_sub_cancel_left, List.getElem?_append_left hj, List.getElem?_eq_getElem hj]
  · rcases r.row with ⟨hn, hc⟩ | ⟨b, pre, rest, ha, hb, hr⟩
    · exact ⟨.inl (by omega), fun l hl => by rw [hn] at hl; cases hl⟩
    · refine ⟨.inr (by rw [ha]; rfl), fun l hl => ?_⟩
      rw [ha] at hl
      cases hl
      rw [size5]
      show wok h b (pre.length + s.len * 1) (bcells us).length ∧ _
      rw [Nat.mul_one]
      have hfit : pre.length + s.len + (bcells us).length ≤ (pre ++ bcells bs ++ rest).length := by
        rw [List.length_append, List.length_append, blen, ulen]
        omega
      refine ⟨wok_row hb hfit, ?_⟩
      obtain ⟨g1, g2, g3⟩ := putl_get (bcells us) h b (pre.length + s.len) _ 5 hb hfit
      refine hk _ _ ⟨by rw [List.length_append]; show _ = s.len + us.length; omega, hroom, .inr ⟨b, pre, rest.drop us.length, rfl, ?_, ?_⟩, ?_, fun i hi => r.new i (by rw [g2] at hi; exact hi)⟩ ⟨by rw [g2]; exact Nat.le_refl _, fun b' hb' hn => g3 b' (fun hx => hn ⟨_, ha, hx.symm⟩)⟩ fun l hl => by
        cases hl
        exact .inl ⟨_, ha, rfl⟩
      · rw [g1, both]
        congr 2
        have e1 : pre.length + s.len = (pre ++ bcells bs).length := by rw [List.length_append, blen]
        rw [e1, List.take_left, ulen, List.drop_append, List.drop_eq_nil_of_le (by omega), List.nil_append, Nat.add_sub_cancel_left, ← List.append_assoc]
      · rw [List.length_drop]
        show s.cap - (s.len + us.length) ≤ _
        omega
      · intro l hl
        cases hl
        exact r.far _ ha
  · rcases r.row with ⟨_, hc⟩ | ⟨b, pre, rest, ha, _⟩
    · have hu : us = [] := List.eq_nil_of_length_eq_zero (by omega)
      have hb0 : bs = [] := List.eq_nil_of_length_eq_zero (by omega)
      subst hu hb0
      refine hk _ _ ⟨by simp; omega, by show s.len + 0 ≤ s.cap; omega, .inl ⟨rfl, hc⟩, (fun l hl => by cases hl), r.new⟩ (Only.refl _ _) (fun l hl => by cases hl)
    · rw [ha] at hn; cases hn
  · refine hk _ _ ⟨by rw [List.length_append]; show _ = s.len + us.length; omega, hc, .inr ⟨h.size, [], zeros (ctx.ti 5).z (c - (s.len + us.length)), rfl, ?_, ?_⟩, ?_, ?_⟩ (Only.of_ext (Ext.push _ _)) ?_
    · rw [push_get, both, List.nil_append]
    · rw [zeros_length, zsize5, Nat.mul_one]
      exact Nat.le_refl _
    · intro l hl
      cases hl
      exact r.new _ (Nat.le_refl _)
    · intro i hi
      rw [Array.size_push] at hi
      exact r.new i (by omega)
    · intro l hl
      cases hl
      exact .inr (Nat.le_refl _)

theorem app2_byte {c : Int} {K : Sl → Heap → Prop} (r : Row2 Q h s bs) (hl : bs.length < 900000) (c0 : 0 ≤ c) (c1 : c < 256)
    (hk : ∀ s' h', Row2 Q h' s' (bs ++ [UInt8.ofNat c.toNat]) → Only (In s) h h' → (∀ l, s'.a = some l → (∃ l', s.a = some l' ∧ l'.b = l.b) ∨ h.size ≤ l.b) → K s' h') :
    ∃ new, slAt (h.push (row (TVs.cells [TV.int .u8 c]) 5)) (Sl.mk (some (Vc.Loc.mk h.size 0)) 1 1) 1 new ∧ (∀ v ∈ new, isOne v = true) ∧ vcAppend ctx 5 s 1 new (h.push (row (TVs.cells [TV.int .u8 c]) 5)) K := by
  have e : ((UInt8.ofNat c.toNat).toNat : Int) = c := by
    rw [UInt8.toNat_ofNat']
    omega
  have xp := Ext.push h (row (TVs.cells [TV.int .u8 c]) 5)
  refine ⟨bcells [UInt8.ofNat c.toNat], ⟨rfl, .inr ⟨_, rfl, fun j hj => ?_⟩⟩, bcells_one _, ?_⟩
  · have hj0 : j = 0 := by simpa using hj
    subst hj0
    have := at1_row (o := 0) (push_get h (row (TVs.cells [TV.int .u8 c]) 5)) (v := Value.int .u8 c) rfl
    unfold at1 at this
    rw [this]
    show some (Value.int .u8 c) = some (Value.int .u8 ((UInt8.ofNat c.toNat).toNat : Int))
    rw [e]
  · have r' : Row2 Q (h.push (row (TVs.cells [TV.int .u8 c]) 5)) s bs := r.only (Only.of_ext xp (S := fun _ => False)) (fun _ _ hx => hx)
    refine app2 (us := [UInt8.ofNat c.toNat]) r' (by simp; omega) fun s' h' r2 o2 b2 => hk s' h' r2 ((Only.of_ext xp).trans o2) fun l hl => ?_
    rcases b2 l hl with h1 | h1
    · exact .inl h1
    · exact .inr (by have := xp.size; omega)

/-- What is left behind 64 bytes. -/
theorem Row2.after {h' : Heap} (r : Row2 Q h s bs) (h64 : 64 ≤ bs.length) (o : Only (fun i => ¬ In s i) h h') (hn : ∀ i, h'.size ≤ i → Q i) : Row2 Q h' (cutSl s 64 s.len 1) (bs.drop 64) := by
  have rl := r.len
  have rc := r.cap
  refine ⟨by simp only [cutSl, List.length_drop]; omega, by simp only [cutSl]; omega, ?_, fun l hl => ?_, hn⟩
  · rcases r.row with ⟨_, hc⟩ | ⟨b, pre, rest, ha, hb, hr⟩
    · omega
    · have hb' : h'[b]? = some (Go.Vc.row (pre ++ bcells bs ++ rest) 5) := (o.same b (row_lt hb) (fun hx => hx ⟨_, ha, rfl⟩)).trans hb
      by_cases hc : s.cap = 64
      · refine .inr ⟨b, pre, bcells bs ++ rest, by simp only [cutSl]; rw [if_pos hc, ha], ?_, by simp only [cutSl]; omega⟩
        have : bs.drop 64 = [] := List.drop_eq_nil_of_le (by omega)
        rw [this, hb']
        simp
      · refine .inr ⟨b, pre ++ bcells (bs.take 64), rest, ?_, ?_, by simp only [cutSl]; omega⟩
        · simp only [cutSl]
          rw [if_neg hc, ha, List.length_append, List.length_map, List.length_take, Nat.min_eq_left h64, Nat.mul_one]
          rfl
        · rw [hb']
          congr 2
          have : bcells bs = bcells (bs.take 64) ++ bcells (bs.drop 64) := by rw [← List.map_append, List.take_append_drop]
          rw [this]
          simp
  · obtain ⟨l', h1, h2⟩ := cut_block hl
    rw [← h2]
    exact r.far l' h1

theorem foldP_append (T U : List UInt8) (w : Ws 8) : ∀ k, 64 * k ≤ T.length → foldP (T ++ U) w k = foldP T w k
  | 0, _ => rfl
  | k + 1, hk => by
    rw [foldP, foldP, foldP_append T U w k (by omega), List.drop_append_of_le_length (by omega), List.take_append_of_le_length (by rw [List.length_drop]; omega)]

/-- The state, behind k blocks of a text. -/
structure St2 (Q : Nat → Prop) (h : Heap) (b : Nat) (T : List UInt8) (k : Nat) (N : Int) (s : Sl) : Prop where
  var : Var 99 h b (.agg [.words .u32 8 (foldP T firstW k), .slice s, .int .u64 N])
  row : Row2 Q h s (T.drop (64 * k))
  fit : 64 * k ≤ T.length
  far : Q b
  apart : ∀ l, s.a = some l → l.b ≠ b

variable {b k : Nat} {T : List UInt8} {N : Int}

theorem St2.words (st : St2 Q h b T k N s) : atWords h b 0 .u32 8 (foldP T firstW k) := st.var.at.1
theorem St2.rest (st : St2 Q h b T k N s) : at1 h b 8 (slVal s) := st.var.at.2.1
theorem St2.count (st : St2 Q h b T k N s) : at1 h b 9 (.int .u64 N) := st.var.at.2.2

theorem St2.grown {h1 : Heap} {s' : Sl} {U : List UInt8} (st : St2 Q h b T k N s) (r1 : Row2 Q h1 s' (T.drop (64 * k) ++ U)) (o1 : Only (In s) h h1) (b1 : ∀ l, s'.a = some l → (∃ l', s.a = some l' ∧ l'.b = l.b) ∨ h.size ≤ l.b) {K : Heap → Prop}
    (hk : ∀ h2, St2 Q h2 b (T ++ U) k N s' → Only Q h h2 → h2.size = h1.size → K h2) : wok h1 b 8 1 ∧ Bind ((TV.slice s').put h1 b 8) K := by
  have hne : ∀ l, s'.a = some l → l.b ≠ b := fun l hl e => by
    rcases b1 l hl with ⟨l', h9, h10⟩ | h9
    · exact st.apart l' h9 (h10.trans e)
    · have := st.var.lt; omega
  have v1 := st.var.only o1 (fun ⟨l, hl, e⟩ => st.apart l hl e)
  refine field_in (i := 1) (t0 := .slice s) v1 rfl rfl rfl rfl fun h2 v2 (o2 : Only (· = b) h1 h2) s2 => hk h2 ⟨?_, ?_, ?_, st.far, hne⟩ ((st.row.cut2 o1).trans (o2.mono fun i hi => by subst hi; exact st.far)) s2
  · rw [foldP_append T U firstW k st.fit]
    exact v2
  · rw [List.drop_append_of_le_length st.fit]
    exact r1.only o2 hne
  · rw [List.length_append]; have := st.fit; omega

/-- A block is taken in. -/
theorem St2.step (st : St2 Q h b T k N s) (h64 : 64 ≤ s.len)
    (hk : ∀ h2 h3, Var 99 h2 b (.agg [.words .u32 8 (foldP T firstW (k + 1)), .slice s, .int .u64 N]) → Only (· = b) h h2 → (∀ K : Heap → Prop, (∀ h4, St2 Q h4 b T (k + 1) N (cutSl s 64 s.len 1) → Only Q h h4 → K h4) → wok h2 b 8 1 ∧ Bind ((TV.slice (cutSl s 64 s.len 1)).put h2 b 8) K) → h3 = h2 → R (TV.tup []).val h2) :
    CallsH Try.prog 68 (TVs.vals [.ptr (some ⟨b, 0⟩), .slice (cutSl s 0 64 1)]) h R := by
  have rl := st.row.len
  rw [List.length_drop] at rl
  have ec := cut_elems (i := 0) (j := 64) st.row.elems (by omega) h64 st.row.cap
  rw [List.drop_zero, Nat.sub_zero, ← List.map_take] at ec
  have hfit := st.fit
  refine take_takes h R b (foldP T firstW k) s (cutSl s 0 64 1) ((T.drop (64 * k)).take 64) N st.var ec (by rw [List.length_take, List.length_drop]; omega) (fun l hl => by
    obtain ⟨l', h1, h2⟩ := cut_block hl
    rw [← h2]
    exact st.apart l' h1) fun h2 v2 o2 => ?_
  refine hk h2 h2 v2 o2 (fun K hK => ?_) rfl
  refine field_in (i := 1) (t0 := .slice s) v2 rfl rfl rfl rfl fun h4 v4 (o4 : Only (· = b) h2 h4) s4 => hK h4 ⟨v4, ?_, by omega, st.far, fun l hl => ?_⟩ ((o2.mono fun i hi => by subst hi; exact st.far).trans (o4.mono fun i hi => by subst hi; exact st.far))
  · have : T.drop (64 * (k + 1)) = (T.drop (64 * k)).drop 64 := by rw [List.drop_drop]; congr 1
    rw [this]
    refine st.row.after (by rw [List.length_drop]; omega) ((o2.trans o4).mono fun i hi => ?_) fun i hi => st.row.new i (by have := o2.size; omega)
    rintro ⟨l, hl, e⟩
    exact st.apart l hl (e.trans hi)
  · obtain ⟨l', h1, h2⟩ := cut_block hl
    rw [← h2]
    exact st.apart l' h1

/-- Bytes more. -/
theorem add2_spec (st : St2 Q h b T k (T.length : Int) s) {text : List UInt8} (hl : T.length + text.length < 800000)
    (hr : ∀ h' s' k', St2 Q h' b (T ++ text) k' ((T ++ text).length : Int) s' → s'.len < 64 → Only Q h h' → R (TV.tup []).val h') :
    CallsH Try.prog 60 (TVs.vals [.ptr (some ⟨b, 0⟩), .str text]) h R := by
  apply sha_state_add_calls
  unfold sha_state_add_vc
  refine ⟨_, st.count, ?_⟩
  have hN : IntKind.wrap .u64 ((T.length : Int) + IntKind.wrap .u64 (text.length : Int)) = ((T ++ text).length : Int) := by
    rw [wrap_u64_small (n := (text.length : Int)) (by omega) (by omega), wrap_u64_small (by omega) (by omega), List.length_append]
    omega
  rw [hN]
  refine field_in (i := 2) (t0 := .int .u64 (T.length : Int)) st.var rfl rfl rfl rfl fun h1 v1 (o1 : Only (· = b) h h1) s1 => ?_
  have st1 : St2 Q h1 b T k ((T ++ text).length : Int) s := ⟨v1, st.row.only o1 st.apart, st.fit, st.far, st.apart⟩
  have f1 : Only Q h h1 := o1.mono fun i hi => by subst hi; exact st.far
  have dl : (T.drop (64 * k)).length ≤ T.length := by rw [List.length_drop]; omega
  refine ⟨s, st1.rest, app2 st1.row (by omega) fun s' h2 r2 o2 b2 => st1.grown r2 o2 b2 fun h3 st3 f3 s3 => ?_⟩
  refine ⟨fun _ hh => ∃ s4 k4, St2 Q hh b (T ++ text) k4 ((T ++ text).length : Int) s4 ∧ Only Q h hh, fun _ hh => lenAt hh b, ⟨s', k, st3, f1.trans f3⟩, ?_⟩
  rintro _ h4 ⟨s4, k4, st4, f4⟩
  refine ⟨s4, st4.rest, If.dec.2 ⟨fun h64 => ?_, fun h64 => hr h4 s4 k4 st4 (by omega) f4⟩⟩
  have hc := st4.row.cap
  refine ⟨s4, st4.rest, by decide, by omega, ?_⟩
  refine st4.step (by omega) fun h5 _ v5 o5 hstep _ => ⟨rfl, s4, v5.at.2.1, by decide, by omega, hstep _ fun h6 st6 f6 => ?_⟩
  refine ⟨⟨_, _, st6, f4.trans f6⟩, ?_⟩
  have g1 := lenAt_of st4.rest
  have g2 := lenAt_of st6.rest
  simp only [cutSl] at g2
  dsimp only
  omega

def rlx (x : Int) : Nat → List UInt8
  | 0 => []
  | m + 1 => rlx x m ++ [UInt8.ofNat (IntKind.wrap .u8 (Int.fdiv x ((2 : Int) ^ min (Int.toNat (IntKind.wrap .u64 (IntKind.wrap .i64 (8 * (7 - (m : Int)))))) (IntKind.bits .u64)))).toNat]
def lnx (x : Int) : Nat → List UInt8
  | 0 => []
  | i + 1 => lnx x i ++ [UInt8.ofNat (IntKind.wrap .u8 (Int.fdiv x (2 ^ min (Int.toNat (IntKind.wrap .i64 (56 - IntKind.wrap .i64 (8 * (i : Int))))) (IntKind.bits .u64)))).toNat]
theorem rlx_eq (n : Int) : ∀ m, rlens n m = rlx (IntKind.wrap .u64 (IntKind.wrap .u64 n * 8)) m
  | 0 => rfl
  | m + 1 => by rw [rlens, rlx, rlx_eq n m]
theorem lnx_eq (n : Int) : ∀ m, lens n m = lnx (IntKind.wrap .u64 (n * 8)) m
  | 0 => rfl
  | m + 1 => by rw [lens, lnx, lnx_eq n m]; rfl
theorem rlx_lnx (x : Int) : rlx x 8 = lnx x 8 := by kernel_rfl

theorem lens_rlens (n : Int) (h0 : 0 ≤ n) (h1 : n < 18446744073709551616) : rlens n 8 = lens n 8 := by
  rw [rlx_eq, lnx_eq, wrap_u64_small h0 h1, rlx_lnx]

set_option maxRecDepth 100000 in
set_option maxHeartbeats 1000000 in
theorem end2_spec (st : St2 Q h b T k (T.length : Int) s) (hl : T.length < 700000) (hr : ∀ h', Only Q h h' → R (TV.bytes 32 (docF T)).val h') : CallsH Try.prog 61 (TVs.vals [.ptr (some ⟨b, 0⟩)]) h R := by
  apply sha_state_end_calls
  unfold sha_state_end_vc
  have blt := st.var.lt
  have slt := st.row.lt
  refine newTV_in fun h1 v1 x1 s1 => ?_
  have st1 : St2 (fun i => Q i ∧ i ≠ h.size) h1 b T k (T.length : Int) s := ⟨st.var.ext x1, ⟨st.row.len, st.row.cap, (st.row.only (Only.of_ext x1 (S := fun _ => False)) (fun _ _ hx => hx)).row, fun l hl' => ⟨st.row.far l hl', by have := slt l hl'; omega⟩, fun i hi => ⟨st.row.new i (by omega), by omega⟩⟩, st.fit, ⟨st.far, by omega⟩, st.apart⟩
  have f1 : Only Q h h1 := Only.of_ext x1
  have hfit := st.fit
  have rl0 := st.row.len
  rw [List.length_drop] at rl0
  refine ⟨_, st1.count, s, st1.rest, ?_⟩
  refine app2_byte st1.row (by rw [List.length_drop]; omega) (by decide) (by decide) fun s2 h2 r2 o2 b2 => ?_
  have e128 : UInt8.ofNat (Int.toNat 128) = 128 := by decide
  rw [e128] at r2
  refine st1.grown r2 o2 b2 fun h3 st3 f3 s3 => ?_
  have hpk : padK T.length < 64 := by unfold padK; omega
  have lj : ∀ j, ((T ++ [128]) ++ List.replicate j (0 : UInt8)).length = T.length + 1 + j := fun j => by simp; omega
  refine ⟨fun _ hh => ∃ s' j, St2 (fun i => Q i ∧ i ≠ h.size) hh b ((T ++ [128]) ++ List.replicate j 0) k (T.length : Int) s' ∧ j ≤ padK T.length ∧ Only (fun i => Q i ∧ i ≠ h.size) h1 hh, fun _ hh => T.length + 100 - lenAt hh b, ⟨s2, 0, by simpa using st3, Nat.zero_le _, f3⟩, ?_⟩
  rintro _ h4 ⟨s4, j, st4, hj, f4⟩
  have l4 := st4.row.len
  rw [List.length_drop, lj] at l4
  have hmod : Int.tmod (s4.len : Int) 64 = ((s4.len % 64 : Nat) : Int) := by
    rw [Int.tmod_eq_emod_of_nonneg (by omega)]
    rfl
  refine ⟨s4, st4.rest, by decide, ?_⟩
  rw [hmod]
  refine If.split (fun hne => ?_) (fun heq => ?_)
  · have hne' : ¬ s4.len % 64 = 56 := fun e => by rw [e] at hne; simp at hne
    have hjp : j < padK T.length := by
      rcases Nat.lt_or_ge j (padK T.length) with h9 | h9
      · exact h9
      · exfalso
        apply hne'
        have : j = padK T.length := by omega
        unfold padK at this
        omega
    refine ⟨s4, st4.rest, ?_⟩
    refine app2_byte st4.row (by rw [List.length_drop, lj]; omega) (by decide) (by decide) fun s5 h5 r5 o5 b5 => ?_
    refine st4.grown r5 o5 b5 fun h6 st6 f6 s6 => ?_
    have e0 : UInt8.ofNat (Int.toNat 0) = 0 := by decide
    have er : ((T ++ [128]) ++ List.replicate j 0) ++ [UInt8.ofNat (Int.toNat 0)] = (T ++ [128]) ++ List.replicate (j + 1) 0 := by
      rw [e0, List.append_assoc, List.replicate_succ']
    rw [er] at st6
    have l6 := st6.row.len
    rw [List.length_drop, lj] at l6
    refine ⟨⟨s5, j + 1, st6, by omega, f4.trans f6⟩, ?_⟩
    have g1 := lenAt_of st4.rest
    have g2 := lenAt_of st6.rest
    dsimp only
    omega
  have heq' : s4.len % 64 = 56 := by simp at heq; omega
  have hjp : j = padK T.length := by unfold padK at hj ⊢; omega
  subst hjp
  have hbase : padF T = ((T ++ [128]) ++ List.replicate (padK T.length) 0) ++ lens (T.length : Int) 8 := by
    unfold padF
    rw [lens_rlens _ (by omega) (by omega)]
  have hbl := lj (padK T.length)
  generalize (T ++ [128]) ++ List.replicate (padK T.length) (0 : UInt8) = base at *
  refine ⟨fun i hh => 0 ≤ i ∧ i ≤ 8 ∧ ∃ s', St2 (fun i => Q i ∧ i ≠ h.size) hh b (base ++ lens (T.length : Int) i.toNat) k (T.length : Int) s' ∧ Only (fun i => Q i ∧ i ≠ h.size) h1 hh, fun i _ => ((8 : Int) - i).toNat, ⟨Int.le_refl 0, by decide, s4, by simpa [lens] using st4, f4⟩, ?_⟩
  rintro i h5 ⟨i0, i1, s5, st5, f5⟩
  have l5 := st5.row.len
  rw [List.length_drop, List.length_append, lens_length, hbl] at l5
  refine If.dec.2 ⟨fun hi => ?_, fun hi => ?_⟩
  · refine ⟨s5, st5.rest, ?_, Ext.push _ _, ?_⟩
    · rw [wrap_i64 (n := 8 * i) (by omega) (by omega), wrap_i64 (by omega) (by omega)]
      omega
    refine app2_byte st5.row (by rw [List.length_drop, List.length_append, lens_length, hbl]; omega) (wrap_u8_range _).1 (wrap_u8_range _).2 fun s6 h6 r6 o6 b6 => ?_
    refine st5.grown r6 o6 b6 fun h7 st7 f7 s7 => ?_
    rw [wrap_i64 (n := i + 1) (by omega) (by omega)]
    have hi1 : (i + 1).toNat = i.toNat + 1 := by omega
    refine ⟨⟨by omega, by omega, s6, ?_, f5.trans f7⟩, by first | omega | (dsimp only; omega)⟩
    rw [hi1]
    unfold lens lenB
    rw [show ((i.toNat : Nat) : Int) = i by omega, ← List.append_assoc]
    exact st7
  have hi2 : i.toNat = 8 := by omega
  rw [hi2, ← hbase] at st5
  have hpm := padF_mod T
  have hdoc : docF T = outF (foldP (padF T) firstW ((padF T).length / 64)) 8 := rfl
  rw [hdoc] at hr
  generalize padF T = P at *
  refine ⟨fun _ hh => ∃ s' k', St2 (fun i => Q i ∧ i ≠ h.size) hh b P k' (T.length : Int) s' ∧ Only (fun i => Q i ∧ i ≠ h.size) h1 hh, fun _ hh => lenAt hh b, ⟨s5, k, st5, f5⟩, ?_⟩
  rintro _ h6 ⟨s6, k6, st6, f6⟩
  have l6 := st6.row.len
  have hfit6 := st6.fit
  rw [List.length_drop] at l6
  refine ⟨s6, st6.rest, If.dec.2 ⟨fun hpos => ?_, fun hz => ?_⟩⟩
  · have h64 : 64 ≤ s6.len := by omega
    have hc := st6.row.cap
    refine ⟨s6, st6.rest, by decide, by omega, ?_⟩
    refine st6.step h64 fun h7 _ v7 o7 hstep _ => ⟨rfl, s6, v7.at.2.1, by decide, by omega, hstep _ fun h8 st8 f8 => ?_⟩
    refine ⟨⟨_, _, st8, f6.trans f8⟩, ?_⟩
    have g1 := lenAt_of st6.rest
    have g2 := lenAt_of st8.rest
    simp only [cutSl] at g2
    dsimp only
    omega
  have hk6 : k6 = P.length / 64 := by omega
  refine newTV_in fun h7 v7 x7 s7 => ?_
  refine ⟨_, (st6.var.ext x7).at.1, ?_⟩
  rw [hk6]
  have f6s := f6.size
  refine ⟨fun i hh => 0 ≤ i ∧ i ≤ 8 ∧ Var 26 hh h6.size (.bytes 32 (outF (foldP P firstW (P.length / 64)) i.toNat)) ∧ Only (· = h6.size) h7 hh, fun i _ => ((8 : Int) - i).toNat, ⟨Int.le_refl 0, by decide, v7, Only.refl _ _⟩, ?_⟩
  rintro i h8 ⟨i0, i1, v8, o8⟩
  refine If.dec.2 ⟨fun hi => ?_, fun hi => ?_⟩
  · rw [wrap_i64 (n := 4 * i) (by omega) (by omega), wrap_i64 (n := 4 * i + 1) (by omega) (by omega), wrap_i64 (n := 4 * i + 2) (by omega) (by omega), wrap_i64 (n := 4 * i + 3) (by omega) (by omega), wrap_i64 (n := i + 1) (by omega) (by omega)]
    refine ⟨i0, by omega, by decide, by decide, by decide, by omega, by omega, put_byte v8 (i := 4 * i.toNat) (by omega) (by omega) (wrap_u8_range _).1 (wrap_u8_range _).2 fun h9 v9 o9 s9 => ?_⟩
    refine ⟨by omega, by omega, put_byte v9 (i := 4 * i.toNat + 1) (by omega) (by omega) (wrap_u8_range _).1 (wrap_u8_range _).2 fun h10 v10 o10 s10 => ?_⟩
    refine ⟨by omega, by omega, put_byte v10 (i := 4 * i.toNat + 2) (by omega) (by omega) (wrap_u8_range _).1 (wrap_u8_range _).2 fun h11 v11 o11 s11 => ?_⟩
    refine ⟨by omega, by omega, put_byte v11 (i := 4 * i.toNat + 3) (by omega) (by omega) (wrap_u8_range _).1 (wrap_u8_range _).2 fun h12 v12 o12 s12 => ?_⟩
    have hi1 : (i + 1).toNat = i.toNat + 1 := by omega
    refine ⟨⟨by omega, by omega, ?_, o8.trans (o9.trans (o10.trans (o11.trans o12)))⟩, by first | omega | (dsimp only; omega)⟩
    rw [hi1]
    unfold outF out1 ob
    exact v12
  · have hi3 : i.toNat = 8 := by omega
    rw [hi3] at v8
    have vr : Var 26 h8 h.size (.bytes 32 (Bs.zero 32)) := ((v1.only f6 (fun h9 => h9.2 rfl)).ext x7).only o8 (by omega)
    refine ⟨_, v8.bytes, put_in vr (t := .bytes 32 (outF (foldP P firstW (P.length / 64)) 8)) bsz fun h9 v9 o9 s9 => ⟨_, v9.bytes, ?_⟩⟩
    refine hr _ (f1.trans ((f6.mono fun i hi => hi.1).trans ((Only.of_ext x7).trans ((o8.mono fun i hi => ?_).trans (o9.mono fun i hi => ?_)))))
    · subst hi; exact st.row.new _ (by omega)
    · subst hi; exact st.row.new _ (Nat.le_refl _)

theorem of2_spec {s : Sl} {ts : List (List UInt8)} (e : Elems 1 h s (ts.map TV.str)) (hl : ts.flatten.length < 700000) (hts2 : ts.length < 100000) (hr : ∀ h', Ext h h' → R (TV.bytes 32 (docF ts.flatten)).val h') : CallsH Try.prog 46 (TVs.vals [.slice s]) h R := by
  apply sha_Of_calls
  unfold sha_Of_vc
  refine newTV_in fun h1 v1 x1 s1 => ?_
  refine first_spec fun h2 x2 => ⟨_, rfl, newTV_in fun h3 v3 x3 s3 => ?_⟩
  have z1 := x1.size
  have z2 := x2.size
  have st3 : St2 (fun i => h.size < i) h3 h2.size [] 0 0 Sl.nil := ⟨v3, ⟨rfl, Nat.le_refl _, .inl ⟨rfl, rfl⟩, (fun l hl => by cases hl), fun i hi => by omega⟩, Nat.le_refl _, by omega, fun l hl => by cases hl⟩
  have x13 : Ext h h3 := (x1.trans x2).trans x3
  have v13 : Var 26 h3 h.size (.bytes 32 (Bs.zero 32)) := (v1.ext x2).ext x3
  have far : ∀ hh, Only (fun i => h.size < i) h3 hh → Ext h hh := fun hh o => Only.cut x13 o fun i hi => by omega
  have hn : ts.length = s.len := by have := e.len; rwa [List.length_map] at this
  refine ⟨fun i hh => 0 ≤ i ∧ i ≤ s.len ∧ (∃ s' k, St2 (fun i => h.size < i) hh h2.size (ts.take i.toNat).flatten k ((ts.take i.toNat).flatten.length : Int) s') ∧ Only (fun i => h.size < i) h3 hh, fun i _ => ((s.len : Int) - i).toNat, ⟨Int.le_refl 0, by omega, ⟨Sl.nil, 0, st3⟩, Only.refl _ _⟩, ?_⟩
  rintro i h4 ⟨i0, i1, ⟨s4, k4, st4⟩, o4⟩
  refine If.dec.2 ⟨fun hi => ?_, fun hi => ?_⟩
  · refine (e.ext (far h4 o4)).read i0 (by omega) fun l t hla ht ha => ?_
    rw [List.getElem?_map] at ht
    obtain ⟨x, hx, rfl⟩ := Option.map_eq_some_iff.1 ht
    refine ⟨x, ha, ?_⟩
    have hts := take_snoc hx
    have hle := flatten_take_le ts (i.toNat + 1)
    rw [hts, List.flatten_append, List.length_append] at hle
    have hxl : ([x] : List (List UInt8)).flatten = x := by simp
    rw [hxl] at hle
    refine add2_spec st4 (by omega) fun h5 s5 k5 st5 _ f5 => ⟨rfl, ?_⟩
    rw [wrap_i64 (n := i + 1) (by omega) (by omega)]
    have hi1 : (i + 1).toNat = i.toNat + 1 := by omega
    refine ⟨⟨by omega, by omega, ⟨s5, k5, ?_⟩, o4.trans f5⟩, by first | omega | (dsimp only; omega)⟩
    rw [hi1, hts, List.flatten_append, hxl]
    exact st5
  · have hi2 : i.toNat = ts.length := by omega
    rw [hi2, List.take_length] at st4
    refine end2_spec st4 hl fun h5 f5 => ⟨_, rfl, ?_⟩
    have v5 : Var 26 h5 h.size (.bytes 32 (Bs.zero 32)) := (v13.only o4 (Nat.lt_irrefl _)).only f5 (Nat.lt_irrefl _)
    refine put_in v5 (t := .bytes 32 (docF ts.flatten)) bsz fun h6 v6 o6 s6 => ⟨_, v6.bytes, ?_⟩
    exact hr h6 (Only.cut (far h5 (o4.trans f5)) o6 fun i hi => by omega)

end
end Go.Proofs.Ytgdhddignbkloaa.Board
end

section
/- The conditions of functions, as the generator reckons them out, each with the proof that it is that. -/
namespace Go.Proofs.Ytgdhddignbkloaa
open Go Go.Vc
set_option maxRecDepth 100000
set_option linter.unusedVariables false

def mac_pad_vc (key : List UInt8) (with_ : Int) (h : Heap) (R : Value → Heap → Prop) : Prop :=
 Vc.Bind (newTV h (TV.bytes (64 : Nat) (Bs.zero (64 : Nat))) (102 : Nat)) fun (h_1 : Array Obj) ↦
 ((cutSl (Sl.mk (some (Loc.mk (Array.size h) (0 : Nat))) (64 : Nat) (64 : Nat)) (0 : Nat) (64 : Nat) (1 : Nat)).a = none →
 Go.Vc.Loop (0 : Int) h_1 fun (s : Int) (h_2 : Array Obj) (K : Int → Array Obj → Prop) ↦
 If (decide (s < (64 : Int)))
 ((0 : Int) ≤ s ∧
 s < (↑(64 : Nat) : Int) ∧
 ∃ (n : Int),
 at1 h_2 (Array.size h) ((0 : Nat) + Int.toNat s * (1 : Nat)) (Value.int IntKind.u8 n) ∧
 (0 : Int) ≤ s ∧
 s < (↑(64 : Nat) : Int) ∧
 wok h_2 (Array.size h) ((0 : Nat) + Int.toNat s * (1 : Nat)) (1 : Nat) ∧
 Vc.Bind
 (TV.put h_2 (Array.size h) ((0 : Nat) + Int.toNat s * (1 : Nat))
 (TV.int IntKind.u8
 (IntKind.wrap IntKind.u8
 (↑(BitVec.toNat (BitVec.ofInt (IntKind.bits IntKind.u8) n ^^^ BitVec.ofInt (IntKind.bits IntKind.u8) with_)) : Int))))
 fun (h : Array Obj) ↦ K (IntKind.wrap IntKind.i64 (s + (1 : Int))) h)
 (∃ (bs : List UInt8),
 strAt h_2 (cutSl (Sl.mk (some (Loc.mk (Array.size h) (0 : Nat))) (64 : Nat) (64 : Nat)) (0 : Nat) (64 : Nat) (1 : Nat)) bs ∧
 R (TV.val (TV.str bs)) h_2)) ∧
 ∀ (l : Go.Vc.Loc),
 (cutSl (Sl.mk (some (Loc.mk (Array.size h) (0 : Nat))) (64 : Nat) (64 : Nat)) (0 : Nat) (64 : Nat) (1 : Nat)).a = some l →
 wok h_1 l.b l.o
 (Nat.min (List.length key) (cutSl (Sl.mk (some (Loc.mk (Array.size h) (0 : Nat))) (64 : Nat) (64 : Nat)) (0 : Nat) (64 : Nat) (1 : Nat)).len) ∧
 Vc.Bind
 (putl h_1 l.b l.o
 (List.map (fun (c : UInt8) ↦ Value.int IntKind.u8 (↑(UInt8.toNat c) : Int))
 (List.take
 (Nat.min (List.length key) (cutSl (Sl.mk (some (Loc.mk (Array.size h) (0 : Nat))) (64 : Nat) (64 : Nat)) (0 : Nat) (64 : Nat) (1 : Nat)).len)
 key)))
 fun (h_2 : Array Obj) ↦
 Go.Vc.Loop (0 : Int) h_2 fun (s : Int) (h_3 : Array Obj) (K : Int → Array Obj → Prop) ↦
 If (decide (s < (64 : Int)))
 ((0 : Int) ≤ s ∧
 s < (↑(64 : Nat) : Int) ∧
 ∃ (n : Int),
 at1 h_3 (Array.size h) ((0 : Nat) + Int.toNat s * (1 : Nat)) (Value.int IntKind.u8 n) ∧
 (0 : Int) ≤ s ∧
 s < (↑(64 : Nat) : Int) ∧
 wok h_3 (Array.size h) ((0 : Nat) + Int.toNat s * (1 : Nat)) (1 : Nat) ∧
 Vc.Bind
 (TV.put h_3 (Array.size h) ((0 : Nat) + Int.toNat s * (1 : Nat))
 (TV.int IntKind.u8
 (IntKind.wrap IntKind.u8
 (↑(BitVec.toNat (BitVec.ofInt (IntKind.bits IntKind.u8) n ^^^ BitVec.ofInt (IntKind.bits IntKind.u8) with_)) : Int))))
 fun (h : Array Obj) ↦ K (IntKind.wrap IntKind.i64 (s + (1 : Int))) h)
 (∃ (bs : List UInt8),
 strAt h_3 (cutSl (Sl.mk (some (Loc.mk (Array.size h) (0 : Nat))) (64 : Nat) (64 : Nat)) (0 : Nat) (64 : Nat) (1 : Nat)) bs ∧
 R (TV.val (TV.str bs)) h_3)

theorem mac_pad_calls (key : List UInt8) (with_ : Int) (h : Heap) (R : Value → Heap → Prop) (H : mac_pad_vc key with_ h R) : CallsH Try.prog 47 (TVs.vals [TV.str key, TV.int IntKind.u8 with_]) h R :=
 vcFn_sound (C := ctx) ctx_ok (fn := Try.f47) Try.func47 ((by kernel_rfl : mac_pad_vc key with_ h R = vcFn ctx Try.f47 [TV.str key, TV.int IntKind.u8 with_] h R) ▸ H)


def mac_Of_vc (key : List UInt8) (list : Sl) (h : Heap) (R : Value → Heap → Prop) : Prop :=
 Vc.Bind (newTV h (TV.bytes (16 : Nat) (Bs.zero (16 : Nat))) (30 : Nat)) fun (h_1 : Array Obj) ↦
 Join
 (fun (s : List UInt8) (h_2 : Array Obj) ↦
 CallsH Try.prog (47 : Nat) (TVs.vals [TV.str s, TV.int IntKind.u8 (54 : Int)]) h_2 fun (v : Value) (h_3 : Array Obj) ↦
 ∃ (s_1 : List UInt8),
 v = TV.val (TV.str s_1) ∧
 ∃ (new : List Value),
 slAt (Array.push h_3 (row (TVs.cells [TV.str s_1]) (9 : Nat))) list (1 : Nat) new ∧
 (∀ (v : Value), v ∈ new → isOne v = true) ∧
 vcAppend Ytgdhddignbkloaa.ctx (9 : Nat) (Sl.mk (some (Loc.mk (Array.size h_3) (0 : Nat))) (1 : Nat) (1 : Nat)) list.len new
 (Array.push h_3 (row (TVs.cells [TV.str s_1]) (9 : Nat))) fun (s_2 : Sl) (h_4 : Array Obj) ↦
 CallsH Try.prog (46 : Nat) (TVs.vals [TV.slice s_2]) h_4 fun (v : Value) (h_5 : Array Obj) ↦
 ∃ (b : Bs (32 : Nat)),
 v = TV.val (TV.bytes (32 : Nat) b) ∧
 Vc.Bind (newTV h_5 (TV.bytes (32 : Nat) (Bs.zero (32 : Nat))) (26 : Nat)) fun (h_6 : Array Obj) ↦
 wok h_6 (Array.size h_5) (0 : Nat) (32 : Nat) ∧
 Vc.Bind (TV.put h_6 (Array.size h_5) (0 : Nat) (TV.bytes (32 : Nat) b)) fun (h_7 : Array Obj) ↦
 Join
 (fun (s_3 : List UInt8 × List UInt8 × Sl × List UInt8 × Sl × Bs (32 : Nat) × Option Go.Vc.Loc) (h_8 : Array Obj) ↦
 Nn s_3.snd.snd.snd.snd.snd.snd fun (l : Go.Vc.Loc) ↦
 (0 : Int) ≤ (16 : Int) ∧
 (16 : Int) ≤ (↑(32 : Nat) : Int) ∧
 (16 : Nat) ≤ (cutSl (Sl.mk (some l) (32 : Nat) (32 : Nat)) (0 : Nat) (Int.toNat (16 : Int)) (1 : Nat)).len ∧
 Nn (cutSl (Sl.mk (some l) (32 : Nat) (32 : Nat)) (0 : Nat) (Int.toNat (16 : Int)) (1 : Nat)).a fun (l : Go.Vc.Loc) ↦
 ∃ (b : Bs (16 : Nat)),
 atBytes h_8 l.b l.o (16 : Nat) b ∧
 wok h_8 (Array.size h) (0 : Nat) (16 : Nat) ∧
 Vc.Bind (TV.put h_8 (Array.size h) (0 : Nat) (TV.bytes (16 : Nat) b)) fun (h_9 : Array Obj) ↦
 ∃ (b : Bs (16 : Nat)),
 atBytes h_9 (Array.size h) (0 : Nat) (16 : Nat) b ∧ R (TV.val (TV.bytes (16 : Nat) b)) h_9)
 fun (J : List UInt8 × List UInt8 × Sl × List UInt8 × Sl × Bs (32 : Nat) × Option Go.Vc.Loc → Array Obj → Prop) ↦
 ∃ (bs : List UInt8),
 strAt h_7 (cutSl (Sl.mk (some (Loc.mk (Array.size h_5) (0 : Nat))) (32 : Nat) (32 : Nat)) (0 : Nat) (32 : Nat) (1 : Nat))
 bs ∧
 (CallsH Try.prog (47 : Nat) (TVs.vals [TV.str s, TV.int IntKind.u8 (92 : Int)]) h_7 fun (v : Value) (h : Array Obj) ↦
 ∃ (s_3 : List UInt8),
 v = TV.val (TV.str s_3) ∧
 Ext h_7 h ∧
 ((CallsH Try.prog (46 : Nat)
 (TVs.vals [TV.slice (Sl.mk (some (Loc.mk (Array.size h) (0 : Nat))) (2 : Nat) (2 : Nat))])
 (Array.push h (row (TVs.cells [TV.str s_3, TV.str bs]) (9 : Nat))) fun (v : Value) (h_8 : Array Obj) ↦
 ∃ (b : Bs (32 : Nat)),
 v = TV.val (TV.bytes (32 : Nat) b) ∧
 Vc.Bind (newTV h_8 (TV.bytes (32 : Nat) (Bs.zero (32 : Nat))) (26 : Nat)) fun (h_9 : Array Obj) ↦
 Ext h_8 h_9 ∧
 wok h_9 (Array.size h_8) (0 : Nat) (32 : Nat) ∧
 Vc.Bind (TV.put h_9 (Array.size h_8) (0 : Nat) (TV.bytes (32 : Nat) b)) fun (h_10 : Array Obj) ↦
 J
 (s, s_3,
 cutSl (Sl.mk (some (Loc.mk (Array.size h_5) (0 : Nat))) (32 : Nat) (32 : Nat)) (0 : Nat)
 (32 : Nat) (1 : Nat),
 bs, Sl.mk (some (Loc.mk (Array.size h) (0 : Nat))) (2 : Nat) (2 : Nat), b,
 some (Loc.mk (Array.size h_8) (0 : Nat)))
 h_10) ∧
 Vc.Bind
 (newTV (Array.push h (row (TVs.cells [TV.str s_3, TV.str bs]) (9 : Nat)))
 (TV.bytes (32 : Nat) (Bs.zero (32 : Nat))) (26 : Nat))
 fun (h_8 : Array Obj) ↦
 Ext (Array.push h (row (TVs.cells [TV.str s_3, TV.str bs]) (9 : Nat))) h_8 ∧
 CallsH Try.prog (46 : Nat)
 (TVs.vals [TV.slice (Sl.mk (some (Loc.mk (Array.size h) (0 : Nat))) (2 : Nat) (2 : Nat))]) h_8
 fun (v : Value) (h_9 : Array Obj) ↦
 ∃ (b : Bs (32 : Nat)),
 v = TV.val (TV.bytes (32 : Nat) b) ∧
 wok h_9 (Array.size (Array.push h (row (TVs.cells [TV.str s_3, TV.str bs]) (9 : Nat)))) (0 : Nat)
 (32 : Nat) ∧
 Vc.Bind
 (TV.put h_9 (Array.size (Array.push h (row (TVs.cells [TV.str s_3, TV.str bs]) (9 : Nat))))
 (0 : Nat) (TV.bytes (32 : Nat) b))
 fun (h_10 : Array Obj) ↦
 J
 (s, s_3,
 cutSl (Sl.mk (some (Loc.mk (Array.size h_5) (0 : Nat))) (32 : Nat) (32 : Nat)) (0 : Nat)
 (32 : Nat) (1 : Nat),
 bs, Sl.mk (some (Loc.mk (Array.size h) (0 : Nat))) (2 : Nat) (2 : Nat), b,
 some
 (Loc.mk (Array.size (Array.push h (row (TVs.cells [TV.str s_3, TV.str bs]) (9 : Nat))))
 (0 : Nat)))
 h_10) ∧
 Vc.Bind (newTV h (TV.bytes (32 : Nat) (Bs.zero (32 : Nat))) (26 : Nat)) fun (h_8 : Array Obj) ↦
 Ext h h_8 ∧
 CallsH Try.prog (46 : Nat)
 (TVs.vals [TV.slice (Sl.mk (some (Loc.mk (Array.size h_8) (0 : Nat))) (2 : Nat) (2 : Nat))])
 (Array.push h_8 (row (TVs.cells [TV.str s_3, TV.str bs]) (9 : Nat))) fun (v : Value) (h_9 : Array Obj) ↦
 ∃ (b : Bs (32 : Nat)),
 v = TV.val (TV.bytes (32 : Nat) b) ∧
 wok h_9 (Array.size h) (0 : Nat) (32 : Nat) ∧
 Vc.Bind (TV.put h_9 (Array.size h) (0 : Nat) (TV.bytes (32 : Nat) b)) fun (h_10 : Array Obj) ↦
 J
 (s, s_3,
 cutSl (Sl.mk (some (Loc.mk (Array.size h_5) (0 : Nat))) (32 : Nat) (32 : Nat)) (0 : Nat)
 (32 : Nat) (1 : Nat),
 bs, Sl.mk (some (Loc.mk (Array.size h_8) (0 : Nat))) (2 : Nat) (2 : Nat), b,
 some (Loc.mk (Array.size h) (0 : Nat)))
 h_10) ∧
 Vc.Bind (newTV h_7 (TV.bytes (32 : Nat) (Bs.zero (32 : Nat))) (26 : Nat)) fun (h : Array Obj) ↦
 Ext h_7 h ∧
 CallsH Try.prog (47 : Nat) (TVs.vals [TV.str s, TV.int IntKind.u8 (92 : Int)]) h fun (v : Value) (h_8 : Array Obj) ↦
 ∃ (s_3 : List UInt8),
 v = TV.val (TV.str s_3) ∧
 Ext h h_8 ∧
 CallsH Try.prog (46 : Nat)
 (TVs.vals [TV.slice (Sl.mk (some (Loc.mk (Array.size h_8) (0 : Nat))) (2 : Nat) (2 : Nat))])
 (Array.push h_8 (row (TVs.cells [TV.str s_3, TV.str bs]) (9 : Nat))) fun (v : Value) (h : Array Obj) ↦
 ∃ (b : Bs (32 : Nat)),
 v = TV.val (TV.bytes (32 : Nat) b) ∧
 wok h (Array.size h_7) (0 : Nat) (32 : Nat) ∧
 Vc.Bind (TV.put h (Array.size h_7) (0 : Nat) (TV.bytes (32 : Nat) b)) fun (h : Array Obj) ↦
 J
 (s, s_3,
 cutSl (Sl.mk (some (Loc.mk (Array.size h_5) (0 : Nat))) (32 : Nat) (32 : Nat)) (0 : Nat)
 (32 : Nat) (1 : Nat),
 bs, Sl.mk (some (Loc.mk (Array.size h_8) (0 : Nat))) (2 : Nat) (2 : Nat), b,
 some (Loc.mk (Array.size h_7) (0 : Nat)))
 h)
 fun (J : List UInt8 → Array Obj → Prop) ↦
 If (decide ((64 : Int) < (↑(List.length key) : Int)))
 (CallsH Try.prog (46 : Nat) (TVs.vals [TV.slice (Sl.mk (some (Loc.mk (Array.size h_1) (0 : Nat))) (1 : Nat) (1 : Nat))])
 (Array.push h_1 (row (TVs.cells [TV.str key]) (9 : Nat))) fun (v : Value) (h : Array Obj) ↦
 ∃ (b : Bs (32 : Nat)),
 v = TV.val (TV.bytes (32 : Nat) b) ∧
 Vc.Bind (newTV h (TV.bytes (32 : Nat) (Bs.zero (32 : Nat))) (26 : Nat)) fun (h_2 : Array Obj) ↦
 wok h_2 (Array.size h) (0 : Nat) (32 : Nat) ∧
 Vc.Bind (TV.put h_2 (Array.size h) (0 : Nat) (TV.bytes (32 : Nat) b)) fun (h_3 : Array Obj) ↦
 ∃ (bs : List UInt8),
 strAt h_3 (cutSl (Sl.mk (some (Loc.mk (Array.size h) (0 : Nat))) (32 : Nat) (32 : Nat)) (0 : Nat) (32 : Nat) (1 : Nat)) bs ∧ J bs h_3)
 (J key h_1)

theorem mac_Of_calls (key : List UInt8) (list : Sl) (h : Heap) (R : Value → Heap → Prop) (H : mac_Of_vc key list h R) : CallsH Try.prog 27 (TVs.vals [TV.str key, TV.slice list]) h R :=
 vcFn_sound (C := ctx) ctx_ok (fn := Try.f27) Try.func27 ((by kernel_rfl : mac_Of_vc key list h R = vcFn ctx Try.f27 [TV.str key, TV.slice list] h R) ▸ H)


def mac_Join_vc (list : Sl) (h : Heap) (R : Value → Heap → Prop) : Prop :=
 Vc.Bind (newTV h (TV.bytes (16 : Nat) (Bs.zero (16 : Nat))) (30 : Nat)) fun (h_1 : Array Obj) ↦
 Vc.Bind (newTV h_1 (TV.bytes (16 : Nat) (Bs.zero (16 : Nat))) (30 : Nat)) fun (h_2 : Array Obj) ↦
 Go.Vc.Loop (0 : Int) h_2 fun (s : Int) (h_3 : Array Obj) (K : Int → Array Obj → Prop) ↦
 If (decide (s < (↑list.len : Int)))
 ((0 : Int) ≤ s ∧
 s < (↑list.len : Int) ∧
 Nn list.a fun (l : Go.Vc.Loc) ↦
 ∃ (b : Bs (16 : Nat)),
 atBytes h_3 l.b (l.o + Int.toNat s * (16 : Nat)) (16 : Nat) b ∧
 Vc.Bind (newTV h_3 (TV.bytes (16 : Nat) (Bs.zero (16 : Nat))) (30 : Nat)) fun (h : Array Obj) ↦
 wok h (Array.size h_3) (0 : Nat) (16 : Nat) ∧
 Vc.Bind (TV.put h (Array.size h_3) (0 : Nat) (TV.bytes (16 : Nat) b)) fun (h : Array Obj) ↦
 Go.Vc.Loop (0 : Int) h fun (s_1 : Int) (h : Array Obj) (K_1 : Int → Array Obj → Prop) ↦
 If (decide (s_1 < (16 : Int)))
 ((0 : Int) ≤ s_1 ∧
 s_1 < (↑(16 : Nat) : Int) ∧
 ∃ (n : Int),
 at1 h (Array.size h_1) ((0 : Nat) + Int.toNat s_1 * (1 : Nat)) (Value.int IntKind.u8 n) ∧
 (0 : Int) ≤ s_1 ∧
 s_1 < (↑(16 : Nat) : Int) ∧
 ∃ (n_1 : Int),
 at1 h (Array.size h_3) ((0 : Nat) + Int.toNat s_1 * (1 : Nat)) (Value.int IntKind.u8 n_1) ∧
 (0 : Int) ≤ s_1 ∧
 s_1 < (↑(16 : Nat) : Int) ∧
 wok h (Array.size h_1) ((0 : Nat) + Int.toNat s_1 * (1 : Nat)) (1 : Nat) ∧
 Vc.Bind
 (TV.put h (Array.size h_1) ((0 : Nat) + Int.toNat s_1 * (1 : Nat))
 (TV.int IntKind.u8
 (IntKind.wrap IntKind.u8
 (↑(BitVec.toNat
 (BitVec.ofInt (IntKind.bits IntKind.u8) n ^^^ BitVec.ofInt (IntKind.bits IntKind.u8) n_1)) :
 Int))))
 fun (h : Array Obj) ↦ K_1 (IntKind.wrap IntKind.i64 (s_1 + (1 : Int))) h)
 (K (IntKind.wrap IntKind.i64 (s + (1 : Int))) h))
 (∃ (b : Bs (16 : Nat)),
 atBytes h_3 (Array.size h_1) (0 : Nat) (16 : Nat) b ∧
 wok h_3 (Array.size h) (0 : Nat) (16 : Nat) ∧
 Vc.Bind (TV.put h_3 (Array.size h) (0 : Nat) (TV.bytes (16 : Nat) b)) fun (h_4 : Array Obj) ↦
 ∃ (b : Bs (16 : Nat)), atBytes h_4 (Array.size h) (0 : Nat) (16 : Nat) b ∧ R (TV.val (TV.bytes (16 : Nat) b)) h_4)

theorem mac_Join_calls (list : Sl) (h : Heap) (R : Value → Heap → Prop) (H : mac_Join_vc list h R) : CallsH Try.prog 13 (TVs.vals [TV.slice list]) h R :=
 vcFn_sound (C := ctx) ctx_ok (fn := Try.f13) Try.func13 ((by kernel_rfl : mac_Join_vc list h R = vcFn ctx Try.f13 [TV.slice list] h R) ▸ H)


def bitlist_Put_vc (b : Sl) (list : Sl) (h : Heap) (R : Value → Heap → Prop) : Prop :=
 (8 : Int) ≠ (0 : Int) ∧
 (0 : Int) ≤ IntKind.wrap IntKind.i64 (IntKind.wrap IntKind.i64 (Int.tdiv (↑list.len : Int) (8 : Int)) + (1 : Int)) ∧
 IntKind.wrap IntKind.i64 (IntKind.wrap IntKind.i64 (Int.tdiv (↑list.len : Int) (8 : Int)) + (1 : Int)) * (↑(1 : Nat) : Int) ≤ (70368744177664 : Int) ∧
 vcAppend Ytgdhddignbkloaa.ctx (5 : Nat) b
 (Int.toNat (IntKind.wrap IntKind.i64 (IntKind.wrap IntKind.i64 (Int.tdiv (↑list.len : Int) (8 : Int)) + (1 : Int))))
 (List.replicate (Int.toNat (IntKind.wrap IntKind.i64 (IntKind.wrap IntKind.i64 (Int.tdiv (↑list.len : Int) (8 : Int)) + (1 : Int))))
 (Value.int IntKind.u8 (0 : Int)))
 h fun (s : Sl) (h : Heap) ↦
 Go.Vc.Loop (0 : Int) h fun (s_1 : Int) (h : Array Obj) (K : Int → Array Obj → Prop) ↦
 If (decide (s_1 < (↑list.len : Int)))
 ((0 : Int) ≤ s_1 ∧
 s_1 < (↑list.len : Int) ∧
 Nn list.a fun (l : Go.Vc.Loc) ↦
 ∃ (b_1 : Bool),
 at1 h l.b (l.o + Int.toNat s_1 * (1 : Nat)) (Value.bool b_1) ∧
 If b_1
 ((8 : Int) ≠ (0 : Int) ∧
 (0 : Int) ≤ IntKind.wrap IntKind.i64 ((↑b.len : Int) + IntKind.wrap IntKind.i64 (Int.tdiv s_1 (8 : Int))) ∧
 IntKind.wrap IntKind.i64 ((↑b.len : Int) + IntKind.wrap IntKind.i64 (Int.tdiv s_1 (8 : Int))) < (↑s.len : Int) ∧
 Nn s.a fun (l : Go.Vc.Loc) ↦
 ∃ (n : Int),
 at1 h l.b
 (l.o +
 Int.toNat (IntKind.wrap IntKind.i64 ((↑b.len : Int) + IntKind.wrap IntKind.i64 (Int.tdiv s_1 (8 : Int)))) * (1 : Nat))
 (Value.int IntKind.u8 n) ∧
 (8 : Int) ≠ (0 : Int) ∧
 (0 : Int) ≤ Int.tmod s_1 (8 : Int) ∧
 (0 : Int) ≤ IntKind.wrap IntKind.i64 ((↑b.len : Int) + IntKind.wrap IntKind.i64 (Int.tdiv s_1 (8 : Int))) ∧
 IntKind.wrap IntKind.i64 ((↑b.len : Int) + IntKind.wrap IntKind.i64 (Int.tdiv s_1 (8 : Int))) < (↑s.len : Int) ∧
 Nn s.a fun (l : Go.Vc.Loc) ↦
 wok h l.b
 (l.o +
 Int.toNat (IntKind.wrap IntKind.i64 ((↑b.len : Int) + IntKind.wrap IntKind.i64 (Int.tdiv s_1 (8 : Int)))) *
 (1 : Nat))
 (1 : Nat) ∧
 Vc.Bind
 (TV.put h l.b
 (l.o +
 Int.toNat
 (IntKind.wrap IntKind.i64 ((↑b.len : Int) + IntKind.wrap IntKind.i64 (Int.tdiv s_1 (8 : Int)))) *
 (1 : Nat))
 (TV.int IntKind.u8
 (IntKind.wrap IntKind.u8
 (↑(BitVec.toNat
 (BitVec.ofInt (IntKind.bits IntKind.u8) n |||
 BitVec.ofInt (IntKind.bits IntKind.u8)
 (IntKind.wrap IntKind.u8
 ((1 : Int) *
 (2 : Int) ^ min (Int.toNat (Int.tmod s_1 (8 : Int))) (IntKind.bits IntKind.u8))))) :
 Int))))
 fun (h : Array Obj) ↦ K (IntKind.wrap IntKind.i64 (s_1 + (1 : Int))) h)
 (K (IntKind.wrap IntKind.i64 (s_1 + (1 : Int))) h))
 ((0 : Int) ≤ IntKind.wrap IntKind.i64 ((↑s.len : Int) - (1 : Int)) ∧
 IntKind.wrap IntKind.i64 ((↑s.len : Int) - (1 : Int)) < (↑s.len : Int) ∧
 Nn s.a fun (l : Go.Vc.Loc) ↦
 ∃ (n : Int),
 at1 h l.b (l.o + Int.toNat (IntKind.wrap IntKind.i64 ((↑s.len : Int) - (1 : Int))) * (1 : Nat)) (Value.int IntKind.u8 n) ∧
 (8 : Int) ≠ (0 : Int) ∧
 (0 : Int) ≤ Int.tmod (↑list.len : Int) (8 : Int) ∧
 (0 : Int) ≤ IntKind.wrap IntKind.i64 ((↑s.len : Int) - (1 : Int)) ∧
 IntKind.wrap IntKind.i64 ((↑s.len : Int) - (1 : Int)) < (↑s.len : Int) ∧
 Nn s.a fun (l : Go.Vc.Loc) ↦
 wok h l.b (l.o + Int.toNat (IntKind.wrap IntKind.i64 ((↑s.len : Int) - (1 : Int))) * (1 : Nat)) (1 : Nat) ∧
 Vc.Bind
 (TV.put h l.b (l.o + Int.toNat (IntKind.wrap IntKind.i64 ((↑s.len : Int) - (1 : Int))) * (1 : Nat))
 (TV.int IntKind.u8
 (IntKind.wrap IntKind.u8
 (↑(BitVec.toNat
 (BitVec.ofInt (IntKind.bits IntKind.u8) n |||
 BitVec.ofInt (IntKind.bits IntKind.u8)
 (IntKind.wrap IntKind.u8
 ((1 : Int) *
 (2 : Int) ^ min (Int.toNat (Int.tmod (↑list.len : Int) (8 : Int))) (IntKind.bits IntKind.u8))))) :
 Int))))
 fun (h : Array Obj) ↦ R (TV.val (TV.slice s)) h)

theorem bitlist_Put_calls (b : Sl) (list : Sl) (h : Heap) (R : Value → Heap → Prop) (H : bitlist_Put_vc b list h R) : CallsH Try.prog 49 (TVs.vals [TV.slice b, TV.slice list]) h R :=
 vcFn_sound (C := ctx) ctx_ok (fn := Try.f49) Try.func49 ((by kernel_rfl : bitlist_Put_vc b list h R = vcFn ctx Try.f49 [TV.slice b, TV.slice list] h R) ▸ H)


end Go.Proofs.Ytgdhddignbkloaa
end

section
/- Tags: a key as 64 bytes, the tag of texts by a key, tags joined. -/
namespace Go.Proofs.Ytgdhddignbkloaa.Board
open Go Go.Vc

def getB {n : Nat} (b : Bs n) (i : Nat) : UInt8 := b.l.getD i 0

/-- A row of bytes that is filled from the beginning on. -/
def fillB {n : Nat} (f : Nat → UInt8) (b : Bs n) : Nat → Bs n
  | 0 => b
  | i + 1 => (fillB f b i).set i (f i)

theorem fillB_get {n : Nat} (f : Nat → UInt8) (b : Bs n) : ∀ (k j : Nat), k ≤ n → getB (fillB f b k) j = if j < k then f j else getB b j
  | 0, j, _ => by simp [fillB]
  | k + 1, j, hk => by
    have ih := fillB_get f b k j (by omega)
    unfold getB at ih ⊢
    simp only [fillB, Bs.set, List.getD_eq_getElem?_getD, List.getElem?_set] at ih ⊢
    by_cases hj : k = j
    · subst hj
      rw [if_pos rfl, if_pos (by rw [(fillB f b k).h]; omega), if_pos (Nat.lt_succ_self k)]
      rfl
    · rw [if_neg hj, ih]
      by_cases h1 : j < k
      · rw [if_pos h1, if_pos (by omega)]
      · rw [if_neg h1, if_neg (by omega)]

theorem fillB_l {n : Nat} (f : Nat → UInt8) (b : Bs n) : (fillB f b n).l = (List.range n).map f := by
  apply List.ext_getElem (by rw [(fillB f b n).h]; simp)
  intro j h1 h2
  have hj : j < n := by rw [← (fillB f b n).h]; exact h1
  have := fillB_get f b n j (Nat.le_refl n)
  rw [if_pos hj] at this
  unfold getB at this
  rw [List.getD_eq_getElem?_getD, List.getElem?_eq_getElem h1] at this
  simpa using this

theorem byte_at {T : TypeId} {h : Heap} {b n : Nat} {x : Bs n} (v : Var T h b (.bytes n x)) {i : Nat} (hi : i < n) : at1 h b (0 + i * 1) (.int .u8 ((getB x i).toNat : Int)) := by
  refine v.at1 ?_
  simp only [TV.cells, Nat.mul_one, Nat.zero_add]
  exact getElem?_toBytes x i hi

theorem Bs.get_ext {n : Nat} {a b : Bs n} (h : ∀ j, j < n → getB a j = getB b j) : a = b := by
  apply Bs.ext'
  apply List.ext_getElem (by rw [a.h, b.h])
  intro j h1 h2
  have hj : j < n := by rw [← a.h]; exact h1
  have := h j hj
  unfold getB at this
  rw [List.getD_eq_getElem?_getD, List.getD_eq_getElem?_getD, List.getElem?_eq_getElem h1, List.getElem?_eq_getElem h2] at this
  simpa using this

theorem bind_in {x : Heap} {K : Heap → Prop} (h : K x) : Bind x K := h

section
variable {R : Value → Heap → Prop} {h : Heap}

/-- One byte against another. -/
def xv (c x : Int) : Int := IntKind.wrap .u8 ((BitVec.ofInt (IntKind.bits .u8) c ^^^ BitVec.ofInt (IntKind.bits .u8) x).toNat : Int)
def xb (c : UInt8) (x : Int) : UInt8 := UInt8.ofNat (xv (c.toNat : Int) x).toNat

/-- A key as 64 bytes. -/
def padZ (key : List UInt8) : Bs 64 := ⟨(key ++ List.replicate 64 0).take 64, by simp⟩
def padL (key : List UInt8) (x : Int) : List UInt8 := (List.range 64).map fun i => xb (getB (padZ key) i) x

theorem padL_length (key : List UInt8) (x : Int) : (padL key x).length = 64 := by simp [padL]

set_option maxRecDepth 100000 in
theorem pad_spec {key : List UInt8} {x : Int} (hk : key.length ≤ 64) (hr : ∀ h', Ext h h' → R (TV.str (padL key x)).val h') : CallsH Try.prog 47 (TVs.vals [.str key, .int .u8 x]) h R := by
  apply mac_pad_calls
  unfold mac_pad_vc
  refine newTV_in fun h1 v1 x1 s1 => ⟨?_, ?_⟩
  · intro hn
    cases hn
  rintro l hl
  obtain rfl : l = ⟨h.size, 0⟩ := (Option.some.inj hl).symm
  have hm : Nat.min key.length (cutSl (Sl.mk (some (Vc.Loc.mk h.size 0)) 64 64) 0 64 1).len = key.length := Nat.min_eq_left hk
  rw [hm, List.take_length]
  have hc : (TV.bytes 64 (Bs.zero 64)).cells.length = 64 := by rw [TV.cells_length]; rfl
  have hp := putl_get (key.map fun c => Value.int .u8 (c.toNat : Int)) h1 h.size 0 _ 102 v1 (by rw [List.length_map, hc]; omega)
  refine ⟨v1.wok (by show 0 + key.length ≤ 64; omega), ?_⟩
  have v2 : Var 102 (putl h1 h.size 0 (key.map fun c => Value.int .u8 (c.toNat : Int))) h.size (.bytes 64 (padZ key)) := by
    unfold Var
    rw [hp.1]
    congr 2
    simp only [TV.cells, padZ, Bs.zero, List.take_zero, List.nil_append, List.length_map, Nat.zero_add, List.map_take, List.map_append, List.map_replicate]
    rw [List.take_append, List.take_of_length_le (by rw [List.length_map]; exact hk), List.take_replicate, List.drop_replicate, List.length_map]
    congr 2
    omega
  have x2 : Ext h (putl h1 h.size 0 (key.map fun c => Value.int .u8 (c.toNat : Int))) := by
    refine ⟨by rw [hp.2.1]; exact x1.size, fun b hb => ?_⟩
    rw [hp.2.2 b (by omega)]
    exact x1.same b hb
  refine bind_in ?_
  generalize (putl h1 h.size 0 (key.map fun c => Value.int .u8 (c.toNat : Int))) = h2 at v2 x2 ⊢
  refine ⟨fun i hh => 0 ≤ i ∧ i ≤ 64 ∧ Only (· = h.size) h2 hh ∧ Var 102 hh h.size (.bytes 64 (fillB (fun i => xb (getB (padZ key) i) x) (padZ key) i.toNat)), fun i _ => ((64 : Int) - i).toNat, ⟨Int.le_refl 0, by decide, Only.refl _ _, v2⟩, ?_⟩
  rintro i h3 ⟨i0, i1, f3, v3⟩
  refine If.dec.2 ⟨fun hi => ?_, fun hi => ?_⟩
  · have hb := byte_at v3 (i := i.toNat) (by omega)
    rw [fillB_get _ _ _ _ (by omega), if_neg (by omega)] at hb
    have hw : 0 ≤ xv ((getB (padZ key) i.toNat).toNat : Int) x ∧ xv ((getB (padZ key) i.toNat).toNat : Int) x < 256 := wrap_u8_range _
    refine ⟨i0, hi, _, hb, i0, hi, ?_⟩
    refine put_byte v3 (i := i.toNat) (o := 0 + i.toNat * 1) (by omega) (by omega) hw.1 hw.2 fun h4 v4 f4 s4 => ?_
    rw [wrap_i64 (n := i + 1) (by omega) (by omega)]
    refine ⟨⟨by omega, by omega, f3.trans f4, ?_⟩, by dsimp only; omega⟩
    rw [show (i + 1).toNat = i.toNat + 1 by omega]
    exact v4
  · have e64 : i.toNat = 64 := by omega
    rw [e64] at v3
    refine ⟨_, str_var v3, ?_⟩
    rw [fillB_l]
    exact hr h3 (Only.cut x2 f3 fun i hi => by omega)

/-! ### The tag of texts by a key -/

def cut16 (r : Bs 32) : Bs 16 := ⟨r.l.take 16, by rw [List.length_take, r.h]; rfl⟩
def macI (key s : List UInt8) : Bs 32 := docF (padL key 54 ++ s)
def macF (key s : List UInt8) : Bs 16 := cut16 (docF (padL key 92 ++ (macI key s).l))

theorem atBytes_cut {T : TypeId} {b : Nat} {x : Bs 32} (v : Var T h b (.bytes 32 x)) : atBytes h b 0 16 (cut16 x) := by
  intro j hj
  have := v.bytes j (by omega)
  rw [this]
  simp only [cut16, List.getD_eq_getElem?_getD, List.getElem?_take, if_pos hj]

theorem strs_elems {T : TypeId} (h : Heap) (ts : List (List UInt8)) : Elems 1 (h.push (row (TVs.cells (ts.map TV.str)) T)) ⟨some ⟨h.size, 0⟩, ts.length, ts.length⟩ (ts.map TV.str) := by
  have := (Own.new (T := T) (sz := 1) h (ts.map TV.str) (fun t ht => by
    obtain ⟨u, _, rfl⟩ := List.mem_map.1 ht
    rfl)).elems
  simpa using this

theorem bytes9 : (ctx.ti 9).bytes = 16 := by kernel_rfl
theorem size9 : (ctx.ti 9).size = 1 := by kernel_rfl
theorem zsize9 : (ctx.ti 9).z.size = 1 := by kernel_rfl

set_option maxRecDepth 100000 in
theorem macof_spec {key : List UInt8} {s : Sl} {ts : List (List UInt8)} (hk : key.length ≤ 64) (e : Elems 1 h s (ts.map TV.str)) (hl : ts.flatten.length < 100000) (hts : ts.length < 10000)
    (hr : ∀ h', Ext h h' → R (TV.bytes 16 (macF key ts.flatten)).val h') : CallsH Try.prog 27 (TVs.vals [.str key, .slice s]) h R := by
  apply mac_Of_calls
  unfold mac_Of_vc
  refine newTV_in fun h1 v1 x1 s1 => ?_
  intro J HJ
  refine If.dec.2 ⟨fun hlong => by omega, fun _ => HJ key h1 ?_⟩
  clear HJ J
  refine pad_spec hk fun h2 x2 => ⟨_, rfl, ?_⟩
  have xa := Ext.push h2 (row (TVs.cells [TV.str (padL key 54)]) 9)
  have e2 : Elems 1 (h2.push (row (TVs.cells [TV.str (padL key 54)]) 9)) s (ts.map TV.str) := ((e.ext x1).ext x2).ext xa
  refine ⟨_, e2.cells (fun u hu => by obtain ⟨t, _, rfl⟩ := List.mem_map.1 hu; rfl) (by decide), TVs.plain_cells_of (fun u hu => by obtain ⟨t, _, rfl⟩ := List.mem_map.1 hu; rfl), ?_⟩
  have o2 := Own.new (T := 9) (sz := 1) h2 [TV.str (padL key 54)] (fun t ht => by
    simp only [List.mem_cons, List.not_mem_nil, or_false] at ht
    subst ht; rfl)
  have elen := e.len
  rw [List.length_map] at elen
  rw [← elen, show ts.length = (ts.map TV.str).length from (List.length_map _).symm]
  refine append_raw size9 zsize9 (by rw [bytes9]; decide) (by decide) (by rw [bytes9, List.length_map]; show (1 + _) * 16 ≤ _; omega) o2 (fun u hu => by obtain ⟨t, _, rfl⟩ := List.mem_map.1 hu; rfl) fun s3 h3 o3 f3 b3 => ?_
  have x3 : Ext h2 h3 := Only.cut xa f3 fun i hi => by
    obtain ⟨l, hl, rfl⟩ := hi
    obtain rfl := Option.some.inj hl
    exact Nat.le_refl _
  have e3 : Elems 1 h3 s3 ((padL key 54 :: ts).map TV.str) := o3.elems
  refine of2_spec (ts := padL key 54 :: ts) e3 ?_ (by rw [List.length_cons]; omega) fun h4 x4 => ⟨macI key ts.flatten, rfl, ?_⟩
  · rw [List.flatten_cons, List.length_append, padL_length]; omega
  refine newTV_in fun h5 v5 x5 s5 => put_in v5 (t := .bytes 32 (macI key ts.flatten)) bsz fun h6 v6 f6 s6 => ?_
  have x6 : Ext h4 h6 := Only.cut x5 f6 fun i hi => by omega
  have x16 : Ext h1 h6 := ((x2.trans x3).trans x4).trans x6
  intro J HJ
  have hsz1 : h1.size = h.size + 1 := s1
  have hT : [padL key 92, (macI key ts.flatten).l].flatten = padL key 92 ++ (macI key ts.flatten).l := by simp
  have hTl : [padL key 92, (macI key ts.flatten).l].flatten.length < 700000 := by
    rw [hT, List.length_append, padL_length, (macI key ts.flatten).h]; decide
  have fin : ∀ (qa qb : List UInt8) (qc : Sl) (qd : List UInt8) (qe : Sl) (qf : Bs 32) (h' : Heap) (b : Nat), Ext h6 h' → h6.size ≤ b → Var 26 h' b (.bytes 32 (docF [padL key 92, (macI key ts.flatten).l].flatten)) → J (qa, qb, qc, qd, qe, qf, some ⟨b, 0⟩) h' := by
    intro qa qb qc qd qe qf h' b hx hb hv
    refine HJ _ h' ⟨by decide, by decide, Nat.le_refl 16, ?_⟩
    rw [show (cutSl (Sl.mk (some (Vc.Loc.mk b 0)) 32 32) 0 (Int.toNat 16) 1).a = some ⟨b, 0⟩ from rfl]
    refine ⟨cut16 (docF [padL key 92, (macI key ts.flatten).l].flatten), atBytes_cut hv, ?_⟩
    have v1' : Var 30 h' h.size (.bytes 16 (Bs.zero 16)) := v1.ext (x16.trans hx)
    refine put_in v1' (t := .bytes 16 (cut16 (docF [padL key 92, (macI key ts.flatten).l].flatten))) bsz fun h7 v7 f7 s7 => ⟨_, v7.bytes, ?_⟩
    have := hr h7 (Only.cut ((x1.trans x16).trans hx) f7 fun i hi => by omega)
    rw [hT]
    exact this
  clear HJ
  refine ⟨(macI key ts.flatten).l, str_var v6, ?_, ?_⟩
  · refine pad_spec hk fun h7 x7 => ⟨_, rfl, x7, ⟨?_, ?_⟩, ?_⟩
    · refine of2_spec (ts := [padL key 92, (macI key ts.flatten).l]) (strs_elems (T := 9) h7 [padL key 92, (macI key ts.flatten).l]) hTl (by simp) fun h8 x8 => ⟨_, rfl, ?_⟩
      refine newTV_in fun h9 v9 x9 s9 => ⟨x9, put_in v9 (t := .bytes 32 (docF [padL key 92, (macI key ts.flatten).l].flatten)) bsz fun h10 v10 f10 s10 => ?_⟩
      have xx : Ext h6 h8 := (x7.trans (Ext.push h7 _)).trans x8
      exact fin _ _ _ _ _ _ _ h8.size (Only.cut (xx.trans x9) f10 fun i hi => by have := xx.size; omega) xx.size v10
    · refine newTV_in fun h8 v8 x8 s8 => ⟨x8, ?_⟩
      refine of2_spec (ts := [padL key 92, (macI key ts.flatten).l]) ((strs_elems (T := 9) h7 [padL key 92, (macI key ts.flatten).l]).ext x8) hTl (by simp) fun h9 x9 => ⟨_, rfl, ?_⟩
      refine put_in (v8.ext x9) (t := .bytes 32 (docF [padL key 92, (macI key ts.flatten).l].flatten)) bsz fun h10 v10 f10 s10 => ?_
      have xx : Ext h6 (h7.push (row (TVs.cells ([padL key 92, (macI key ts.flatten).l].map TV.str)) 9)) := x7.trans (Ext.push h7 _)
      exact fin _ _ _ _ _ _ _ _ (Only.cut ((xx.trans x8).trans x9) f10 fun i hi => by have := xx.size; rw [hi]; exact this) xx.size v10
    · refine newTV_in fun h8 v8 x8 s8 => ⟨x8, ?_⟩
      refine of2_spec (ts := [padL key 92, (macI key ts.flatten).l]) (strs_elems (T := 9) h8 [padL key 92, (macI key ts.flatten).l]) hTl (by simp) fun h9 x9 => ⟨_, rfl, ?_⟩
      have xy : Ext h8 h9 := (Ext.push h8 _).trans x9
      refine put_in (v8.ext xy) (t := .bytes 32 (docF [padL key 92, (macI key ts.flatten).l].flatten)) bsz fun h10 v10 f10 s10 => ?_
      exact fin _ _ _ _ _ _ _ _ (Only.cut ((x7.trans x8).trans xy) f10 fun i hi => by have := x7.size; omega) x7.size v10
  · refine newTV_in fun h7 v7 x7 s7 => ⟨x7, ?_⟩
    refine pad_spec hk fun h8 x8 => ⟨_, rfl, x8, ?_⟩
    refine of2_spec (ts := [padL key 92, (macI key ts.flatten).l]) (strs_elems (T := 9) h8 [padL key 92, (macI key ts.flatten).l]) hTl (by simp) fun h9 x9 => ⟨_, rfl, ?_⟩
    have xy : Ext h8 h9 := (Ext.push h8 _).trans x9
    refine put_in ((v7.ext x8).ext xy) (t := .bytes 32 (docF [padL key 92, (macI key ts.flatten).l].flatten)) bsz fun h10 v10 f10 s10 => ?_
    exact fin _ _ _ _ _ _ _ _ (Only.cut ((x7.trans x8).trans xy) f10 fun i hi => by omega) (Nat.le_refl _) v10

/-! ### Tags joined -/

/-- A tag against another one, byte by byte. -/
def x16 (a t : Bs 16) : Bs 16 := fillB (fun j => xb (getB a j) ((getB t j).toNat : Int)) a 16
def joinF : List (Bs 16) → Bs 16 → Bs 16
  | [], a => a
  | t :: ts, a => joinF ts (x16 a t)

theorem joinF_snoc : ∀ (ts : List (Bs 16)) (t a : Bs 16), joinF (ts ++ [t]) a = x16 (joinF ts a) t
  | [], _, _ => rfl
  | u :: ts, t, a => by show joinF (ts ++ [t]) _ = _; rw [joinF_snoc ts t]; rfl

abbrev tags (l : List (Bs 16)) : List TV := l.map (TV.bytes 16)

set_option maxRecDepth 100000 in
theorem join_spec {s : Sl} {ts : List (Bs 16)} (e : Elems 16 h s (tags ts)) (hl : ts.length < 1000000) (hr : ∀ h', Ext h h' → R (TV.bytes 16 (joinF ts (Bs.zero 16))).val h') : CallsH Try.prog 13 (TVs.vals [.slice s]) h R := by
  apply mac_Join_calls
  unfold mac_Join_vc
  have elen := e.len
  rw [List.length_map] at elen
  refine newTV_in fun h1 v1 x1 s1 => newTV_in fun h2 v2 x2 s2 => ?_
  have hs1 : h.size < h1.size := by omega
  refine ⟨fun i hh => 0 ≤ i ∧ i ≤ ts.length ∧ Only (· = h1.size) h2 hh ∧ Var 30 hh h1.size (.bytes 16 (joinF (ts.take i.toNat) (Bs.zero 16))), fun i _ => ((ts.length : Int) - i).toNat, ⟨Int.le_refl 0, by omega, Only.refl _ _, v2⟩, ?_⟩
  rintro i h3 ⟨i0, i1, f3, v3⟩
  have e3 : Elems 16 h3 s (tags ts) := e.ext (Only.cut (x1.trans x2) f3 fun i hi => by omega)
  refine If.dec.2 ⟨fun hi => ?_, fun hi => ?_⟩
  · refine e3.read i0 (by omega) fun l t hla ht ha => ?_
    rw [List.getElem?_map] at ht
    obtain ⟨t', ht', rfl⟩ := Option.map_eq_some_iff.1 ht
    refine ⟨t', ha, ?_⟩
    refine newTV_in fun h4 v4 x4 s4 => put_in v4 (t := .bytes 16 t') bsz fun h5 v5 f5 s5 => ?_
    have x35 : Ext h3 h5 := Only.cut x4 f5 fun i hi => by omega
    have hz3 := f3.size
    have b3 : h1.size < h3.size := by omega
    refine ⟨fun j hh => 0 ≤ j ∧ j ≤ 16 ∧ Only (· = h1.size) h5 hh ∧ Var 30 hh h1.size (.bytes 16 (fillB (fun j => xb (getB (joinF (ts.take i.toNat) (Bs.zero 16)) j) ((getB t' j).toNat : Int)) (joinF (ts.take i.toNat) (Bs.zero 16)) j.toNat)), fun j _ => ((16 : Int) - j).toNat, ⟨Int.le_refl 0, by decide, Only.refl _ _, v3.ext x35⟩, ?_⟩
    rintro j h6 ⟨j0, j1, f6, v6⟩
    have v56 : Var 30 h6 h3.size (.bytes 16 t') := v5.only f6 (by omega)
    refine If.dec.2 ⟨fun hj => ?_, fun hj => ?_⟩
    · have hb := byte_at v6 (i := j.toNat) (by omega)
      rw [fillB_get _ _ _ _ (by omega), if_neg (by omega)] at hb
      have hb2 := byte_at v56 (i := j.toNat) (by omega)
      have hw : 0 ≤ xv ((getB (joinF (ts.take i.toNat) (Bs.zero 16)) j.toNat).toNat : Int) ((getB t' j.toNat).toNat : Int) ∧ xv ((getB (joinF (ts.take i.toNat) (Bs.zero 16)) j.toNat).toNat : Int) ((getB t' j.toNat).toNat : Int) < 256 := wrap_u8_range _
      refine ⟨j0, hj, _, hb, j0, hj, _, hb2, j0, hj, ?_⟩
      refine put_byte v6 (i := j.toNat) (o := 0 + j.toNat * 1) (by omega) (by omega) hw.1 hw.2 fun h7 v7 f7 s7 => ?_
      rw [wrap_i64 (n := j + 1) (by omega) (by omega)]
      refine ⟨⟨by omega, by omega, f6.trans f7, ?_⟩, by dsimp only; omega⟩
      rw [show (j + 1).toNat = j.toNat + 1 by omega]
      exact v7
    · have e16 : j.toNat = 16 := by omega
      rw [e16] at v6
      rw [wrap_i64 (n := i + 1) (by omega) (by omega)]
      refine ⟨⟨by omega, by omega, (f3.trans ((Only.of_ext x35).mono (fun _ h => h))).trans f6, ?_⟩, by dsimp only; omega⟩
      rw [show (i + 1).toNat = i.toNat + 1 by omega, take_snoc ht', joinF_snoc]
      exact v6
  · have hall : ts.take i.toNat = ts := List.take_of_length_le (by omega)
    rw [hall] at v3
    have v13 : Var 30 h3 h.size (.bytes 16 (Bs.zero 16)) := (v1.ext x2).only f3 (by omega)
    refine ⟨_, v3.bytes, put_in v13 (t := .bytes 16 (joinF ts (Bs.zero 16))) bsz fun h4 v4 f4 s4 => ⟨_, v4.bytes, ?_⟩⟩
    refine hr h4 (Only.cut (Only.cut (x1.trans x2) f3 fun i hi => by omega) f4 fun i hi => by omega)

end
end Go.Proofs.Ytgdhddignbkloaa.Board
end

section
/- The conditions of functions, as the generator reckons them out, each with the proof that it is that. -/
namespace Go.Proofs.Ytgdhddignbkloaa
open Go Go.Vc
set_option maxRecDepth 100000
set_option linter.unusedVariables false

def wire_Plain_vc (m_Kind : Int) (m_Slot : Int) (m_Target : Bs (32 : Nat)) (m_Member : Int) (m_Body : Int) (m_Bits : Sl) (m_Tag : Bs (16 : Nat)) (h : Heap) (R : Value → Heap → Prop) : Prop :=
 Vc.Bind
 (newTV h
 (TV.agg
 [TV.int IntKind.i64 m_Kind, TV.int IntKind.i64 m_Slot, TV.bytes (32 : Nat) m_Target, TV.int IntKind.i64 m_Member, TV.int IntKind.u64 m_Body,
 TV.slice m_Bits, TV.bytes (16 : Nat) m_Tag])
 (32 : Nat))
 fun (h_1 : Array Obj) ↦
 ∃ (n : Int),
 at1 h_1 (Array.size h) (0 : Nat) (Value.int IntKind.i64 n) ∧
 ∃ (n_1 : Int),
 at1 (Array.push h_1 (row (TVs.cells [TV.int IntKind.u8 (IntKind.wrap IntKind.u8 n)]) (5 : Nat))) (Array.size h) (1 : Nat) (Value.int IntKind.i64 n_1) ∧
 CallsH Try.prog (48 : Nat)
 (TVs.vals
 [TV.slice (Sl.mk (some (Loc.mk (Array.size h_1) (0 : Nat))) (1 : Nat) (1 : Nat)), TV.int IntKind.u64 (IntKind.wrap IntKind.u64 n_1),
 TV.int IntKind.i64 (4 : Int)])
 (Array.push h_1 (row (TVs.cells [TV.int IntKind.u8 (IntKind.wrap IntKind.u8 n)]) (5 : Nat))) fun (v : Value) (h_2 : Array Obj) ↦
 ∃ (s : Sl),
 v = TV.val (TV.slice s) ∧
 ∃ (new : List Value),
 slAt h_2 (cutSl (Sl.mk (some (Loc.mk (Array.size h) (2 : Nat))) (32 : Nat) (32 : Nat)) (0 : Nat) (32 : Nat) (1 : Nat)) (1 : Nat) new ∧
 (∀ (v : Value), v ∈ new → isOne v = true) ∧
 vcAppend Ytgdhddignbkloaa.ctxL (5 : Nat) s
 (cutSl (Sl.mk (some (Loc.mk (Array.size h) (2 : Nat))) (32 : Nat) (32 : Nat)) (0 : Nat) (32 : Nat) (1 : Nat)).len new h_2
 fun (s : Sl) (h_3 : Array Obj) ↦
 ∃ (n : Int),
 at1 h_3 (Array.size h) (0 : Nat) (Value.int IntKind.i64 n) ∧
 If (decide (n = (1 : Int)))
 (∃ (h0 : Array Obj),
 Ext h0 h_3 ∧
 ∃ (n : Int),
 at1 h0 (Array.size h) (34 : Nat) (Value.int IntKind.i64 n) ∧
 ∃ (n_2 : Int),
 at1 h0 (Array.size h) (35 : Nat) (Value.int IntKind.u64 n_2) ∧
 CallsH Try.prog (48 : Nat)
 (TVs.vals [TV.slice s, TV.int IntKind.u64 (IntKind.wrap IntKind.u64 n), TV.int IntKind.i64 (2 : Int)]) h_3
 fun (v : Value) (h : Array Obj) ↦
 ∃ (s : Sl),
 v = TV.val (TV.slice s) ∧
 Ext h0 h ∧
 CallsH Try.prog (48 : Nat) (TVs.vals [TV.slice s, TV.int IntKind.u64 n_2, TV.int IntKind.i64 (8 : Int)]) h
 fun (v : Value) (h : Array Obj) ↦
 ∃ (s : Sl), v = TV.val (TV.slice s) ∧ ∃ (bs : List UInt8), strAt h s bs ∧ R (TV.val (TV.str bs)) h)
 (If (decide (n = (2 : Int)))
 (∃ (n : Int),
 at1 h_3 (Array.size h) (34 : Nat) (Value.int IntKind.i64 n) ∧
 CallsH Try.prog (48 : Nat)
 (TVs.vals [TV.slice s, TV.int IntKind.u64 (IntKind.wrap IntKind.u64 n), TV.int IntKind.i64 (2 : Int)]) h_3
 fun (v : Value) (h : Array Obj) ↦
 ∃ (s : Sl), v = TV.val (TV.slice s) ∧ ∃ (bs : List UInt8), strAt h s bs ∧ R (TV.val (TV.str bs)) h)
 (If (decide (n = (3 : Int)))
 (∃ (s_1 : Sl),
 at1 h_3 (Array.size h) (36 : Nat) (slVal s_1) ∧
 CallsH Try.prog (49 : Nat) (TVs.vals [TV.slice s, TV.slice s_1]) h_3 fun (v : Value) (h : Array Obj) ↦
 ∃ (s : Sl), v = TV.val (TV.slice s) ∧ ∃ (bs : List UInt8), strAt h s bs ∧ R (TV.val (TV.str bs)) h)
 (∃ (bs : List UInt8), strAt h_3 s bs ∧ R (TV.val (TV.str bs)) h_3)))

theorem wire_Plain_calls (m_Kind : Int) (m_Slot : Int) (m_Target : Bs (32 : Nat)) (m_Member : Int) (m_Body : Int) (m_Bits : Sl) (m_Tag : Bs (16 : Nat)) (h : Heap) (R : Value → Heap → Prop) (H : wire_Plain_vc m_Kind m_Slot m_Target m_Member m_Body m_Bits m_Tag h R) : CallsH Try.prog 28 (TVs.vals [TV.agg [TV.int IntKind.i64 m_Kind, TV.int IntKind.i64 m_Slot, TV.bytes (32 : Nat) m_Target, TV.int IntKind.i64 m_Member, TV.int IntKind.u64 m_Body, TV.slice m_Bits, TV.bytes (16 : Nat) m_Tag]]) h R :=
 vcFn_sound (C := ctxL) ctxL_ok (fn := Try.f28) Try.func28 ((by kernel_rfl : wire_Plain_vc m_Kind m_Slot m_Target m_Member m_Body m_Bits m_Tag h R = vcFn ctxL Try.f28 [TV.agg [TV.int IntKind.i64 m_Kind, TV.int IntKind.i64 m_Slot, TV.bytes (32 : Nat) m_Target, TV.int IntKind.i64 m_Member, TV.int IntKind.u64 m_Body, TV.slice m_Bits, TV.bytes (16 : Nat) m_Tag]] h R) ▸ H)


def seal_one_vc (m_Kind : Int) (m_Slot : Int) (m_Target : Bs (32 : Nat)) (m_Member : Int) (m_Body : Int) (m_Bits : Sl) (m_Tag : Bs (16 : Nat)) (who : Int) (h : Heap) (R : Value → Heap → Prop) : Prop :=
 Vc.Bind
 (newTV h
 (TV.agg
 [TV.int IntKind.i64 m_Kind, TV.int IntKind.i64 m_Slot, TV.bytes (32 : Nat) m_Target, TV.int IntKind.i64 m_Member, TV.int IntKind.u64 m_Body,
 TV.slice m_Bits, TV.bytes (16 : Nat) m_Tag])
 (32 : Nat))
 fun (h_1 : Array Obj) ↦
 Vc.Bind
 (newTV h_1
 (TV.agg
 [TV.int IntKind.i64 (0 : Int), TV.int IntKind.i64 (0 : Int), TV.bytes (32 : Nat) (Bs.zero (32 : Nat)), TV.int IntKind.i64 (0 : Int),
 TV.int IntKind.u64 (0 : Int), TV.slice Sl.nil, TV.bytes (16 : Nat) (Bs.zero (16 : Nat))])
 (32 : Nat))
 fun (h_2 : Array Obj) ↦
 ∃ (n : Int),
 at1 h_2 (Array.size h) (0 : Nat) (Value.int IntKind.i64 n) ∧
 If (decide (n = (3 : Int)))
 (∃ (n : Int),
 at1 h_2 (Array.size h) (1 : Nat) (Value.int IntKind.i64 n) ∧
 ∃ (b : Bs (32 : Nat)),
 atBytes h_2 (Array.size h) (2 : Nat) (32 : Nat) b ∧
 wok h_2 (Array.size h_1) (0 : Nat) (53 : Nat) ∧
 Vc.Bind
 (TV.put h_2 (Array.size h_1) (0 : Nat)
 (TV.agg
 [TV.int IntKind.i64 (2 : Int), TV.int IntKind.i64 n, TV.bytes (32 : Nat) b, TV.int IntKind.i64 who, TV.int IntKind.u64 (0 : Int),
 TV.slice Sl.nil, TV.bytes (16 : Nat) (Bs.zero (16 : Nat))]))
 fun (h : Array Obj) ↦
 ∃ (n : Int),
 ∃ (n_1 : Int),
 ∃ (b : Bs (32 : Nat)),
 ∃ (n_2 : Int),
 ∃ (n_3 : Int),
 ∃ (s : Sl),
 ∃ (b_1 : Bs (16 : Nat)),
 (at1 h (Array.size h_1) (0 : Nat) (Value.int IntKind.i64 n) ∧
 at1 h (Array.size h_1) (1 : Nat) (Value.int IntKind.i64 n_1) ∧
 atBytes h (Array.size h_1) (2 : Nat) (32 : Nat) b ∧
 at1 h (Array.size h_1) (34 : Nat) (Value.int IntKind.i64 n_2) ∧
 at1 h (Array.size h_1) (35 : Nat) (Value.int IntKind.u64 n_3) ∧
 at1 h (Array.size h_1) (36 : Nat) (slVal s) ∧ atBytes h (Array.size h_1) (37 : Nat) (16 : Nat) b_1) ∧
 R
 (TV.val
 (TV.agg
 [TV.int IntKind.i64 n, TV.int IntKind.i64 n_1, TV.bytes (32 : Nat) b, TV.int IntKind.i64 n_2,
 TV.int IntKind.u64 n_3, TV.slice s, TV.bytes (16 : Nat) b_1]))
 h)
 (∃ (n : Int),
 ∃ (n_1 : Int),
 ∃ (b : Bs (32 : Nat)),
 ∃ (n_2 : Int),
 ∃ (n_3 : Int),
 ∃ (s : Sl),
 ∃ (b_1 : Bs (16 : Nat)),
 (at1 h_2 (Array.size h) (0 : Nat) (Value.int IntKind.i64 n) ∧
 at1 h_2 (Array.size h) (1 : Nat) (Value.int IntKind.i64 n_1) ∧
 atBytes h_2 (Array.size h) (2 : Nat) (32 : Nat) b ∧
 at1 h_2 (Array.size h) (34 : Nat) (Value.int IntKind.i64 n_2) ∧
 at1 h_2 (Array.size h) (35 : Nat) (Value.int IntKind.u64 n_3) ∧
 at1 h_2 (Array.size h) (36 : Nat) (slVal s) ∧ atBytes h_2 (Array.size h) (37 : Nat) (16 : Nat) b_1) ∧
 wok h_2 (Array.size h_1) (0 : Nat) (53 : Nat) ∧
 Vc.Bind
 (TV.put h_2 (Array.size h_1) (0 : Nat)
 (TV.agg
 [TV.int IntKind.i64 n, TV.int IntKind.i64 n_1, TV.bytes (32 : Nat) b, TV.int IntKind.i64 n_2, TV.int IntKind.u64 n_3,
 TV.slice s, TV.bytes (16 : Nat) b_1]))
 fun (h : Array Obj) ↦
 ∃ (n : Int),
 ∃ (n_4 : Int),
 ∃ (b : Bs (32 : Nat)),
 ∃ (n_5 : Int),
 ∃ (n_6 : Int),
 ∃ (s : Sl),
 ∃ (b_2 : Bs (16 : Nat)),
 (at1 h (Array.size h_1) (0 : Nat) (Value.int IntKind.i64 n) ∧
 at1 h (Array.size h_1) (1 : Nat) (Value.int IntKind.i64 n_4) ∧
 atBytes h (Array.size h_1) (2 : Nat) (32 : Nat) b ∧
 at1 h (Array.size h_1) (34 : Nat) (Value.int IntKind.i64 n_5) ∧
 at1 h (Array.size h_1) (35 : Nat) (Value.int IntKind.u64 n_6) ∧
 at1 h (Array.size h_1) (36 : Nat) (slVal s) ∧ atBytes h (Array.size h_1) (37 : Nat) (16 : Nat) b_2) ∧
 R
 (TV.val
 (TV.agg
 [TV.int IntKind.i64 n, TV.int IntKind.i64 n_4, TV.bytes (32 : Nat) b, TV.int IntKind.i64 n_5,
 TV.int IntKind.u64 n_6, TV.slice s, TV.bytes (16 : Nat) b_2]))
 h)

theorem seal_one_calls (m_Kind : Int) (m_Slot : Int) (m_Target : Bs (32 : Nat)) (m_Member : Int) (m_Body : Int) (m_Bits : Sl) (m_Tag : Bs (16 : Nat)) (who : Int) (h : Heap) (R : Value → Heap → Prop) (H : seal_one_vc m_Kind m_Slot m_Target m_Member m_Body m_Bits m_Tag who h R) : CallsH Try.prog 29 (TVs.vals [TV.agg [TV.int IntKind.i64 m_Kind, TV.int IntKind.i64 m_Slot, TV.bytes (32 : Nat) m_Target, TV.int IntKind.i64 m_Member, TV.int IntKind.u64 m_Body, TV.slice m_Bits, TV.bytes (16 : Nat) m_Tag], TV.int IntKind.i64 who]) h R :=
 vcFn_sound (C := ctx) ctx_ok (fn := Try.f29) Try.func29 ((by kernel_rfl : seal_one_vc m_Kind m_Slot m_Target m_Member m_Body m_Bits m_Tag who h R = vcFn ctx Try.f29 [TV.agg [TV.int IntKind.i64 m_Kind, TV.int IntKind.i64 m_Slot, TV.bytes (32 : Nat) m_Target, TV.int IntKind.i64 m_Member, TV.int IntKind.u64 m_Body, TV.slice m_Bits, TV.bytes (16 : Nat) m_Tag], TV.int IntKind.i64 who] h R) ▸ H)


def wire_Good_vc (m_Kind : Int) (m_Slot : Int) (m_Target : Bs (32 : Nat)) (m_Member : Int) (m_Body : Int) (m_Bits : Sl) (m_Tag : Bs (16 : Nat)) (h : Heap) (R : Value → Heap → Prop) : Prop :=
 Vc.Bind
 (newTV h
 (TV.agg
 [TV.int IntKind.i64 m_Kind, TV.int IntKind.i64 m_Slot, TV.bytes (32 : Nat) m_Target, TV.int IntKind.i64 m_Member, TV.int IntKind.u64 m_Body,
 TV.slice m_Bits, TV.bytes (16 : Nat) m_Tag])
 (32 : Nat))
 fun (h_1 : Array Obj) ↦
 Join
 (fun (s : Bool) (h_2 : Array Obj) ↦
 ∃ (n : Int),
 at1 h_2 (Array.size h) (0 : Nat) (Value.int IntKind.i64 n) ∧
 If (decide (n = (3 : Int)))
 (∃ (n : Int),
 at1 h_2 (Array.size h) (34 : Nat) (Value.int IntKind.i64 n) ∧
 If (decide (n = (0 : Int)))
 (∃ (s : Sl),
 at1 h_2 (Array.size h) (36 : Nat) (slVal s) ∧
 If (decide ((↑s.len : Int) ≤ (16 : Int)))
 (∃ (s : Sl),
 at1 h_2 (Array.size h) (36 : Nat) (slVal s) ∧
 CallsH Try.prog (50 : Nat) (TVs.vals [TV.slice s, TV.bool true]) h_2 fun (v : Value) (h : Array Obj) ↦
 ∃ (b : Bool), v = TV.val (TV.bool b) ∧ R (TV.val (TV.bool b)) h)
 (R (TV.val (TV.bool false)) h_2))
 (R (TV.val (TV.bool false)) h_2))
 (∃ (n : Int),
 at1 h_2 (Array.size h) (0 : Nat) (Value.int IntKind.i64 n) ∧
 If (decide (n = (1 : Int)))
 (∃ (s : Sl), at1 h_2 (Array.size h) (36 : Nat) (slVal s) ∧ R (TV.val (TV.bool (decide ((↑s.len : Int) = (0 : Int))))) h_2)
 (∃ (n : Int),
 at1 h_2 (Array.size h) (0 : Nat) (Value.int IntKind.i64 n) ∧
 If (decide (n = (2 : Int)))
 (∃ (s : Sl), at1 h_2 (Array.size h) (36 : Nat) (slVal s) ∧ R (TV.val (TV.bool (decide ((↑s.len : Int) = (0 : Int))))) h_2)
 (R (TV.val (TV.bool false)) h_2))))
 fun (J : Bool → Array Obj → Prop) ↦
 ∃ (n : Int),
 at1 h_1 (Array.size h) (1 : Nat) (Value.int IntKind.i64 n) ∧
 If (decide (n < (0 : Int))) (R (TV.val (TV.bool false)) h_1)
 (∃ (n : Int),
 at1 h_1 (Array.size h) (1 : Nat) (Value.int IntKind.i64 n) ∧
 If (decide ((1073741824 : Int) < n)) (R (TV.val (TV.bool false)) h_1)
 (∃ (n : Int),
 at1 h_1 (Array.size h) (34 : Nat) (Value.int IntKind.i64 n) ∧
 If (decide (n < (0 : Int))) (R (TV.val (TV.bool false)) h_1)
 (∃ (n : Int),
 at1 h_1 (Array.size h) (34 : Nat) (Value.int IntKind.i64 n) ∧
 If (decide ((65535 : Int) < n)) (R (TV.val (TV.bool false)) h_1)
 (∃ (n : Int),
 at1 h_1 (Array.size h) (0 : Nat) (Value.int IntKind.i64 n) ∧
 If (!decide (n = (1 : Int)))
 (∃ (n : Int),
 at1 h_1 (Array.size h) (35 : Nat) (Value.int IntKind.u64 n) ∧
 If (!decide (n = (0 : Int))) (R (TV.val (TV.bool false)) h_1) (J false h_1))
 (J false h_1)))))

theorem wire_Good_calls (m_Kind : Int) (m_Slot : Int) (m_Target : Bs (32 : Nat)) (m_Member : Int) (m_Body : Int) (m_Bits : Sl) (m_Tag : Bs (16 : Nat)) (h : Heap) (R : Value → Heap → Prop) (H : wire_Good_vc m_Kind m_Slot m_Target m_Member m_Body m_Bits m_Tag h R) : CallsH Try.prog 30 (TVs.vals [TV.agg [TV.int IntKind.i64 m_Kind, TV.int IntKind.i64 m_Slot, TV.bytes (32 : Nat) m_Target, TV.int IntKind.i64 m_Member, TV.int IntKind.u64 m_Body, TV.slice m_Bits, TV.bytes (16 : Nat) m_Tag]]) h R :=
 vcFn_sound (C := ctx) ctx_ok (fn := Try.f30) Try.func30 ((by kernel_rfl : wire_Good_vc m_Kind m_Slot m_Target m_Member m_Body m_Bits m_Tag h R = vcFn ctx Try.f30 [TV.agg [TV.int IntKind.i64 m_Kind, TV.int IntKind.i64 m_Slot, TV.bytes (32 : Nat) m_Target, TV.int IntKind.i64 m_Member, TV.int IntKind.u64 m_Body, TV.slice m_Bits, TV.bytes (16 : Nat) m_Tag]] h R) ▸ H)


def slices_Contains___bool_bool__vc (s_ : Sl) (v_ : Bool) (h : Heap) (R : Value → Heap → Prop) : Prop :=
 CallsH Try.prog (62 : Nat) (TVs.vals [TV.slice s_, TV.bool v_]) h fun (v : Value) (h : Heap) ↦
 ∃ (n : Int), v = TV.val (TV.int IntKind.i64 n) ∧ R (TV.val (TV.bool (decide ((0 : Int) ≤ n)))) h

theorem slices_Contains___bool_bool__calls (s_ : Sl) (v_ : Bool) (h : Heap) (R : Value → Heap → Prop) (H : slices_Contains___bool_bool__vc s_ v_ h R) : CallsH Try.prog 50 (TVs.vals [TV.slice s_, TV.bool v_]) h R :=
 vcFn_sound (C := ctx) ctx_ok (fn := Try.f50) Try.func50 ((by kernel_rfl : slices_Contains___bool_bool__vc s_ v_ h R = vcFn ctx Try.f50 [TV.slice s_, TV.bool v_] h R) ▸ H)


def slices_Index___bool_bool__vc (s_ : Sl) (v_ : Bool) (h : Heap) (R : Value → Heap → Prop) : Prop :=
 Go.Vc.Loop ((0 : Int), (0 : Int)) h fun (s : Int × Int) (h : Array Obj) (K : Int × Int → Array Obj → Prop) ↦
 If (decide (s.snd < (↑s_.len : Int)))
 ((0 : Int) ≤ s.snd ∧
 s.snd < (↑s_.len : Int) ∧
 Nn s_.a fun (l : Go.Vc.Loc) ↦
 ∃ (b : Bool),
 at1 h l.b (l.o + Int.toNat s.snd * (1 : Nat)) (Value.bool b) ∧
 If (v_ == b) (R (TV.val (TV.int IntKind.i64 s.snd)) h) (K (s.fst, IntKind.wrap IntKind.i64 (s.snd + (1 : Int))) h))
 (R (TV.val (TV.int IntKind.i64 (-1 : Int))) h)

theorem slices_Index___bool_bool__calls (s_ : Sl) (v_ : Bool) (h : Heap) (R : Value → Heap → Prop) (H : slices_Index___bool_bool__vc s_ v_ h R) : CallsH Try.prog 62 (TVs.vals [TV.slice s_, TV.bool v_]) h R :=
 vcFn_sound (C := ctx) ctx_ok (fn := Try.f62) Try.func62 ((by kernel_rfl : slices_Index___bool_bool__vc s_ v_ h R = vcFn ctx Try.f62 [TV.slice s_, TV.bool v_] h R) ▸ H)


end Go.Proofs.Ytgdhddignbkloaa
end

section
/- Messages as bytes: rows of bits, whether a message can be, its bytes, what one speaker's tag is of. -/
namespace Go.Proofs.Ytgdhddignbkloaa.Board
open Go Go.Vc
section
variable {R : Value → Heap → Prop} {h : Heap}

/-- A bit more in a byte. -/
def orv (c i : Int) : Int := IntKind.wrap .u8 ((BitVec.ofInt (IntKind.bits .u8) c ||| BitVec.ofInt (IntKind.bits .u8) (IntKind.wrap .u8 (1 * 2 ^ min (Int.toNat (Int.tmod i 8)) (IntKind.bits .u8)))).toNat : Int)
def bitS (acc : List UInt8) (i : Nat) : List UInt8 := acc.set (i / 8) (UInt8.ofNat (orv (by8 acc (i / 8)) (i : Int)).toNat)
def bitG (row : List Bool) : Nat → List UInt8
  | 0 => List.replicate (row.length / 8 + 1) 0
  | i + 1 => if row.getD i false = true then bitS (bitG row i) i else bitG row i
/-- A row of bits as bytes. -/
def bitF (row : List Bool) : List UInt8 := bitS (bitG row row.length) row.length

theorem bitG_length (row : List Bool) : ∀ i, (bitG row i).length = row.length / 8 + 1
  | 0 => by simp [bitG]
  | i + 1 => by
    unfold bitG
    split
    · simp [bitS, bitG_length row i]
    · exact bitG_length row i

theorem by8_right (bs g : List UInt8) (k : Nat) : by8 (bs ++ g) (bs.length + k) = by8 g k := by
  unfold by8
  rw [List.getD_eq_getElem?_getD, List.getD_eq_getElem?_getD, List.getElem?_append_right (by omega)]
  congr 4
  omega

/-- A byte of a row is written. -/
theorem Row.set {Q : Nat → Prop} {s : Sl} {bs : List UInt8} (r : Row Q h s bs) {i c : Int} (i0 : 0 ≤ i) (i1 : i < bs.length) (c0 : 0 ≤ c) (c1 : c < 256) {K : Heap → Prop}
    (hk : ∀ h', Row Q h' s (bs.set i.toNat (UInt8.ofNat c.toNat)) → Only Q h h' → K h') : 0 ≤ i ∧ i < (s.len : Int) ∧ Nn s.a fun l => wok h l.b (l.o + i.toNat * 1) 1 ∧ Bind ((TV.int .u8 c).put h l.b (l.o + i.toNat * 1)) K := by
  refine r.own.put_in (t := .int .u8 c) i0 (by rw [List.length_map]; exact i1) rfl rfl fun h1 o1 f1 s1 => hk h1 ⟨?_, r.far, fun j hj => r.new j (by omega)⟩ (r.cut f1)
  have e : byTV (UInt8.ofNat c.toNat) = TV.int .u8 c := by
    unfold byTV
    rw [UInt8.toNat_ofNat']
    congr 1
    omega
  have : bys (bs.set i.toNat (UInt8.ofNat c.toNat)) = (bys bs).set i.toNat (TV.int .u8 c) := by simp [bys, List.map_set, e]
  rw [this]
  exact o1

theorem bput_spec {Q : Nat → Prop} {s list : Sl} {bs : List UInt8} {row : List Bool} (r : Row Q h s bs) (hl : bs.length < 1000) (hn : row.length < 1000) (hlen : row.length = list.len) (e : ∀ h', Only Q h h' → Elems 1 h' list (bools row))
    (hr : ∀ h' s', Row Q h' s' (bs ++ bitF row) → Only Q h h' → R (TV.slice s').val h') : CallsH Try.prog 49 (TVs.vals [.slice s, .slice list]) h R := by
  apply bitlist_Put_calls
  unfold bitlist_Put_vc
  have rl := r.len
  have hq : Int.tdiv (list.len : Int) 8 = ((row.length / 8 : Nat) : Int) := by
    rw [Int.tdiv_eq_ediv_of_nonneg (by omega), ← hlen]
    rfl
  rw [hq, wrap_i64 (n := ((row.length / 8 : Nat) : Int)) (by omega) (by omega), wrap_i64 (n := ((row.length / 8 : Nat) : Int) + 1) (by omega) (by omega)]
  have hk1 : Int.toNat (((row.length / 8 : Nat) : Int) + 1) = row.length / 8 + 1 := by omega
  refine ⟨by decide, by omega, by omega, ?_⟩
  rw [hk1]
  have hrep : List.replicate (row.length / 8 + 1) (Value.int .u8 0) = (bitG row 0).map fun c => Value.int .u8 (c.toNat : Int) := by simp [bitG]
  rw [hrep, ← bitG_length row 0]
  refine app_bytes r (by rw [bitG_length]; omega) fun s1 h1 r1 f1 b1 => ?_
  have f1 := r.cut f1
  refine ⟨fun i hh => 0 ≤ i ∧ i ≤ row.length ∧ Row Q hh s1 (bs ++ bitG row i.toNat) ∧ Only Q h hh, fun i _ => ((row.length : Int) - i).toNat, ⟨Int.le_refl 0, by omega, r1, f1⟩, ?_⟩
  rintro i h2 ⟨i0, i1, r2, f2⟩
  have l2 := r2.len
  rw [List.length_append, bitG_length] at l2
  rw [wrap_i64 (n := i + 1) (by omega) (by omega)]
  refine If.dec.2 ⟨fun hi => ?_, fun hi => ?_⟩
  · refine read_bool (e h2 f2) i0 (by omega) fun x hx => ?_
    have hgd : row.getD i.toNat false = x := by rw [List.getD_eq_getElem?_getD, hx]; rfl
    have hi1 : (i + 1).toNat = i.toNat + 1 := by omega
    cases x with
    | false =>
      refine If.no ⟨⟨by omega, by omega, ?_, f2⟩, by first | omega | (dsimp only; omega)⟩
      rw [hi1]
      unfold bitG
      rw [hgd, if_neg (by decide)]
      exact r2
    | true =>
      have hqi : Int.tdiv i 8 = ((i.toNat / 8 : Nat) : Int) := by
        rw [Int.tdiv_eq_ediv_of_nonneg i0]
        omega
      have hmi : 0 ≤ Int.tmod i 8 := by rw [Int.tmod_eq_emod_of_nonneg i0]; omega
      rw [hqi, wrap_i64 (n := ((i.toNat / 8 : Nat) : Int)) (by omega) (by omega), wrap_i64 (n := (s.len : Int) + ((i.toNat / 8 : Nat) : Int)) (by omega) (by omega)]
      have hb : i.toNat / 8 < row.length / 8 + 1 := by omega
      have hat : Int.toNat ((s.len : Int) + ((i.toNat / 8 : Nat) : Int)) = bs.length + i.toNat / 8 := by omega
      refine If.yes ⟨by decide, byte_in (bs := bs ++ bitG row i.toNat) r2.own.elems (by omega) (by rw [List.length_append, bitG_length]; omega) ⟨by decide, hmi, ?_⟩⟩
      have hw : 0 ≤ orv (by8 (bs ++ bitG row i.toNat) (Int.toNat ((s.len : Int) + ((i.toNat / 8 : Nat) : Int)))) i ∧ orv (by8 (bs ++ bitG row i.toNat) (Int.toNat ((s.len : Int) + ((i.toNat / 8 : Nat) : Int)))) i < 256 := wrap_u8_range _
      refine r2.set (i := (s.len : Int) + ((i.toNat / 8 : Nat) : Int)) (c := orv (by8 (bs ++ bitG row i.toNat) (Int.toNat ((s.len : Int) + ((i.toNat / 8 : Nat) : Int)))) i) (by omega) (by rw [List.length_append, bitG_length]; omega) hw.1 hw.2 fun h3 r3 f3 => ?_
      refine ⟨⟨by omega, by omega, ?_, f2.trans f3⟩, by first | omega | (dsimp only; omega)⟩
      rw [hat, by8_right, List.set_append_right _ _ (by omega), show bs.length + i.toNat / 8 - bs.length = i.toNat / 8 by omega] at r3
      rw [hi1]
      unfold bitG
      rw [hgd, if_pos rfl, bitS, show ((i.toNat : Nat) : Int) = i by omega]
      exact r3
  · have hin : i.toNat = row.length := by omega
    rw [hin] at r2
    have hmi : 0 ≤ Int.tmod (list.len : Int) 8 := by rw [Int.tmod_eq_emod_of_nonneg (by omega)]; omega
    rw [wrap_i64 (n := (s1.len : Int) - 1) (by omega) (by omega)]
    have hat : Int.toNat ((s1.len : Int) - 1) = bs.length + row.length / 8 := by omega
    refine byte_in (bs := bs ++ bitG row row.length) r2.own.elems (by omega) (by rw [List.length_append, bitG_length]; omega) ⟨by decide, hmi, ?_⟩
    have hw : 0 ≤ orv (by8 (bs ++ bitG row row.length) (Int.toNat ((s1.len : Int) - 1))) (list.len : Int) ∧ orv (by8 (bs ++ bitG row row.length) (Int.toNat ((s1.len : Int) - 1))) (list.len : Int) < 256 := wrap_u8_range _
    refine r2.set (i := (s1.len : Int) - 1) (c := orv (by8 (bs ++ bitG row row.length) (Int.toNat ((s1.len : Int) - 1))) (list.len : Int)) (by omega) (by rw [List.length_append, bitG_length]; omega) hw.1 hw.2 fun h3 r3 f3 => ?_
    refine hr h3 s1 ?_ (f2.trans f3)
    rw [hat, by8_right, List.set_append_right _ _ (by omega), show bs.length + row.length / 8 - bs.length = row.length / 8 by omega, ← hlen] at r3
    exact r3

/-! ### Messages -/

structure Ms where
  kind : Int
  slot : Int
  target : Bs 32
  member : Int
  body : Int
  bits : Sl
  tag : Bs 16
def Ms.tv (m : Ms) : TV := .agg [.int .i64 m.kind, .int .i64 m.slot, .bytes 32 m.target, .int .i64 m.member, .int .u64 m.body, .slice m.bits, .bytes 16 m.tag]

def zeroM : Ms := ⟨0, 0, Bs.zero 32, 0, 0, Sl.nil, Bs.zero 16⟩

/-- A message is read. -/
theorem ms_at {m : Ms} {b : Nat} (v : Var 32 h b m.tv) {K : Int → Int → Bs 32 → Int → Int → Sl → Bs 16 → Prop} (hk : K m.kind m.slot m.target m.member m.body m.bits m.tag) :
    ∃ (n : Int), ∃ (n_1 : Int), ∃ (b_ : Bs 32), ∃ (n_2 : Int), ∃ (n_3 : Int), ∃ (s : Sl), ∃ (b_1 : Bs 16), (at1 h b 0 (.int .i64 n) ∧ at1 h b 1 (.int .i64 n_1) ∧ atBytes h b 2 32 b_ ∧ at1 h b 34 (.int .i64 n_2) ∧ at1 h b 35 (.int .u64 n_3) ∧ at1 h b 36 (slVal s) ∧ atBytes h b 37 16 b_1) ∧ K n n_1 b_ n_2 n_3 s b_1 :=
  ⟨m.kind, m.slot, m.target, m.member, m.body, m.bits, m.tag, v.at, hk⟩

theorem mssz {c d : Ms} : c.tv.size = d.tv.size := by simp only [Ms.tv, TV.size, TVs.size]
theorem mssz1 {c : Ms} : 53 = c.tv.size := by simp only [Ms.tv, TV.size, TVs.size]

/-- Can a message be? -/
def goodF (m : Ms) (row : List Bool) : Bool :=
  !(decide (m.slot < 0) || decide (1073741824 < m.slot) || decide (m.member < 0) || decide (65535 < m.member) || (!decide (m.kind = 1) && !decide (m.body = 0))) &&
    if m.kind = 3 then decide (m.member = 0) && (decide (row.length ≤ 16) && row.contains true) else (decide (m.kind = 1) || decide (m.kind = 2)) && decide (row.length = 0)

def bidx : List Bool → Int → Int
  | [], _ => -1
  | b :: bs, i => if b = true then i else bidx bs (i + 1)

theorem bidx_nonneg : ∀ (l : List Bool) (i : Int), 0 ≤ i → (decide (0 ≤ bidx l i) = l.contains true)
  | [], i, _ => by simp [bidx]
  | b :: bs, i, hi => by
    unfold bidx
    cases b with
    | true => rw [if_pos rfl]; simp [hi]
    | false => rw [if_neg (by decide), bidx_nonneg bs (i + 1) (by omega)]; simp

theorem bindex_spec {s : Sl} {l : List Bool} (e : Elems 1 h s (bools l)) (hl : l.length < 100000) (hr : R (TV.int .i64 (bidx l 0)).val h) : CallsH Try.prog 62 (TVs.vals [.slice s, .bool true]) h R := by
  apply slices_Index___bool_bool__calls
  unfold slices_Index___bool_bool__vc
  have el : l.length = s.len := by have := e.len; rwa [List.length_map] at this
  refine ⟨fun σ hh => 0 ≤ σ.2 ∧ σ.2 ≤ s.len ∧ hh = h ∧ bidx l 0 = bidx (l.drop σ.2.toNat) σ.2, fun σ _ => ((s.len : Int) - σ.2).toNat, ⟨Int.le_refl 0, by first | omega | (dsimp only; omega), rfl, rfl⟩, ?_⟩
  rintro ⟨f, i⟩ hh ⟨i0, i1, rfl, ht⟩
  dsimp only at i0 i1 ht ⊢
  refine If.dec.2 ⟨fun hi => ?_, fun hi => ?_⟩
  · refine read_bool e i0 (by omega) fun x hx => ?_
    rw [drop_get hx, bidx] at ht
    cases x with
    | true =>
      rw [if_pos rfl] at ht
      rw [ht] at hr
      exact If.yes hr
    | false =>
      rw [if_neg (by decide)] at ht
      rw [wrap_i64 (n := i + 1) (by omega) (by omega)]
      have hi1 : (i + 1).toNat = i.toNat + 1 := by omega
      refine If.no ⟨⟨by first | omega | (dsimp only; omega), by first | omega | (dsimp only; omega), rfl, ?_⟩, by first | omega | (dsimp only; omega)⟩
      try dsimp only
      rw [hi1]
      exact ht
  · have hi2 : l.drop i.toNat = [] := List.drop_eq_nil_of_le (by omega)
    rw [hi2, bidx] at ht
    rw [ht] at hr
    exact hr

theorem contains_spec {s : Sl} {l : List Bool} (e : Elems 1 h s (bools l)) (hl : l.length < 100000) (hr : R (TV.bool (l.contains true)).val h) : CallsH Try.prog 50 (TVs.vals [.slice s, .bool true]) h R := by
  apply slices_Contains___bool_bool__calls
  unfold slices_Contains___bool_bool__vc
  refine bindex_spec e hl ⟨_, rfl, ?_⟩
  rw [bidx_nonneg l 0 (Int.le_refl 0)]
  exact hr

theorem mgood_spec {m : Ms} {row : List Bool} (e : Elems 1 h m.bits (bools row)) (hl : row.length < 100000) (hr : ∀ h', Ext h h' → R (TV.bool (goodF m row)).val h') : CallsH Try.prog 30 (TVs.vals [m.tv]) h R := by
  apply wire_Good_calls m.kind m.slot m.target m.member m.body m.bits m.tag
  unfold wire_Good_vc
  have el : row.length = m.bits.len := by have := e.len; rwa [List.length_map] at this
  refine newTV_in fun h1 v1 x1 s1 => ?_
  have at0 := v1.at (t := m.tv)
  obtain ⟨a0, a1, a2, a3, a4, a5, a6⟩ := at0
  have hr1 := hr h1 x1
  intro J HJ
  have fin : ∀ b, m.slot ≥ 0 → m.slot ≤ 1073741824 → m.member ≥ 0 → m.member ≤ 65535 → (m.kind = 1 ∨ m.body = 0) → J b h1 := by
    intro b g1 g2 g3 g4 g5
    refine HJ b h1 ⟨_, a0, ?_⟩
    have hpre : (!(decide (m.slot < 0) || decide (1073741824 < m.slot) || decide (m.member < 0) || decide (65535 < m.member) || (!decide (m.kind = 1) && !decide (m.body = 0)))) = true := by
      rcases g5 with g5 | g5 <;> simp [g5] <;> omega
    unfold goodF at hr1
    rw [hpre, Bool.true_and] at hr1
    refine If.dec.2 ⟨fun k3 => ?_, fun k3 => ?_⟩
    · rw [if_pos k3] at hr1
      refine ⟨_, a3, If.dec.2 ⟨fun k4 => ⟨_, a5, If.dec.2 ⟨fun k5 => ⟨_, a5, ?_⟩, fun k5 => ?_⟩⟩, fun k4 => ?_⟩⟩
      · refine contains_spec (e.ext x1) hl ⟨_, rfl, ?_⟩
        rw [decide_eq_true k4, decide_eq_true (show row.length ≤ 16 by omega)] at hr1
        exact hr1
      · rw [decide_eq_true k4, decide_eq_false (show ¬ row.length ≤ 16 by omega)] at hr1
        exact hr1
      · rw [decide_eq_false k4] at hr1
        exact hr1
    · rw [if_neg k3, el] at hr1
      have hd : decide (((m.bits.len : Nat) : Int) = 0) = decide (m.bits.len = 0) := by
        by_cases h0 : m.bits.len = 0
        · rw [decide_eq_true h0, decide_eq_true (by omega)]
        · rw [decide_eq_false h0, decide_eq_false (by omega)]
      rw [← hd] at hr1
      refine ⟨_, a0, If.dec.2 ⟨fun k4 => ⟨_, a5, ?_⟩, fun k4 => ⟨_, a0, If.dec.2 ⟨fun k5 => ⟨_, a5, ?_⟩, fun k5 => ?_⟩⟩⟩⟩
      · rw [decide_eq_true k4] at hr1
        exact hr1
      · rw [decide_eq_false k4, decide_eq_true k5] at hr1
        exact hr1
      · rw [decide_eq_false k4, decide_eq_false k5] at hr1
        exact hr1
  have bad : (m.slot < 0 ∨ 1073741824 < m.slot ∨ m.member < 0 ∨ 65535 < m.member ∨ (m.kind ≠ 1 ∧ m.body ≠ 0)) → R (TV.bool false).val h1 := by
    intro hb
    have hpre : (!(decide (m.slot < 0) || decide (1073741824 < m.slot) || decide (m.member < 0) || decide (65535 < m.member) || (!decide (m.kind = 1) && !decide (m.body = 0)))) = false := by
      rcases hb with hb | hb | hb | hb | ⟨hb, hc⟩
      · simp [hb]
      · simp [hb]
      · simp [hb]
      · simp [hb]
      · simp [hb, hc]
    unfold goodF at hr1
    rw [hpre, Bool.false_and] at hr1
    exact hr1
  clear HJ
  refine ⟨_, a1, If.dec.2 ⟨fun g => bad (.inl g), fun g1 => ⟨_, a1, If.dec.2 ⟨fun g => bad (.inr (.inl g)), fun g2 => ⟨_, a3, If.dec.2 ⟨fun g => bad (.inr (.inr (.inl g))), fun g3 => ⟨_, a3, If.dec.2 ⟨fun g => bad (.inr (.inr (.inr (.inl g)))), fun g4 => ⟨_, a0, If.split (fun g5 => ⟨_, a4, If.split (fun g6 => ?_) fun g6 => ?_⟩) fun g5 => ?_⟩⟩⟩⟩⟩⟩⟩⟩⟩
  · exact bad (.inr (.inr (.inr (.inr ⟨by simpa using g5, by simpa using g6⟩))))
  · exact fin _ (by omega) (by omega) (by omega) (by omega) (.inr (by simpa using g6))
  · exact fin _ (by omega) (by omega) (by omega) (by omega) (.inl (by simpa using g5))

end
end Go.Proofs.Ytgdhddignbkloaa.Board
end
