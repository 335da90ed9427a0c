/- Members of a slot's committee: the seats in order, cut. -/
import Derived.Test.YtgdhddignbkloaaBoardD
import Derived.Test.YtgdhddignbkloaaVcQ
import Derived.Test.YtgdhddignbkloaaShelf
namespace Go.Proofs.Ytgdhddignbkloaa.Board
open Go Go.Vc

theorem less_irrefl : ∀ a : List UInt8, Op.bytesLess a a = false
  | [] => rfl
  | x :: xs => by simp [Op.bytesLess, less_irrefl xs, UInt8.lt_irrefl]

theorem less_asymm : ∀ a b : List UInt8, Op.bytesLess a b = true → Op.bytesLess b a = false
  | [], [], h => by cases h
  | [], y :: ys, _ => rfl
  | x :: xs, [], h => by cases h
  | x :: xs, y :: ys, h => by
    simp only [Op.bytesLess, Bool.or_eq_true, Bool.and_eq_true, decide_eq_true_eq, beq_iff_eq] at h
    simp only [Op.bytesLess, Bool.or_eq_false_iff, Bool.and_eq_false_iff, decide_eq_false_iff_not, beq_eq_false_iff_ne]
    rw [UInt8.lt_iff_toNat_lt] at h
    rw [UInt8.lt_iff_toNat_lt]
    rcases h with h | ⟨h, h1⟩
    · refine ⟨by omega, .inl ?_⟩
      rintro rfl
      omega
    · subst h
      exact ⟨by omega, .inr (less_asymm xs ys h1)⟩

theorem less_trans : ∀ a b c : List UInt8, Op.bytesLess a b = true → Op.bytesLess b c = true → Op.bytesLess a c = true
  | [], [], _, h, _ => by cases h
  | _ :: _, [], _, h, _ => by cases h
  | _, _ :: _, [], _, k => by cases k
  | [], _ :: _, _ :: _, _, _ => rfl
  | x :: xs, y :: ys, z :: zs, h, k => by
    simp only [Op.bytesLess, Bool.or_eq_true, Bool.and_eq_true, decide_eq_true_eq, beq_iff_eq] at h k ⊢
    rw [UInt8.lt_iff_toNat_lt] at h k ⊢
    rcases h with h | ⟨h, h1⟩
    · rcases k with k | ⟨k, k1⟩
      · left; omega
      · left; rw [← k]; exact h
    · rcases k with k | ⟨k, k1⟩
      · left; rw [h]; exact k
      · right; exact ⟨h.trans k, less_trans xs ys zs h1 k1⟩

theorem less_total : ∀ a b : List UInt8, a ≠ b → Op.bytesLess a b = true ∨ Op.bytesLess b a = true
  | [], [], h => absurd rfl h
  | [], y :: ys, _ => .inl rfl
  | x :: xs, [], _ => .inr rfl
  | x :: xs, y :: ys, h => by
    simp only [Op.bytesLess, Bool.or_eq_true, Bool.and_eq_true, decide_eq_true_eq, beq_iff_eq]
    rw [UInt8.lt_iff_toNat_lt, UInt8.lt_iff_toNat_lt]
    by_cases e : x = y
    · subst e
      rcases less_total xs ys (fun hx => h (by rw [hx])) with h1 | h1
      · exact .inl (.inr ⟨rfl, h1⟩)
      · exact .inr (.inr ⟨rfl, h1⟩)
    · have : x.toNat ≠ y.toNat := fun hx => e (UInt8.toNat_inj.1 hx)
      rcases Nat.lt_or_ge x.toNat y.toNat with h1 | h1
      · exact .inl (.inl h1)
      · exact .inr (.inl (by omega))

/-! ### Seats in order -/

instance : Inhabited Seat := ⟨⟨Bs.zero 32, 0⟩⟩

/-- One seat comes ahead of another. -/
def sb (x y : Seat) : Prop := Op.bytesLess x.lot.l y.lot.l = true ∨ (x.lot = y.lot ∧ x.who < y.who)

theorem befF_iff {x y : Seat} : befF x y < 0 ↔ sb x y := by
  unfold befF sb
  by_cases h1 : Op.bytesLess x.lot.l y.lot.l = true
  · rw [if_pos h1]; simp [h1]
  · rw [if_neg h1]
    by_cases h2 : Op.bytesLess y.lot.l x.lot.l = true
    · rw [if_pos h2]
      constructor
      · intro h; omega
      · rintro (h | ⟨h, _⟩)
        · exact absurd h h1
        · rw [h, less_irrefl] at h2; cases h2
    · rw [if_neg h2]
      have e : x.lot = y.lot := by
        apply Bs.ext'
        apply Classical.byContradiction
        intro hn
        rcases less_total _ _ hn with h | h
        · exact h1 h
        · exact h2 h
      by_cases h3 : x.who < y.who
      · rw [if_pos h3]; simp [e, h3]
      · rw [if_neg h3]
        split <;> simp [h1, h3]

theorem sb_irrefl (x : Seat) : ¬ sb x x := by
  rintro (h | ⟨_, h⟩)
  · rw [less_irrefl] at h; cases h
  · omega

theorem sb_trans {x y z : Seat} (h : sb x y) (k : sb y z) : sb x z := by
  rcases h with h | ⟨h, h1⟩ <;> rcases k with k | ⟨k, k1⟩
  · exact .inl (less_trans _ _ _ h k)
  · exact .inl (by rw [← k]; exact h)
  · exact .inl (by rw [h]; exact k)
  · exact .inr ⟨h.trans k, by omega⟩

theorem sb_total {x y : Seat} (h : x.who ≠ y.who) : sb x y ∨ sb y x := by
  by_cases e : x.lot = y.lot
  · rcases Int.lt_or_gt_of_ne h with h1 | h1
    · exact .inl (.inr ⟨e, h1⟩)
    · exact .inr (.inr ⟨e.symm, h1⟩)
  · rcases less_total x.lot.l y.lot.l (fun hx => e (Bs.ext' hx)) with h1 | h1
    · exact .inl (.inl h1)
    · exact .inr (.inl h1)

theorem sb_cases (x y : Seat) : sb x y ∨ sb y x ∨ x = y := by
  by_cases h : x.who = y.who
  · by_cases e : x.lot = y.lot
    · cases x; cases y; simp_all
    · rcases less_total x.lot.l y.lot.l (fun hx => e (Bs.ext' hx)) with h1 | h1
      · exact .inl (.inl h1)
      · exact .inr (.inl (.inl h1))
  · rcases sb_total h with h1 | h1
    · exact .inl h1
    · exact .inr (.inl h1)

theorem lt_sb {x y : Seat} : Go.Proofs.ltOf befF x y = true ↔ sb x y := by
  unfold Go.Proofs.ltOf
  rw [decide_eq_true_iff, befF_iff]

theorem lt_sb' {x y : Seat} : Go.Proofs.ltOf befF x y = false ↔ ¬ sb x y := by
  rw [← lt_sb]; simp

theorem swo : Go.Sort.SWO (Go.Proofs.ltOf befF) where
  irrefl x := by rw [lt_sb']; exact sb_irrefl x
  trans x y z h k := by rw [lt_sb] at *; exact sb_trans h k
  ntrans x y z h k := by
    rw [lt_sb'] at *
    intro hz
    rcases sb_cases x y with h1 | h1 | h1
    · exact h h1
    · exact k (sb_trans h1 hz)
    · subst h1; exact k hz

/-- The seats of so many validators. -/
def sts (slot : Int) (n : Nat) : List Seat := (List.range n).map fun (i : Nat) => ⟨lotF slot (i : Int), (i : Int)⟩

theorem sts_succ (slot : Int) (n : Nat) : sts slot (n + 1) = sts slot n ++ [⟨lotF slot (n : Int), (n : Int)⟩] := by
  unfold sts
  rw [List.range_succ, List.map_append]
  rfl

theorem sts_length (slot : Int) (n : Nat) : (sts slot n).length = n := by simp [sts]

noncomputable def leb (x y : Seat) : Bool := !Go.Proofs.ltOf befF y x
noncomputable def sorted (slot : Int) (n : Nat) : List Seat := (sts slot n).mergeSort leb

theorem leb_iff {x y : Seat} : leb x y = true ↔ ¬ sb y x := by
  unfold leb
  rw [Bool.not_eq_true', lt_sb']

theorem sorted_perm (slot : Int) (n : Nat) : (sorted slot n).Perm (sts slot n) := List.mergeSort_perm _ _

theorem sorted_pair (slot : Int) (n : Nat) : (sorted slot n).Pairwise fun x y => ¬ sb y x := by
  have := List.pairwise_mergeSort (le := leb) (fun a b c h k => by
    rw [leb_iff] at *
    exact lt_sb'.1 (swo.ntrans _ _ _ (lt_sb'.2 k) (lt_sb'.2 h))) (fun a b => by
    rw [Bool.or_eq_true, leb_iff, leb_iff]
    by_cases h : sb b a
    · right; intro h2; exact sb_irrefl _ (sb_trans h h2)
    · exact .inl h) (sts slot n)
  exact this.imp fun {x y} h => leb_iff.1 h

theorem sorted_unique {slot : Int} {n : Nat} {L : List Seat} (hp : L.Perm (sts slot n)) (hs : L.Pairwise fun x y => ¬ sb y x) : L = sorted slot n := by
  refine List.Perm.eq_of_pairwise (le := fun x y => ¬ sb y x) (fun a b _ _ h k => ?_) hs (sorted_pair slot n) (hp.trans (sorted_perm slot n).symm)
  rcases sb_cases a b with h1 | h1 | h1
  · exact absurd h1 k
  · exact absurd h1 h
  · exact h1

/-- The members of a slot's committee. -/
noncomputable def mem (n : Nat) (com slot : Int) : List Int :=
  if slot < 0 ∨ 1073741824 < slot then [] else ((sorted slot n).take (min (max com 0) (n : Int)).toNat).map Seat.who

theorem sorted_length (slot : Int) (n : Nat) : (sorted slot n).length = n := by rw [(sorted_perm slot n).length_eq, sts_length]

/-! ### The program -/

structure Cf where
  vals : Sl
  ep : Int
  com : Int
  no : Int
  orp : Int
  ear : Int
  quo : Int
  pe : Int
  by_ : Int
  win : Int
  ban : Int
  dec : Int

def Cf.tv (c : Cf) : TV := .agg [.slice c.vals, .int .i64 c.ep, .int .i64 c.com, .int .i64 c.no, .int .i64 c.orp, .int .i64 c.ear, .int .i64 c.quo, .int .i64 c.pe, .int .i64 c.by_, .int .i64 c.win, .int .i64 c.ban, .int .i64 c.dec]

section
variable {R : Value → Heap → Prop} {h : Heap}

abbrev ints (l : List Int) : List TV := l.map (TV.int .i64)
abbrev seats (l : List Seat) : List TV := l.map Seat.tv

theorem Seat.size (s : Seat) : s.tv.size = 33 := by simp only [Seat.tv, TV.size, TVs.size]
theorem Seat.plain (s : Seat) : s.tv.plain = true := by rfl
theorem bytes50 : (ctx.ti 107).bytes = 40 := by kernel_rfl
theorem size50 : (ctx.ti 107).size = 33 := by kernel_rfl
theorem zsize50 : (ctx.ti 107).z.size = 33 := by kernel_rfl
theorem bytes3 : (ctx.ti 3).bytes = 8 := by kernel_rfl
theorem size3 : (ctx.ti 3).size = 1 := by kernel_rfl
theorem zsize3 : (ctx.ti 3).z.size = 1 := by kernel_rfl

theorem aE50 : ∀ w, (isAgg (Try.sortIts_ren.t 24)).run Try.prog w = .ok true w := fun w => by
  have hu : ∃ fs, Try.prog.underlying 107 = some (.struct fs) := by
    cases hd : (ctx.ti 107).d with
    | none => have : (ctx.ti 107).d.isSome = true := by kernel_rfl
              rw [hd] at this; cases this
    | some d =>
      have hd' := ctx_ok.d hd
      have hs : (match (ctx.ti 107).d with | some (.struct _) => true | _ => false) = true := by kernel_rfl
      rw [hd] at hs
      cases d <;> first | (exact ⟨_, hd'⟩) | cases hs
  obtain ⟨fs, hu⟩ := hu
  have := isAgg_run (P := Try.prog) (w := w) hu
  exact this

theorem zE50 : ∀ w, (sizeOf (Try.sortIts_ren.t 24)).run Try.prog w = .ok 33 w := fun w => by
  have := sizeRun (C := ctx) ctx_ok (t := 107) (by kernel_rfl) w
  rw [size50] at this
  exact this

theorem sort_spec {s : Sl} {L : List Seat} (o : Own 107 33 h s (seats L)) (hl : L.length < 1000)
    (hr : ∀ h' L', L'.Perm L → L'.Pairwise (fun x y => ¬ sb y x) → Own 107 33 h' s (seats L') → Only (In s) h h' → R (TV.tup []).val h') : CallsH Try.prog 64 (TVs.vals [.slice s, .fn (.func 65) [] []]) h R := by
  refine sort_own (tv := Seat.tv) (k := 33) (P := Try.prog) Try.sortIts (T := 107) aE50 zE50 Seat.size Seat.plain swo (g := 65) (cb := #[]) (ctx_ok.entP (by kernel_rfl)) (fun h' x y => ?_) o (by omega) (fun h' L' hp hs o' f => ?_)
  · exact before_spec (x := x) (y := y) fun h'' x'' => ⟨rfl, x''⟩
  · refine hr h' L' hp (hs.imp fun {x y} hx => ?_) o' f
    rwa [lt_sb'] at hx

theorem read_seat {s : Sl} {L : List Seat} {i : Int} (e : Elems 33 h s (seats L)) (i0 : 0 ≤ i) (i1 : i < L.length) {K : Bs 32 → Int → Prop} (hk : ∀ x, L[i.toNat]? = some x → K x.lot x.who) :
    0 ≤ i ∧ i < (s.len : Int) ∧ Nn s.a fun (l : Vc.Loc) => ∃ (b : Bs 32), ∃ (n : Int), (atBytes h l.b (l.o + i.toNat * 33) 32 b ∧ at1 h l.b (l.o + i.toNat * 33 + 32) (.int .i64 n)) ∧ K b n := by
  have hl := e.len
  rw [List.length_map] at hl
  refine e.read i0 (by omega) fun l t hla ht ha => ?_
  rw [List.getElem?_map] at ht
  obtain ⟨x, hx, rfl⟩ := Option.map_eq_some_iff.1 ht
  exact ⟨x.lot, x.who, ha, hk x hx⟩

theorem cut_elems33 {s : Sl} {ts : List TV} {i j : Nat} (e : Elems 33 h s ts) (hij : i ≤ j) (hj : j ≤ s.len) (hcap : s.len ≤ s.cap) : Elems 33 h (cutSl s i j 33) ((ts.drop i).take (j - i)) := by
  have hl := e.len
  refine ⟨by simp only [cutSl, List.length_take, List.length_drop]; omega, fun hn => ?_, fun l hla k t ht => ?_⟩
  · unfold cutSl at hn
    simp only at hn
    have : ts = [] ∨ i = j := by
      split at hn
      · right
        omega
      · left
        cases hs : s.a with
        | none => exact e.nil hs
        | some l => rw [hs] at hn; simp at hn
    rcases this with rfl | rfl
    · simp
    · simp
  · unfold cutSl at hla
    simp only at hla
    rw [List.getElem?_take] at ht
    split at ht
    · rename_i hk
      rw [List.getElem?_drop] at ht
      split at hla
      · omega
      · cases hs : s.a with
        | none => rw [hs] at hla; simp at hla
        | some l0 =>
          rw [hs] at hla
          simp only [Option.map_some, Option.some.injEq] at hla
          subst hla
          have := e.get l0 hs (i + k) t ht
          rw [Nat.add_mul, ← Nat.add_assoc] at this
          exact this
    · cases ht

theorem members_spec {c : Cf} {slot : Int} (hv : c.vals.len < 900) (hr : ∀ h' s', Own 3 1 h' s' (ints (mem c.vals.len c.com slot)) → Ext h h' → (∀ l, s'.a = some l → h.size ≤ l.b) → R (TV.slice s').val h') :
    CallsH Try.prog 51 (TVs.vals [c.tv, .int .i64 slot]) h R := by
  apply board_Members_calls c.vals c.ep c.com c.no c.orp c.ear c.quo c.pe c.by_ c.win c.ban c.dec slot
  unfold board_Members_vc
  refine newTV_in fun h1 v1 x1 s1 => ?_
  intro J hJ
  have none_ : slot < 0 ∨ 1073741824 < slot → R (TV.val (TV.slice Sl.nil)) h1 := fun hb => by
    refine hr h1 Sl.nil ?_ x1 (fun l hl => by cases hl)
    unfold mem
    rw [if_pos hb]
    exact Own.nil _ _ _
  refine If.dec.2 ⟨fun hb => none_ (.inl hb), fun hb => If.dec.2 ⟨fun hb2 => none_ (.inr hb2), fun hb2 => ?_⟩⟩
  have hmem : mem c.vals.len c.com slot = ((sorted slot c.vals.len).take (min (max c.com 0) (c.vals.len : Int)).toNat).map Seat.who := by
    unfold mem
    rw [if_neg (by omega)]
  refine hJ _ _ ?_
  have far : ∀ hh, Only (fun i => h.size < i) h1 hh → Ext h hh := fun hh o => Only.cut x1 o fun i hi => by omega
  have var : ∀ hh, Only (fun i => h.size < i) h1 hh → Var 24 hh h.size c.tv := fun hh o => v1.only o (Nat.lt_irrefl _)
  refine ⟨c.vals, v1.at1 rfl, ?_⟩
  refine ⟨fun σ hh => 0 ≤ σ.2 ∧ σ.2 ≤ c.vals.len ∧ Own 107 33 hh σ.1 (seats (sts slot σ.2.toNat)) ∧ (∀ l, σ.1.a = some l → h.size < l.b) ∧ Only (fun i => h.size < i) h1 hh, fun σ _ => ((c.vals.len : Int) - σ.2).toNat,
    ⟨Int.le_refl 0, by dsimp only; omega, Own.nil _ _ _, (fun l hl => by cases hl), Only.refl _ _⟩, ?_⟩
  rintro ⟨s, i⟩ h2 ⟨i0, i1, o2, b2, f2⟩
  dsimp only at i0 i1 o2 b2 ⊢
  have z2 := f2.size
  refine If.dec.2 ⟨fun hi => ?_, fun hi => ?_⟩
  · refine lot_spec fun h3 x3 => ⟨_, rfl, ?_⟩
    have o3 := o2.ext x3
    have hlen := o3.len
    rw [List.length_map, sts_length] at hlen
    refine append1 (C := ctx) (T := 107) (sz := 33) (x := (Seat.mk (lotF slot i) i).tv) size50 zsize50 (by rw [bytes50]; decide) (by rw [bytes50]; omega) o3 (Seat.size _) rfl fun s4 h4 o4 f4 b4 => ?_
    rw [wrap_i64 (n := i + 1) (by omega) (by omega)]
    have hi1 : (i + 1).toNat = i.toNat + 1 := by omega
    have z3 := x3.size
    refine ⟨⟨by omega, by omega, ?_, fun l hl => ?_, ?_⟩, by first | omega | (dsimp only; omega)⟩
    · rw [hi1, sts_succ]
      have hcast : ((i.toNat : Nat) : Int) = i := by omega
      rw [hcast]
      show Own 107 33 h4 s4 ((sts slot i.toNat ++ [Seat.mk (lotF slot i) i]).map Seat.tv)
      rw [List.map_append]
      exact o4
    · rcases b4 l hl with ⟨l', h9, h10⟩ | h9
      · rw [← h10]; exact b2 l' h9
      · omega
    · refine f2.trans ((Only.of_ext x3).trans (f4.mono fun j ⟨l, hl, e⟩ => ?_))
      rw [← e]; exact b2 l hl
  · have hi2 : i.toNat = c.vals.len := by omega
    rw [hi2] at o2
    have hslen := o2.len
    rw [List.length_map, sts_length] at hslen
    refine sort_spec o2 (by rw [sts_length]; omega) fun h3 L' hp hs o3 f3 => ⟨rfl, ?_⟩
    obtain rfl := sorted_unique hp hs
    have f3' : Only (fun i => h.size < i) h1 h3 := f2.trans (f3.mono fun j ⟨l, hl, e⟩ => by rw [← e]; exact b2 l hl)
    refine ⟨c.com, (var h3 f3').at1 rfl, ?_⟩
    have hm : mn (mx c.com 0) (s.len : Int) = min (max c.com 0) (c.vals.len : Int) := by rw [mx_eq, mn_eq, hslen]
    rw [hm]
    have hcap := o3.cap
    have hk0 : 0 ≤ min (max c.com 0) (c.vals.len : Int) := by omega
    have hk1 : min (max c.com 0) (c.vals.len : Int) ≤ (c.vals.len : Int) := by omega
    refine ⟨hk0, by omega, ?_⟩
    generalize hkk : (min (max c.com 0) (c.vals.len : Int)).toNat = k at *
    have hkn : k ≤ c.vals.len := by omega
    have e3 : Elems 33 h3 (cutSl s 0 k 33) (seats ((sorted slot c.vals.len).take k)) := by
      have := cut_elems33 (i := 0) (j := k) o3.elems (Nat.zero_le _) (by omega) hcap
      rw [List.drop_zero, Nat.sub_zero, ← List.map_take] at this
      exact this
    have hcl : (cutSl s 0 k 33).len = k := by simp [cutSl]
    have htl : ((sorted slot c.vals.len).take k).length = k := by rw [List.length_take, sorted_length]; omega
    rw [hcl]
    refine ⟨fun σ hh => 0 ≤ σ.2 ∧ σ.2 ≤ k ∧ Own 3 1 hh σ.1 (ints (((sorted slot c.vals.len).take σ.2.toNat).map Seat.who)) ∧ (∀ l, σ.1.a = some l → h3.size ≤ l.b) ∧ Ext h3 hh, fun σ _ => ((k : Int) - σ.2).toNat,
      ⟨Int.le_refl 0, by dsimp only; omega, Own.nil _ _ _, (fun l hl => by cases hl), Ext.refl _⟩, ?_⟩
    rintro ⟨t, j⟩ h4 ⟨j0, j1, o4, b4, x4⟩
    dsimp only at j0 j1 o4 b4 ⊢
    have z3 := f3'.size
    have z4 := x4.size
    refine If.dec.2 ⟨fun hj => ?_, fun hj => ?_⟩
    · have hr1 := read_seat (e3.ext x4) j0 (by rw [htl]; omega) (K := fun b n => Vc.Bind (newTV h4 (TV.agg [TV.bytes 32 (Bs.zero 32), TV.int IntKind.i64 0]) 107) fun h_5 =>
          wok h_5 h4.size 0 33 ∧ Vc.Bind (TV.put h_5 h4.size 0 (TV.agg [TV.bytes 32 b, TV.int IntKind.i64 n])) fun h_6 => ∃ (n : Int), at1 h_6 h4.size 32 (Value.int IntKind.i64 n) ∧
            ∃ (new : List Value), slAt (Array.push h_6 (row (TVs.cells [TV.int IntKind.i64 n]) 3)) (Sl.mk (some (Vc.Loc.mk (Array.size h_6) 0)) 1 1) 1 new ∧ (∀ (v : Value), v ∈ new → isOne v = true) ∧
              vcAppend ctx 3 t 1 new (Array.push h_6 (row (TVs.cells [TV.int IntKind.i64 n]) 3)) fun s_2 h => (0 ≤ (s_2, IntKind.wrap IntKind.i64 (j + 1)).snd ∧ (s_2, IntKind.wrap IntKind.i64 (j + 1)).snd ≤ k ∧ Own 3 1 h s_2 (ints (((sorted slot c.vals.len).take (IntKind.wrap IntKind.i64 (j + 1)).toNat).map Seat.who)) ∧ (∀ l, s_2.a = some l → h3.size ≤ l.b) ∧ Ext h3 h) ∧ ((k : Int) - IntKind.wrap IntKind.i64 (j + 1)).toNat < ((k : Int) - j).toNat) fun x hx => ?_
      · rw [hcl] at hr1
        exact hr1
      · refine newTV_in fun h5 v5 x5 s5 => put_in v5 (t := x.tv) (by simp only [Seat.tv, TV.size, TVs.size]) fun h6 v6 o6 s6 => ⟨x.who, v6.at1 (by
          have : x.tv.cells = (TV.bytes 32 x.lot).cells ++ [Value.int .i64 x.who] := by simp only [Seat.tv, TV.cells, TVs.cells, List.append_nil]
          rw [this, List.getElem?_append_right (by rw [TV.cells_length]; exact Nat.le_refl _), TV.cells_length]
          rfl), ?_⟩
        have x46 : Ext h4 h6 := Only.cut x5 o6 fun i hi => by omega
        have o5 := o4.ext x46
        have hlen := o5.len
        have htk : ((sorted slot c.vals.len).take j.toNat).length = j.toNat := by rw [List.length_take, sorted_length]; omega
        rw [List.length_map, List.length_map, htk] at hlen
        refine append1 (C := ctx) (T := 3) (sz := 1) (x := .int .i64 x.who) size3 zsize3 (by rw [bytes3]; decide) (by rw [bytes3]; omega) o5 rfl rfl fun s7 h7 o7 f7 b7 => ?_
        rw [wrap_i64 (n := j + 1) (by omega) (by omega)]
        have hj1 : (j + 1).toNat = j.toNat + 1 := by omega
        have hx' : (sorted slot c.vals.len)[j.toNat]? = some x := by
          rw [List.getElem?_take] at hx
          split at hx
          · exact hx
          · cases hx
        refine ⟨⟨by dsimp only; omega, by dsimp only; omega, ?_, fun l hl => ?_, ?_⟩, by omega⟩
        · rw [hj1, take_snoc hx']
          simp only [ints, List.map_append, List.map_cons, List.map_nil] at o7 ⊢
          exact o7
        · have z6 := x46.size
          rcases b7 l hl with ⟨l', h9, h10⟩ | h9
          · rw [← h10]; exact b4 l' h9
          · omega
        · refine Only.cut (x4.trans x46) f7 fun i ⟨l, hl, e⟩ => ?_
          rw [← e]; exact b4 l hl
    · have hj2 : j.toNat = k := by omega
      rw [hj2] at o4
      have x1' : Ext h h4 := (far h3 f3').trans x4
      have := hr h4 t (by rw [hmem]; exact o4) x1' (fun l hl => by have := b4 l hl; omega)
      exact this

end
end Go.Proofs.Ytgdhddignbkloaa.Board
