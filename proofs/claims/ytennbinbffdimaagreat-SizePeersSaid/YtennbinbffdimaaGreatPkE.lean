/- Texts that the proof needs, joined: TableW, TableN, TableX, BitA, BitB, WireP, WireQ, WireR, PoolB, PoolC, PoolD, PoolE, PoolF, PoolM, PoolN, WireA, WireS, WireT, WireU, WireV, WaitA, PeersA, ShelfP, PeersB, PeersC, PeersD, ClockA, PartW, GenW, GenX, GateW, GateN, GateO, SizeW, SizeA, GateR, GateK, BoardG. -/
import Derived.Shelf.SlIterI.Nil
import Derived.Shelf.SortM.Plain
import Derived.Shelf.SortM.SortNone
import Derived.Ground.GgzProg
import Derived.Ground.SlgmProg
import Derived.Test.YtennbinbffdimaaGreatProg
import Derived.Test.YtennbinbffdimaaGreatPkD

section
/- The program's table of votes, in memory. -/
namespace Go.Proofs.YtennbinbffdimaaGreat.Gate
open Go Go.Vc

open Board (Vt)

def zeroVt : Vt := ⟨0, 0, Bs.zero 32⟩

abbrev kM (k : Int × Int) : TV := .agg [.int .i64 k.1, .int .i64 k.2]

/-- A pointer to a vote. -/
def VAt (h : Heap) : Option Nat → Option Vt → Prop
  | none, none => True
  | some q, some v => Var T.api_Vote h q v.tv
  | _, _ => False

inductive VAts (h : Heap) : List (Option Nat) → List (Option Vt) → Prop
  | nil : VAts h [] []
  | cons {p v ps vs} : VAt h p v → VAts h ps vs → VAts h (p :: ps) (v :: vs)

theorem VAts.len {h : Heap} {ps : List (Option Nat)} {vs : List (Option Vt)} (a : VAts h ps vs) : ps.length = vs.length := by
  induction a with
  | nil => rfl
  | cons _ _ ih => simp [ih]

theorem VAts.get {h : Heap} {ps : List (Option Nat)} {vs : List (Option Vt)} (a : VAts h ps vs) : ∀ {i : Nat} {v : Option Vt}, vs[i]? = some v → ∃ p, ps[i]? = some p ∧ VAt h p v := by
  induction a with
  | nil => intro i v hv; simp at hv
  | cons h1 _ ih =>
    intro i v hv
    cases i with
    | zero => cases hv; exact ⟨_, rfl, h1⟩
    | succ i => obtain ⟨p, e, hp⟩ := ih (by simpa using hv); exact ⟨p, by simpa using e, hp⟩

theorem VAts.set {h : Heap} {ps : List (Option Nat)} {vs : List (Option Vt)} (a : VAts h ps vs) {p : Option Nat} {v : Option Vt} (hv : VAt h p v) : ∀ i : Nat, VAts h (ps.set i p) (vs.set i v) := by
  induction a with
  | nil => intro i; exact .nil
  | cons h1 a ih =>
    intro i
    cases i with
    | zero => exact .cons hv a
    | succ i => exact .cons h1 (ih i)

theorem VAt.only {S : Nat → Prop} {h h' : Heap} (f : Only S h h') {p : Option Nat} {v : Option Vt} (hs : ∀ q, p = some q → ¬ S q) (a : VAt h p v) : VAt h' p v := by
  cases p with
  | none => cases v with
    | none => trivial
    | some v => exact a
  | some q => cases v with
    | none => exact a
    | some v => exact Var.only a f (hs q rfl)

theorem VAts.only {S : Nat → Prop} {h h' : Heap} (f : Only S h h') {ps : List (Option Nat)} {vs : List (Option Vt)} (a : VAts h ps vs) : (∀ q, some q ∈ ps → ¬ S q) → VAts h' ps vs := by
  induction a with
  | nil => intro _; exact .nil
  | cons h1 a ih => intro hs; exact .cons (h1.only f fun q hq => hs q (by simp [hq])) (ih fun q hq => hs q (List.mem_cons_of_mem _ hq))

theorem VAts.lt {h : Heap} {ps : List (Option Nat)} {vs : List (Option Vt)} (a : VAts h ps vs) : ∀ q, some q ∈ ps → q < h.size := by
  induction a with
  | nil => intro q hq; cases hq
  | @cons p v ps vs h1 a ih =>
    intro q hq
    rcases List.mem_cons.1 hq with hq | hq
    · subst hq
      cases v with
      | none => exact absurd h1 (by simp [VAt])
      | some v => exact Var.lt h1
    · exact ih q hq

abbrev ptrs (ps : List (Option Nat)) : List TV := ps.map fun p => TV.ptr (p.map fun q => ⟨q, 0⟩)
abbrev bls (l : List Bool) : List TV := l.map TV.bool

section
variable {R : Value → Heap → Prop} {h h' : Heap} {b r n : Nat} {La Ou : Sl} {ps : List (Option Nat)} {t : Tb}

/-- A table in memory. -/
structure TbP (h : Heap) (b r : Nat) (La Ou : Sl) (ps : List (Option Nat)) (t : Tb) (n : Nat) : Prop where
  var : Var T.table_Table h b (.agg [.int .i64 t.slots, .slice La, .slice Ou, .map (some r)])
  la : Own T.p_api_Vote 1 h La (ptrs ps)
  vs : VAts h ps t.latest
  ou : Own 4 1 h Ou (bls t.out)
  map : MapG kM kR h r t.first
  ok : TbOk t n
  nla : ¬ In La b ∧ ¬ In La r
  nou : ¬ In Ou b ∧ ¬ In Ou r
  lo : ∀ i, In La i → ¬ In Ou i
  nv : ∀ q, some q ∈ ps → q ≠ b ∧ q ≠ r ∧ ¬ In La q ∧ ¬ In Ou q

def TbMine (b r : Nat) (La Ou : Sl) (ps : List (Option Nat)) (i : Nat) : Prop := i = b ∨ i = r ∨ In La i ∨ In Ou i ∨ some i ∈ ps

theorem TbP.only {S : Nat → Prop} (p : TbP h b r La Ou ps t n) (f : Only S h h') (hs : ∀ i, TbMine b r La Ou ps i → ¬ S i) : TbP h' b r La Ou ps t n :=
  ⟨p.var.only f (hs b (.inl rfl)), p.la.keep f fun i hi => hs i (.inr (.inr (.inl hi))), p.vs.only f fun q hq => hs q (.inr (.inr (.inr (.inr hq)))), p.ou.keep f fun i hi => hs i (.inr (.inr (.inr (.inl hi)))),
    p.map.only f (hs r (.inr (.inl rfl))), p.ok, p.nla, p.nou, p.lo, p.nv⟩
theorem TbP.ext (p : TbP h b r La Ou ps t n) (x : Ext h h') : TbP h' b r La Ou ps t n := p.only (S := fun _ => False) (.of_ext x) fun _ _ hf => hf
theorem TbP.lt (p : TbP h b r La Ou ps t n) {i : Nat} (hi : TbMine b r La Ou ps i) : i < h.size := by
  rcases hi with rfl | rfl | hi | hi | hi
  · exact p.var.lt
  · exact p.map.lt
  · exact p.la.In_lt i hi
  · exact p.ou.In_lt i hi
  · exact p.vs.lt i hi
theorem TbP.ll (p : TbP h b r La Ou ps t n) : La.len = n := by have := p.la.len; rw [List.length_map, p.vs.len, p.ok.llen] at this; exact this.symm

def isT (n : Nat) (who : Int) : Bool := decide (0 ≤ who ∧ who < n)

theorem Is_spec (p : TbP h b r La Ou ps t n) {who : Int} (hr : R (TV.bool (isT n who)).val h) : CallsH Tryz.prog F.table_Table_is (TVs.vals [.ptr (some ⟨b, 0⟩), .int .i64 who]) h R := by
  apply table_Table_is_calls
  have l := p.ll
  refine If.yes (If.dec.2 ⟨fun h0 => ⟨La, p.var.at1 rfl, ?_⟩, fun h0 => ?_⟩)
  · rw [show isT n who = decide (who < (La.len : Int)) from decide_eq_decide.2 ⟨fun h => by omega, fun h => by omega⟩] at hr
    exact hr
  · rw [show isT n who = false from decide_eq_false fun h => h0 h.1] at hr
    exact hr

/-- What is told of a validator's latest vote. -/
def voteR (t : Tb) (who : Int) : Vt × Bool := match latestOf t who with
  | some v => (v, true)
  | none => (zeroVt, false)

theorem vt_at {T : TypeId} {b : Nat} {x : Vt} (v : Var T h b x.tv) {K : Int → Int → Bs 32 → Prop} (hk : K x.who x.slot x.target) :
    ∃ (n m : Int), ∃ (k : Bs 32), (at1 h b 0 (.int .i64 n) ∧ at1 h b 1 (.int .i64 m) ∧ atBytes h b 2 32 k) ∧ K n m k := ⟨_, _, _, v.at, hk⟩

theorem ptr_at {A : Sl} (o : Own T.p_api_Vote 1 h A (ptrs ps)) {i : Int} (h0 : 0 ≤ i) {p : Option Nat} (hv : ps[i.toNat]? = some p) {K : Option Vc.Loc → Prop} (hk : K (p.map fun q => ⟨q, 0⟩)) :
    0 ≤ i ∧ i < (A.len : Int) ∧ Nn A.a fun l => ∃ q : Option Vc.Loc, at1 h l.b (l.o + i.toNat * 1) (Value.pointer (Option.map Loc.addr q)) ∧ K q := by
  have hl := o.len
  have := (List.getElem?_eq_some_iff.1 hv).1
  rw [List.length_map] at hl
  refine o.elems.read h0 (by omega) fun l t _ ht hat => ?_
  rw [List.getElem?_map, hv] at ht
  cases ht
  exact ⟨_, hat, hk⟩

theorem nil_vote {g : Heap} {q : Nat} (x : Ext h g) (v : Var T.api_Vote g q zeroVt.tv) (hq : h.size ≤ q) (hr : ∀ h', Ext h h' → R (TV.tup [zeroVt.tv, .bool false]).val h') :
    wok g q 0 34 ∧ Bind (TV.put g q 0 zeroVt.tv) fun h_2 => ∃ (n m : Int), ∃ (k : Bs 32), (at1 h_2 q 0 (.int .i64 n) ∧ at1 h_2 q 1 (.int .i64 m) ∧ atBytes h_2 q 2 32 k) ∧ R (TV.val (.tup [.agg [.int .i64 n, .int .i64 m, .bytes 32 k], .bool false])) h_2 :=
  put_in v (t := zeroVt.tv) rfl fun h2 v2 f2 _ => vt_at v2 (hr h2 (Only.cut x f2 fun i hi => by omega))

theorem latest_at {i : Int} (o : TbOk t n) (h0 : 0 ≤ i) (h1 : i < n) : ∃ v, t.latest[i.toNat]? = some v ∧ latestOf t i = v := by
  have hl := o.llen
  have : t.latest[i.toNat]? = some (t.latest[i.toNat]'(by omega)) := List.getElem?_eq_getElem (by omega)
  refine ⟨_, this, ?_⟩
  unfold latestOf
  rw [if_pos h0, List.getD_eq_getElem?_getD, this]
  rfl

theorem latest_out {i : Int} (o : TbOk t n) (h : ¬ (0 ≤ i ∧ i < n)) : latestOf t i = none := by
  have hl := o.llen
  unfold latestOf
  split
  · rw [List.getD_eq_getElem?_getD, List.getElem?_eq_none (by omega)]
    rfl
  · rfl

theorem Vote_spec (p : TbP h b r La Ou ps t n) {who : Int} (hr : ∀ h', Ext h h' → R (TV.tup [(voteR t who).1.tv, .bool (voteR t who).2]).val h') : CallsH Tryz.prog F.table_Table_Vote (TVs.vals [.ptr (some ⟨b, 0⟩), .int .i64 who]) h R := by
  apply table_Table_Vote_calls
  unfold table_Table_Vote_vc
  refine newTV_in fun h1 v1 x1 s1 => Is_spec (p.ext x1) ⟨_, rfl, If.split (fun hn => ?_) fun hy => ?_⟩
  · have hn : ¬ (0 ≤ who ∧ who < n) := of_decide_eq_false (show isT n who = false by simpa using hn)
    unfold voteR at hr
    rw [latest_out p.ok hn] at hr
    exact nil_vote x1 v1 (Nat.le_refl _) hr
  · have hy : 0 ≤ who ∧ who < n := of_decide_eq_true (show isT n who = true by simpa using hy)
    obtain ⟨v, hv, hl⟩ := latest_at p.ok hy.1 hy.2
    obtain ⟨q, hq, hat⟩ := (p.ext x1).vs.get hv
    unfold voteR at hr
    rw [hl] at hr
    refine ⟨La, (p.var.ext x1).at1 rfl, ptr_at (p.ext x1).la hy.1 hq ?_⟩
    cases q with
    | none =>
      cases v with
      | some v => exact absurd hat (by simp [VAt])
      | none => exact If.yes (nil_vote x1 v1 (Nat.le_refl _) hr)
    | some q =>
      cases v with
      | none => exact absurd hat (by simp [VAt])
      | some v =>
        have hat : Var T.api_Vote h1 q v.tv := hat
        refine If.no ⟨La, (p.var.ext x1).at1 rfl, ptr_at (p.ext x1).la hy.1 hq (vt_at hat (put_in v1 (t := v.tv) rfl fun h2 v2 f2 _ => vt_at v2 ?_))⟩
        exact hr h2 (Only.cut x1 f2 fun i hi => by omega)

theorem Marks_spec (p : TbP h b r La Ou ps t n) (hr : R (TV.int .i64 (t.first.length : Int)).val h) : CallsH Tryz.prog F.table_Table_Marks (TVs.vals [.ptr (some ⟨b, 0⟩)]) h R := by
  apply table_Table_Marks_calls
  exact If.no ⟨some r, p.var.at1 rfl, p.map.len (P := fun m => R (TV.int .i64 (m : Int)).val h) hr⟩

end
end Go.Proofs.YtennbinbffdimaaGreat.Gate
end

section
/- The program's table: a new one. -/
namespace Go.Proofs.YtennbinbffdimaaGreat.Gate
open Go Go.Vc

open Board (Vt)

theorem zeros_rep (z : TV) : ∀ n, zeros z n = TVs.cells (List.replicate n z)
  | 0 => rfl
  | n + 1 => by rw [List.replicate_succ]; simp only [zeros, TVs.cells, zeros_rep z n]

theorem vats_new (h : Heap) : ∀ n, VAts h (List.replicate n none) (List.replicate n none)
  | 0 => .nil
  | n + 1 => .cons trivial (vats_new h n)

section
variable {R : Value → Heap → Prop} {h h' : Heap}

def TableCan (v slots : Int) : Prop := 1 ≤ v ∧ v ≤ 64 ∧ 1 ≤ slots ∧ slots ≤ 32

theorem TNew_spec {v slots : Int} (hr0 : ¬ TableCan v slots → R (TV.ptr none).val h)
    (hr : TableCan v slots → ∀ h' b r La Ou ps, TbP h' b r La Ou ps (newTb v.toNat slots) v.toNat → Ext h h' → (∀ i, TbMine b r La Ou ps i → h.size ≤ i) → R (TV.ptr (some ⟨b, 0⟩)).val h') :
    CallsH Tryz.prog F.table_New (TVs.vals [.int .i64 v, .int .i64 slots]) h R := by
  apply table_New_calls
  unfold table_New_vc
  refine If.dec.2 ⟨fun hh => hr0 (fun hc => by have := hc.1; omega), fun g1 => If.dec.2 ⟨fun hh => hr0 (fun hc => by have := hc.2.1; omega), fun g2 => If.dec.2 ⟨fun hh => hr0 (fun hc => by have := hc.2.2.1; omega), fun g3 => If.dec.2 ⟨fun hh => hr0 (fun hc => by have := hc.2.2.2; omega), fun g4 => ?_⟩⟩⟩⟩
  have can : TableCan v slots := ⟨by omega, by omega, by omega, by omega⟩
  have fin : ∀ (g : Heap) (ql qo qm : Nat), Ext h g → g[ql]? = some (row (zeros (TV.ptr none) v.toNat) T.p_api_Vote) → g[qo]? = some (row (zeros (TV.bool false) v.toNat) 4) → g[qm]? = some (mapO [] 0) → h.size ≤ ql ∧ h.size ≤ qo ∧ h.size ≤ qm ∧ ql ≠ qo ∧ ql ≠ qm ∧ qo ≠ qm →
      Bind (newTV g (.agg [.int .i64 slots, .slice (Sl.mk (some (Loc.mk ql 0)) v.toNat v.toNat), .slice (Sl.mk (some (Loc.mk qo 0)) v.toNat v.toNat), .map (some qm)]) T.table_Table) fun h_1 => R (TV.val (.ptr (some (Loc.mk g.size 0)))) h_1 := by
    rintro g ql qo qm xg e1 e2 e3 ⟨n1, n2, n3, n4, n5, n6⟩
    have l1 := row_lt e1
    have l2 := row_lt e2
    have l3 := (Array.getElem?_eq_some_iff.1 e3).1
    refine newTV_in fun h4 v4 x4 s4 => ?_
    have la : Own T.p_api_Vote 1 g (Sl.mk (some (Loc.mk ql 0)) v.toNat v.toNat) (ptrs (List.replicate v.toNat none)) :=
      ⟨fun t ht => by obtain ⟨x, _, rfl⟩ := List.mem_map.1 ht; rfl, by simp, Nat.le_refl _, .inr ⟨ql, [], rfl, by rw [e1, zeros_rep]; simp [ptrs], by simp⟩⟩
    have lo : Own 4 1 g (Sl.mk (some (Loc.mk qo 0)) v.toNat v.toNat) (bls (List.replicate v.toNat false)) :=
      ⟨fun t ht => by obtain ⟨x, _, rfl⟩ := List.mem_map.1 ht; rfl, by simp, Nat.le_refl _, .inr ⟨qo, [], rfl, by rw [e2, zeros_rep]; simp [bls], by simp⟩⟩
    have mg : MapG kM kR g qm [] := ⟨[], 0, by rw [e3]; simp [encG], rfl, (fun e he => by cases he), List.nodup_nil⟩
    have inl : ∀ i, In (Sl.mk (some (Loc.mk ql 0)) v.toNat v.toNat) i → i = ql := fun i ⟨l, hl, hi⟩ => by cases hl; exact hi.symm
    have ino : ∀ i, In (Sl.mk (some (Loc.mk qo 0)) v.toNat v.toNat) i → i = qo := fun i ⟨l, hl, hi⟩ => by cases hl; exact hi.symm
    have nop : ∀ q, some q ∉ List.replicate v.toNat (none : Option Nat) := fun q hq => by simp [List.mem_replicate] at hq
    refine hr can h4 g.size qm _ _ (List.replicate v.toNat none) ⟨v4, la.ext x4, vats_new _ _, lo.ext x4, mg.ext x4, newTb_ok ⟨by omega, by omega⟩ ⟨by omega, by omega⟩, ⟨fun hi => ?_, fun hi => ?_⟩, ⟨fun hi => ?_, fun hi => ?_⟩, fun i hi hj => ?_, fun q hq => absurd hq (nop q)⟩ (xg.trans x4) ?_
    · have := inl _ hi; omega
    · exact n5 (inl _ hi).symm
    · have := ino _ hi; omega
    · exact n6 (ino _ hi).symm
    · exact n4 ((inl i hi).symm.trans (ino i hj))
    · rintro i (rfl | rfl | hi | hi | hi)
      · exact xg.size
      · exact n3
      · rw [inl i hi]; exact n1
      · rw [ino i hi]; exact n2
      · exact absurd hi (nop i)
  have ext3 : ∀ x y z : Obj, Ext h (((h.push x).push y).push z) := fun x y z => ((Ext.push h x).trans (Ext.push _ y)).trans (Ext.push _ z)
  have g2 : ∀ x y z : Obj, (((h.push x).push y).push z)[((h.push x).push y).size]? = some z := fun x y z => push_get _ _
  have g1 : ∀ x y z : Obj, (((h.push x).push y).push z)[(h.push x).size]? = some y := fun x y z => ((Ext.push ((h.push x).push y) z).same _ (by simp)).trans (push_get _ _)
  have g0 : ∀ x y z : Obj, (((h.push x).push y).push z)[h.size]? = some x := fun x y z => ((Ext.push ((h.push x).push y) z).same _ (by simp; omega)).trans (((Ext.push (h.push x) y).same _ (by simp)).trans (push_get _ _))
  repeat' apply And.intro
  all_goals first
    | omega
    | (refine fin _ _ _ _ (ext3 _ _ _) ?_ ?_ ?_ ?_ <;> first | exact g0 _ _ _ | exact g1 _ _ _ | exact g2 _ _ _ | (simp only [Array.size_push]; omega))

end
end Go.Proofs.YtennbinbffdimaaGreat.Gate
end

section
/- The program's table: a vote is taken. -/
namespace Go.Proofs.YtennbinbffdimaaGreat.Gate
open Go Go.Vc

open Board (Vt)

section
variable {R : Value → Heap → Prop} {h h' : Heap} {b r n : Nat} {La Ou : Sl} {ps : List (Option Nat)} {t : Tb}

end
end Go.Proofs.YtennbinbffdimaaGreat.Gate
end

section
/- Tags: a key as 64 bytes, the tag of texts by a key, tags joined. -/
namespace Go.Proofs.YtennbinbffdimaaGreat.Board
open Go Go.Vc

def getB {n : Nat} (b : Bs n) (i : Nat) : UInt8 := b.l.getD i 0

/-- A row of bytes that is filled from the beginning on. -/
def fillB {n : Nat} (f : Nat → UInt8) (b : Bs n) : Nat → Bs n
  | 0 => b
  | i + 1 => (fillB f b i).set i (f i)

theorem fillB_get {n : Nat} (f : Nat → UInt8) (b : Bs n) : ∀ (k j : Nat), k ≤ n → getB (fillB f b k) j = if j < k then f j else getB b j
  | 0, j, _ => by simp [fillB]
  | k + 1, j, hk => by
    have ih := fillB_get f b k j (by omega)
    unfold getB at ih ⊢
    simp only [fillB, Bs.set, List.getD_eq_getElem?_getD, List.getElem?_set] at ih ⊢
    by_cases hj : k = j
    · subst hj
      rw [if_pos rfl, if_pos (by rw [(fillB f b k).h]; omega), if_pos (Nat.lt_succ_self k)]
      rfl
    · rw [if_neg hj, ih]
      by_cases h1 : j < k
      · rw [if_pos h1, if_pos (by omega)]
      · rw [if_neg h1, if_neg (by omega)]

theorem fillB_l {n : Nat} (f : Nat → UInt8) (b : Bs n) : (fillB f b n).l = (List.range n).map f := by
  apply List.ext_getElem (by rw [(fillB f b n).h]; simp)
  intro j h1 h2
  have hj : j < n := by rw [← (fillB f b n).h]; exact h1
  have := fillB_get f b n j (Nat.le_refl n)
  rw [if_pos hj] at this
  unfold getB at this
  rw [List.getD_eq_getElem?_getD, List.getElem?_eq_getElem h1] at this
  simpa using this

theorem byte_at {T : TypeId} {h : Heap} {b n : Nat} {x : Bs n} (v : Var T h b (.bytes n x)) {i : Nat} (hi : i < n) : at1 h b (0 + i * 1) (.int .u8 ((getB x i).toNat : Int)) := by
  refine v.at1 ?_
  simp only [TV.cells, Nat.mul_one, Nat.zero_add]
  exact getElem?_toBytes x i hi

theorem bind_in {x : Heap} {K : Heap → Prop} (h : K x) : Bind x K := h

section
variable {R : Value → Heap → Prop} {h : Heap}

/-! ### The tag of texts by a key -/

theorem strs_elems {T : TypeId} (h : Heap) (ts : List (List UInt8)) : Elems 1 (h.push (row (TVs.cells (ts.map TV.str)) T)) ⟨some ⟨h.size, 0⟩, ts.length, ts.length⟩ (ts.map TV.str) := by
  have := (Own.new (T := T) (sz := 1) h (ts.map TV.str) (fun t ht => by
    obtain ⟨u, _, rfl⟩ := List.mem_map.1 ht
    rfl)).elems
  simpa using this

theorem bytes9 : (ctx.ti 9).bytes = 16 := by kernel_rfl
theorem size9 : (ctx.ti 9).size = 1 := by kernel_rfl
theorem zsize9 : (ctx.ti 9).z.size = 1 := by kernel_rfl

/-! ### Tags joined -/

end
end Go.Proofs.YtennbinbffdimaaGreat.Board
end

section
/- Messages as bytes: rows of bits, whether a message can be, its bytes, what one speaker's tag is of. -/
namespace Go.Proofs.YtennbinbffdimaaGreat.Board
open Go Go.Vc
section
variable {R : Value → Heap → Prop} {h : Heap}

/-- A bit more in a byte. -/
def orv (c i : Int) : Int := IntKind.wrap .u8 ((BitVec.ofInt (IntKind.bits .u8) c ||| BitVec.ofInt (IntKind.bits .u8) (IntKind.wrap .u8 (1 * 2 ^ min (Int.toNat (Int.tmod i 8)) (IntKind.bits .u8)))).toNat : Int)
def bitS (acc : List UInt8) (i : Nat) : List UInt8 := acc.set (i / 8) (UInt8.ofNat (orv (by8 acc (i / 8)) (i : Int)).toNat)
def bitG (row : List Bool) : Nat → List UInt8
  | 0 => List.replicate (row.length / 8 + 1) 0
  | i + 1 => if row.getD i false = true then bitS (bitG row i) i else bitG row i
/-- A row of bits as bytes. -/
def bitF (row : List Bool) : List UInt8 := bitS (bitG row row.length) row.length

theorem bitG_length (row : List Bool) : ∀ i, (bitG row i).length = row.length / 8 + 1
  | 0 => by simp [bitG]
  | i + 1 => by
    unfold bitG
    split
    · simp [bitS, bitG_length row i]
    · exact bitG_length row i

theorem by8_right (bs g : List UInt8) (k : Nat) : by8 (bs ++ g) (bs.length + k) = by8 g k := by
  unfold by8
  rw [List.getD_eq_getElem?_getD, List.getD_eq_getElem?_getD, List.getElem?_append_right (by omega)]
  congr 4
  omega

/-- A byte of a row is written. -/
theorem Row.set {Q : Nat → Prop} {s : Sl} {bs : List UInt8} (r : Row Q h s bs) {i c : Int} (i0 : 0 ≤ i) (i1 : i < bs.length) (c0 : 0 ≤ c) (c1 : c < 256) {K : Heap → Prop}
    (hk : ∀ h', Row Q h' s (bs.set i.toNat (UInt8.ofNat c.toNat)) → Only Q h h' → K h') : 0 ≤ i ∧ i < (s.len : Int) ∧ Nn s.a fun l => wok h l.b (l.o + i.toNat * 1) 1 ∧ Bind ((TV.int .u8 c).put h l.b (l.o + i.toNat * 1)) K := by
  refine r.own.put_in (t := .int .u8 c) i0 (by rw [List.length_map]; exact i1) rfl rfl fun h1 o1 f1 s1 => hk h1 ⟨?_, r.far, fun j hj => r.new j (by omega)⟩ (r.cut f1)
  have e : byTV (UInt8.ofNat c.toNat) = TV.int .u8 c := by
    unfold byTV
    rw [UInt8.toNat_ofNat']
    congr 1
    omega
  have : bys (bs.set i.toNat (UInt8.ofNat c.toNat)) = (bys bs).set i.toNat (TV.int .u8 c) := by simp [bys, List.map_set, e]
  rw [this]
  exact o1

theorem bput_spec {Q : Nat → Prop} {s list : Sl} {bs : List UInt8} {row : List Bool} (r : Row Q h s bs) (hl : bs.length < 1000) (hn : row.length < 1000) (hlen : row.length = list.len) (e : ∀ h', Only Q h h' → Elems 1 h' list (bools row))
    (hr : ∀ h' s', Row Q h' s' (bs ++ bitF row) → Only Q h h' → R (TV.slice s').val h') : CallsH Tryz.prog 296 (TVs.vals [.slice s, .slice list]) h R := by
  apply bitlist_Put_calls
  unfold bitlist_Put_vc
  have rl := r.len
  have hq : Int.tdiv (list.len : Int) 8 = ((row.length / 8 : Nat) : Int) := by
    rw [Int.tdiv_eq_ediv_of_nonneg (by omega), ← hlen]
    rfl
  rw [hq, wrap_i64 (n := ((row.length / 8 : Nat) : Int)) (by omega) (by omega), wrap_i64 (n := ((row.length / 8 : Nat) : Int) + 1) (by omega) (by omega)]
  have hk1 : Int.toNat (((row.length / 8 : Nat) : Int) + 1) = row.length / 8 + 1 := by omega
  refine ⟨by decide, by omega, by omega, ?_⟩
  rw [hk1]
  have hrep : List.replicate (row.length / 8 + 1) (Value.int .u8 0) = (bitG row 0).map fun c => Value.int .u8 (c.toNat : Int) := by simp [bitG]
  rw [hrep, ← bitG_length row 0]
  refine app_bytes r (by rw [bitG_length]; omega) fun s1 h1 r1 f1 b1 => ?_
  have f1 := r.cut f1
  refine ⟨fun i hh => 0 ≤ i ∧ i ≤ row.length ∧ Row Q hh s1 (bs ++ bitG row i.toNat) ∧ Only Q h hh, fun i _ => ((row.length : Int) - i).toNat, ⟨Int.le_refl 0, by omega, r1, f1⟩, ?_⟩
  rintro i h2 ⟨i0, i1, r2, f2⟩
  have l2 := r2.len
  rw [List.length_append, bitG_length] at l2
  rw [wrap_i64 (n := i + 1) (by omega) (by omega)]
  refine If.dec.2 ⟨fun hi => ?_, fun hi => ?_⟩
  · refine read_bool (e h2 f2) i0 (by omega) fun x hx => ?_
    have hgd : row.getD i.toNat false = x := by rw [List.getD_eq_getElem?_getD, hx]; rfl
    have hi1 : (i + 1).toNat = i.toNat + 1 := by omega
    cases x with
    | false =>
      refine If.no ⟨⟨by omega, by omega, ?_, f2⟩, by first | omega | (dsimp only; omega)⟩
      rw [hi1]
      unfold bitG
      rw [hgd, if_neg (by decide)]
      exact r2
    | true =>
      have hqi : Int.tdiv i 8 = ((i.toNat / 8 : Nat) : Int) := by
        rw [Int.tdiv_eq_ediv_of_nonneg i0]
        omega
      have hmi : 0 ≤ Int.tmod i 8 := by rw [Int.tmod_eq_emod_of_nonneg i0]; omega
      rw [hqi, wrap_i64 (n := ((i.toNat / 8 : Nat) : Int)) (by omega) (by omega), wrap_i64 (n := (s.len : Int) + ((i.toNat / 8 : Nat) : Int)) (by omega) (by omega)]
      have hb : i.toNat / 8 < row.length / 8 + 1 := by omega
      have hat : Int.toNat ((s.len : Int) + ((i.toNat / 8 : Nat) : Int)) = bs.length + i.toNat / 8 := by omega
      refine If.yes ⟨by decide, byte_in (bs := bs ++ bitG row i.toNat) r2.own.elems (by omega) (by rw [List.length_append, bitG_length]; omega) ⟨by decide, hmi, ?_⟩⟩
      have hw : 0 ≤ orv (by8 (bs ++ bitG row i.toNat) (Int.toNat ((s.len : Int) + ((i.toNat / 8 : Nat) : Int)))) i ∧ orv (by8 (bs ++ bitG row i.toNat) (Int.toNat ((s.len : Int) + ((i.toNat / 8 : Nat) : Int)))) i < 256 := wrap_u8_range _
      refine r2.set (i := (s.len : Int) + ((i.toNat / 8 : Nat) : Int)) (c := orv (by8 (bs ++ bitG row i.toNat) (Int.toNat ((s.len : Int) + ((i.toNat / 8 : Nat) : Int)))) i) (by omega) (by rw [List.length_append, bitG_length]; omega) hw.1 hw.2 fun h3 r3 f3 => ?_
      refine ⟨⟨by omega, by omega, ?_, f2.trans f3⟩, by first | omega | (dsimp only; omega)⟩
      rw [hat, by8_right, List.set_append_right _ _ (by omega), show bs.length + i.toNat / 8 - bs.length = i.toNat / 8 by omega] at r3
      rw [hi1]
      unfold bitG
      rw [hgd, if_pos rfl, bitS, show ((i.toNat : Nat) : Int) = i by omega]
      exact r3
  · have hin : i.toNat = row.length := by omega
    rw [hin] at r2
    have hmi : 0 ≤ Int.tmod (list.len : Int) 8 := by rw [Int.tmod_eq_emod_of_nonneg (by omega)]; omega
    rw [wrap_i64 (n := (s1.len : Int) - 1) (by omega) (by omega)]
    have hat : Int.toNat ((s1.len : Int) - 1) = bs.length + row.length / 8 := by omega
    refine byte_in (bs := bs ++ bitG row row.length) r2.own.elems (by omega) (by rw [List.length_append, bitG_length]; omega) ⟨by decide, hmi, ?_⟩
    have hw : 0 ≤ orv (by8 (bs ++ bitG row row.length) (Int.toNat ((s1.len : Int) - 1))) (list.len : Int) ∧ orv (by8 (bs ++ bitG row row.length) (Int.toNat ((s1.len : Int) - 1))) (list.len : Int) < 256 := wrap_u8_range _
    refine r2.set (i := (s1.len : Int) - 1) (c := orv (by8 (bs ++ bitG row row.length) (Int.toNat ((s1.len : Int) - 1))) (list.len : Int)) (by omega) (by rw [List.length_append, bitG_length]; omega) hw.1 hw.2 fun h3 r3 f3 => ?_
    refine hr h3 s1 ?_ (f2.trans f3)
    rw [hat, by8_right, List.set_append_right _ _ (by omega), show bs.length + row.length / 8 - bs.length = row.length / 8 by omega, ← hlen] at r3
    exact r3

/-! ### Messages -/

structure Ms where
  kind : Int
  slot : Int
  target : Bs 32
  member : Int
  body : Int
  bits : Sl
  tag : Bs 16
def Ms.tv (m : Ms) : TV := .agg [.int .i64 m.kind, .int .i64 m.slot, .bytes 32 m.target, .int .i64 m.member, .int .u64 m.body, .slice m.bits, .bytes 16 m.tag]

def zeroM : Ms := ⟨0, 0, Bs.zero 32, 0, 0, Sl.nil, Bs.zero 16⟩

/-- A message is read. -/
theorem ms_at {m : Ms} {b : Nat} (v : Var 58 h b m.tv) {K : Int → Int → Bs 32 → Int → Int → Sl → Bs 16 → Prop} (hk : K m.kind m.slot m.target m.member m.body m.bits m.tag) :
    ∃ (n : Int), ∃ (n_1 : Int), ∃ (b_ : Bs 32), ∃ (n_2 : Int), ∃ (n_3 : Int), ∃ (s : Sl), ∃ (b_1 : Bs 16), (at1 h b 0 (.int .i64 n) ∧ at1 h b 1 (.int .i64 n_1) ∧ atBytes h b 2 32 b_ ∧ at1 h b 34 (.int .i64 n_2) ∧ at1 h b 35 (.int .u64 n_3) ∧ at1 h b 36 (slVal s) ∧ atBytes h b 37 16 b_1) ∧ K n n_1 b_ n_2 n_3 s b_1 :=
  ⟨m.kind, m.slot, m.target, m.member, m.body, m.bits, m.tag, v.at, hk⟩

theorem mssz {c d : Ms} : c.tv.size = d.tv.size := by simp only [Ms.tv, TV.size, TVs.size]
theorem mssz1 {c : Ms} : 53 = c.tv.size := by simp only [Ms.tv, TV.size, TVs.size]

/-- Can a message be? -/
def goodF (m : Ms) (row : List Bool) : Bool :=
  !(decide (m.slot < 0) || decide (1073741824 < m.slot) || decide (m.member < 0) || decide (65535 < m.member) || (!decide (m.kind = 1) && !decide (m.body = 0))) &&
    if m.kind = 3 then decide (m.member = 0) && (decide (row.length ≤ 16) && row.contains true) else (decide (m.kind = 1) || decide (m.kind = 2)) && decide (row.length = 0)

def bidx : List Bool → Int → Int
  | [], _ => -1
  | b :: bs, i => if b = true then i else bidx bs (i + 1)

theorem bidx_nonneg : ∀ (l : List Bool) (i : Int), 0 ≤ i → (decide (0 ≤ bidx l i) = l.contains true)
  | [], i, _ => by simp [bidx]
  | b :: bs, i, hi => by
    unfold bidx
    cases b with
    | true => rw [if_pos rfl]; simp [hi]
    | false => rw [if_neg (by decide), bidx_nonneg bs (i + 1) (by omega)]; simp

theorem bindex_spec {s : Sl} {l : List Bool} (e : Elems 1 h s (bools l)) (hl : l.length < 100000) (hr : R (TV.int .i64 (bidx l 0)).val h) : CallsH Tryz.prog 200 (TVs.vals [.slice s, .bool true]) h R := by
  apply slices_Index___bool_bool__calls
  unfold slices_Index___bool_bool__vc
  have el : l.length = s.len := by have := e.len; rwa [List.length_map] at this
  refine ⟨fun σ hh => 0 ≤ σ.2 ∧ σ.2 ≤ s.len ∧ hh = h ∧ bidx l 0 = bidx (l.drop σ.2.toNat) σ.2, fun σ _ => ((s.len : Int) - σ.2).toNat, ⟨Int.le_refl 0, by first | omega | (dsimp only; omega), rfl, rfl⟩, ?_⟩
  rintro ⟨f, i⟩ hh ⟨i0, i1, rfl, ht⟩
  dsimp only at i0 i1 ht ⊢
  refine If.dec.2 ⟨fun hi => ?_, fun hi => ?_⟩
  · refine read_bool e i0 (by omega) fun x hx => ?_
    rw [drop_get hx, bidx] at ht
    cases x with
    | true =>
      rw [if_pos rfl] at ht
      rw [ht] at hr
      exact If.yes hr
    | false =>
      rw [if_neg (by decide)] at ht
      rw [wrap_i64 (n := i + 1) (by omega) (by omega)]
      have hi1 : (i + 1).toNat = i.toNat + 1 := by omega
      refine If.no ⟨⟨by first | omega | (dsimp only; omega), by first | omega | (dsimp only; omega), rfl, ?_⟩, by first | omega | (dsimp only; omega)⟩
      try dsimp only
      rw [hi1]
      exact ht
  · have hi2 : l.drop i.toNat = [] := List.drop_eq_nil_of_le (by omega)
    rw [hi2, bidx] at ht
    rw [ht] at hr
    exact hr

theorem contains_spec {s : Sl} {l : List Bool} (e : Elems 1 h s (bools l)) (hl : l.length < 100000) (hr : R (TV.bool (l.contains true)).val h) : CallsH Tryz.prog 140 (TVs.vals [.slice s, .bool true]) h R := by
  apply slices_Contains___bool_bool__calls
  unfold slices_Contains___bool_bool__vc
  refine bindex_spec e hl ⟨_, rfl, ?_⟩
  rw [bidx_nonneg l 0 (Int.le_refl 0)]
  exact hr

theorem mgood_spec {m : Ms} {row : List Bool} (e : Elems 1 h m.bits (bools row)) (hl : row.length < 100000) (hr : ∀ h', Ext h h' → R (TV.bool (goodF m row)).val h') : CallsH Tryz.prog 232 (TVs.vals [m.tv]) h R := by
  apply wire_Good_calls m.kind m.slot m.target m.member m.body m.bits m.tag
  unfold wire_Good_vc
  have el : row.length = m.bits.len := by have := e.len; rwa [List.length_map] at this
  refine newTV_in fun h1 v1 x1 s1 => ?_
  have at0 := v1.at (t := m.tv)
  obtain ⟨a0, a1, a2, a3, a4, a5, a6⟩ := at0
  have hr1 := hr h1 x1
  intro J HJ
  have fin : ∀ b, m.slot ≥ 0 → m.slot ≤ 1073741824 → m.member ≥ 0 → m.member ≤ 65535 → (m.kind = 1 ∨ m.body = 0) → J b h1 := by
    intro b g1 g2 g3 g4 g5
    refine HJ b h1 ⟨_, a0, ?_⟩
    have hpre : (!(decide (m.slot < 0) || decide (1073741824 < m.slot) || decide (m.member < 0) || decide (65535 < m.member) || (!decide (m.kind = 1) && !decide (m.body = 0)))) = true := by
      rcases g5 with g5 | g5 <;> simp [g5] <;> omega
    unfold goodF at hr1
    rw [hpre, Bool.true_and] at hr1
    refine If.dec.2 ⟨fun k3 => ?_, fun k3 => ?_⟩
    · rw [if_pos k3] at hr1
      refine ⟨_, a3, If.dec.2 ⟨fun k4 => ⟨_, a5, If.dec.2 ⟨fun k5 => ⟨_, a5, ?_⟩, fun k5 => ?_⟩⟩, fun k4 => ?_⟩⟩
      · refine contains_spec (e.ext x1) hl ⟨_, rfl, ?_⟩
        rw [decide_eq_true k4, decide_eq_true (show row.length ≤ 16 by omega)] at hr1
        exact hr1
      · rw [decide_eq_true k4, decide_eq_false (show ¬ row.length ≤ 16 by omega)] at hr1
        exact hr1
      · rw [decide_eq_false k4] at hr1
        exact hr1
    · rw [if_neg k3, el] at hr1
      have hd : decide (((m.bits.len : Nat) : Int) = 0) = decide (m.bits.len = 0) := by
        by_cases h0 : m.bits.len = 0
        · rw [decide_eq_true h0, decide_eq_true (by omega)]
        · rw [decide_eq_false h0, decide_eq_false (by omega)]
      rw [← hd] at hr1
      refine ⟨_, a0, If.dec.2 ⟨fun k4 => ⟨_, a5, ?_⟩, fun k4 => ⟨_, a0, If.dec.2 ⟨fun k5 => ⟨_, a5, ?_⟩, fun k5 => ?_⟩⟩⟩⟩
      · rw [decide_eq_true k4] at hr1
        exact hr1
      · rw [decide_eq_false k4, decide_eq_true k5] at hr1
        exact hr1
      · rw [decide_eq_false k4, decide_eq_false k5] at hr1
        exact hr1
  have bad : (m.slot < 0 ∨ 1073741824 < m.slot ∨ m.member < 0 ∨ 65535 < m.member ∨ (m.kind ≠ 1 ∧ m.body ≠ 0)) → R (TV.bool false).val h1 := by
    intro hb
    have hpre : (!(decide (m.slot < 0) || decide (1073741824 < m.slot) || decide (m.member < 0) || decide (65535 < m.member) || (!decide (m.kind = 1) && !decide (m.body = 0)))) = false := by
      rcases hb with hb | hb | hb | hb | ⟨hb, hc⟩
      · simp [hb]
      · simp [hb]
      · simp [hb]
      · simp [hb]
      · simp [hb, hc]
    unfold goodF at hr1
    rw [hpre, Bool.false_and] at hr1
    exact hr1
  clear HJ
  refine ⟨_, a1, If.dec.2 ⟨fun g => bad (.inl g), fun g1 => ⟨_, a1, If.dec.2 ⟨fun g => bad (.inr (.inl g)), fun g2 => ⟨_, a3, If.dec.2 ⟨fun g => bad (.inr (.inr (.inl g))), fun g3 => ⟨_, a3, If.dec.2 ⟨fun g => bad (.inr (.inr (.inr (.inl g)))), fun g4 => ⟨_, a0, If.split (fun g5 => ⟨_, a4, If.split (fun g6 => ?_) fun g6 => ?_⟩) fun g5 => ?_⟩⟩⟩⟩⟩⟩⟩⟩⟩
  · exact bad (.inr (.inr (.inr (.inr ⟨by simpa using g5, by simpa using g6⟩))))
  · exact fin _ (by omega) (by omega) (by omega) (by omega) (.inr (by simpa using g6))
  · exact fin _ (by omega) (by omega) (by omega) (by omega) (.inl (by simpa using g5))

end
end Go.Proofs.YtennbinbffdimaaGreat.Board
end

section
/- A message's bytes, who speaks, its tag, what is signed and checked, its votes. -/
namespace Go.Proofs.YtennbinbffdimaaGreat.Board
open Go Go.Vc
section
variable {R : Value → Heap → Prop} {h : Heap}

/-- A message's bytes without its tag. -/
def plainF (m : Ms) (row : List Bool) : List UInt8 :=
  (([UInt8.ofNat (IntKind.wrap .u8 m.kind).toNat] ++ leF (IntKind.wrap .u64 m.slot) 4) ++ m.target.l) ++
    if m.kind = 1 then leF (IntKind.wrap .u64 m.member) 2 ++ leF m.body 8 else if m.kind = 2 then leF (IntKind.wrap .u64 m.member) 2 else if m.kind = 3 then bitF row else []

theorem leF_len (n : Int) (k : Nat) : (leF n k).length = k := leF_length k n
theorem bitF_len (row : List Bool) : (bitF row).length = row.length / 8 + 1 := by simp [bitF, bitS, bitG_length]

theorem plainF_len (m : Ms) (row : List Bool) : (plainF m row).length ≤ 60 + row.length := by
  unfold plainF
  simp only [List.length_append, leF_len, m.target.h, List.length_singleton]
  split
  · simp only [List.length_append, leF_len]; omega
  · split
    · simp only [leF_len]; omega
    · split
      · rw [bitF_len]; omega
      · simp only [List.length_nil]; omega

theorem elems_bytes {b o n c : Nat} {x : Bs n} (a : atBytes h b o n x) : Elems 1 h ⟨some ⟨b, o⟩, n, c⟩ (bys x.l) := by
  refine ⟨by rw [List.length_map, x.h], (fun hn => by cases hn), fun l hl i t ht => ?_⟩
  obtain rfl := Option.some.inj hl
  rw [List.getElem?_map] at ht
  obtain ⟨u, hu, rfl⟩ := Option.map_eq_some_iff.1 ht
  have hi : i < n := by rw [← x.h]; exact (List.getElem?_eq_some_iff.1 hu).1
  have := a i hi
  rw [List.getD_eq_getElem?_getD, hu] at this
  show at1 _ _ _ _
  rw [Nat.mul_one]
  exact this

theorem app_loose {e : TypeId} {s : Sl} {n : Nat} {new : List Value} {K : Sl → Heap → Prop} (H : vcAppend ctx e s n new h K) : vcAppend ctxL e s n new h K := H

theorem put_n {T : TypeId} {b n : Nat} {t0 t : TV} {K : Heap → Prop} (v : Var T h b t0) (hn : n = t0.size) (hs : t.size = t0.size) (hk : ∀ h1, Var T h1 b t → Only (· = b) h h1 → h1.size = h.size → K h1) : wok h b 0 n ∧ Bind (t.put h b 0) K := by
  subst hn
  exact put_in v hs hk

theorem app_bytesN {Q : Nat → Prop} {s : Sl} {bs us : List UInt8} {n : Nat} {K : Sl → Heap → Prop} (hn : n = us.length) (r : Row Q h s bs) (hl : bs.length + us.length < 10000)
    (hk : ∀ s' h', Row Q h' s' (bs ++ us) → Only (In s) h h' → (∀ l, s'.a = some l → (∃ l', s.a = some l' ∧ l'.b = l.b) ∨ h.size ≤ l.b) → K s' h') :
    vcAppend ctx 5 s n (us.map fun c => Value.int .u8 (c.toNat : Int)) h K := by
  subst hn
  exact app_bytes r hl hk

set_option maxRecDepth 100000 in
theorem plain_spec {m : Ms} {row : List Bool} (e : Elems 1 h m.bits (bools row)) (hl : row.length < 500) (hr : ∀ h', Ext h h' → R (TV.str (plainF m row)).val h') : CallsH Tryz.prog 265 (TVs.vals [m.tv]) h R := by
  apply wire_Plain_calls m.kind m.slot m.target m.member m.body m.bits m.tag
  unfold wire_Plain_vc
  have el : row.length = m.bits.len := by have := e.len; rwa [List.length_map] at this
  refine newTV_in fun h1 v1 x1 s1 => ?_
  have at1' := v1.at (t := m.tv)
  obtain ⟨a0, a1, a2, a3, a4, a5, a6⟩ := at1'
  have hw := wrap_u8_range m.kind
  have xp := Ext.push h1 (Vc.row (TVs.cells [TV.int .u8 (IntKind.wrap .u8 m.kind)]) 5)
  have r1 : Row (fun i => h.size < i) (h1.push (Vc.row (TVs.cells [TV.int .u8 (IntKind.wrap .u8 m.kind)]) 5)) ⟨some ⟨h1.size, 0⟩, 1, 1⟩ [UInt8.ofNat (IntKind.wrap .u8 m.kind).toNat] := by
    have o := Own.new (T := 5) (sz := 1) h1 [TV.int .u8 (IntKind.wrap .u8 m.kind)] (fun t ht => by
      simp only [List.mem_cons, List.not_mem_nil, or_false] at ht
      subst ht; rfl)
    have e1 : byTV (UInt8.ofNat (IntKind.wrap .u8 m.kind).toNat) = TV.int .u8 (IntKind.wrap .u8 m.kind) := by
      unfold byTV
      rw [UInt8.toNat_ofNat']
      congr 1
      omega
    refine ⟨?_, fun l hl => ?_, fun i hi => ?_⟩
    · have e2 : bys [UInt8.ofNat (IntKind.wrap .u8 m.kind).toNat] = [TV.int .u8 (IntKind.wrap .u8 m.kind)] := by simp [bys, e1]
      rw [e2]
      exact o
    · obtain rfl := Option.some.inj hl
      show h.size < h1.size
      omega
    · rw [Array.size_push] at hi
      omega
  refine ⟨_, a0, _, at1_ext xp a1, ?_⟩
  refine put_spec_le (k := 4) r1 (by simp) (by decide) fun h2 s2 r2 o2 => ⟨_, rfl, ?_⟩
  have x2 : Ext h1 h2 := Only.cut xp o2 fun i hi => by omega
  have hc : cutSl (Sl.mk (some (Vc.Loc.mk h.size 2)) 32 32) 0 32 1 = ⟨some ⟨h.size, 2⟩, 32, 32⟩ := rfl
  rw [hc]
  refine ⟨m.target.l.map fun c => Value.int .u8 (c.toNat : Int), by rw [← bys_cells]; exact (elems_bytes (atBytes_ext x2 a2)).cells (bys_size _) (by decide), bcells_one m.target.l, app_loose ?_⟩
  refine app_bytesN m.target.h.symm r2 (by rw [List.length_append, leF_len, List.length_singleton, m.target.h]; decide) fun s3 h3 r3 f3 b3 => ?_
  have f3 := r2.cut f3
  have x3 : Ext h1 h3 := Only.cut xp (o2.trans f3) fun i hi => by omega
  have x03 := x1.trans x3
  have v3 : Var 58 h3 h.size m.tv := v1.ext x3
  have at3 := v3.at
  obtain ⟨b0, b1, b2, b3, b4, b5, b6⟩ := at3
  have l3 : (([UInt8.ofNat (IntKind.wrap .u8 m.kind).toNat] ++ leF (IntKind.wrap .u64 m.slot) 4) ++ m.target.l).length = 37 := by
    rw [List.length_append, List.length_append, leF_len, List.length_singleton, m.target.h]
  refine ⟨_, b0, If.dec.2 ⟨fun k1 => ?_, fun k1 => If.dec.2 ⟨fun k2 => ?_, fun k2 => If.dec.2 ⟨fun k3 => ?_, fun k3 => ?_⟩⟩⟩⟩
  · refine ⟨h1, x3.sub, _, a3, _, a4, ?_⟩
    refine put_spec_le (k := 2) r3 (by rw [l3]; decide) (by decide) fun h4 s4 r4 o4 => ⟨_, rfl, (Only.cut x3 o4 fun i hi => by omega : Ext h1 h4).sub, ?_⟩
    refine put_spec_le (k := 8) r4 (by rw [List.length_append, l3, leF_len]; decide) (by decide) fun h5 s5 r5 o5 => ⟨_, rfl, _, r5.str, ?_⟩
    have := hr h5 (Only.cut x03 (o4.trans o5) fun i hi => by omega)
    unfold plainF at this
    rw [if_pos k1, ← List.append_assoc] at this
    exact this
  · refine ⟨_, b3, ?_⟩
    refine put_spec_le (k := 2) r3 (by rw [l3]; decide) (by decide) fun h4 s4 r4 o4 => ⟨_, rfl, _, r4.str, ?_⟩
    have := hr h4 (Only.cut x03 o4 fun i hi => by omega)
    unfold plainF at this
    rw [if_neg k1, if_pos k2] at this
    exact this
  · refine ⟨_, b5, ?_⟩
    refine bput_spec r3 (by rw [l3]; decide) (by omega) el (fun h' o' => e.ext (Only.cut x03 o' fun i hi => by omega)) fun h4 s4 r4 o4 => ⟨_, rfl, _, r4.str, ?_⟩
    have := hr h4 (Only.cut x03 o4 fun i hi => by omega)
    unfold plainF at this
    rw [if_neg k1, if_neg k2, if_pos k3] at this
    exact this
  · have := hr h3 x03
    unfold plainF at this
    rw [if_neg k1, if_neg k2, if_neg k3, List.append_nil] at this
    exact ⟨_, r3.str, this⟩

/-! ### What one speaker's tag is of -/

/-! ### Who speaks -/

end
end Go.Proofs.YtennbinbffdimaaGreat.Board
end

section
/- The document's messages: the same bytes, the same speakers, the same tags. -/
namespace Go.Proofs.YtennbinbffdimaaGreat.Board
open Go Go.Vc
section
variable {R : Value → Heap → Prop} {h : Heap}

/-! ### Rows of bits -/

theorem b4 : (ctx.ti 4).bytes = 1 := by kernel_rfl

/-! ### Whether a message can be -/

def yes : List Bool → Nat
  | [] => 0
  | b :: l => (if b = true then 1 else 0) + yes l

/-! ### Who speaks -/

end
end Go.Proofs.YtennbinbffdimaaGreat.Board
end

section
/- The document's bytes, tags, checks and votes: the program's. -/
namespace Go.Proofs.YtennbinbffdimaaGreat.Board
open Go Go.Vc
section
variable {R : Value → Heap → Prop} {h : Heap}

theorem good_kind {m : Ms} {row : List Bool} (hg : goodF m row = true) : m.kind = 1 ∨ m.kind = 2 ∨ m.kind = 3 := by
  by_cases h3 : m.kind = 3
  · exact .inr (.inr h3)
  · unfold goodF at hg
    rw [if_neg h3] at hg
    simp only [Bool.and_eq_true, Bool.or_eq_true, decide_eq_true_eq] at hg
    rcases hg.2.1 with h | h
    · exact .inl h
    · exact .inr (.inl h)

theorem Row.ext {Q : Nat → Prop} {h' : Heap} {s : Sl} {bs : List UInt8} (r : Row Q h s bs) (e : Ext h h') : Row Q h' s bs :=
  ⟨r.own.ext e, r.far, fun i hi => r.new i (Nat.le_trans e.size hi)⟩

/-! ### Two messages, the same -/

end
end Go.Proofs.YtennbinbffdimaaGreat.Board
end

section
/- What the small functions of pool do: names, Before, and the heap's own Len, Less, Swap, Push. -/
namespace Go.Proofs.YtennbinbffdimaaGreat.Pool
open Go Go.Vc

/-! ### Items in memory -/

theorem it_ex {h : Heap} {b o : Nat} {x : It} (ha : x.tv.at h b o) {K : Int → Bs 32 → Int → Bs 32 → List UInt8 → Prop} (hk : K x.slot x.root x.peer x.fr x.text) :
    ∃ (n : Int), ∃ (c : Bs 32), ∃ (n1 : Int), ∃ (c1 : Bs 32), ∃ (s : List UInt8), (at1 h b o (.int .i64 n) ∧ atBytes h b (o + 1) 32 c ∧ at1 h b (o + 1 + 32) (.int .i64 n1) ∧ atBytes h b (o + 1 + 32 + 1) 32 c1 ∧ at1 h b (o + 1 + 32 + 1 + 32) (.string (ByteArray.mk (List.toArray s)))) ∧ K n c n1 c1 s := by
  have ha' : at1 h b o (.int .i64 x.slot) ∧ atBytes h b (o + 1) 32 x.root ∧ at1 h b (o + 1 + 32) (.int .i64 x.peer) ∧ atBytes h b (o + 1 + 32 + 1) 32 x.fr ∧ at1 h b (o + 1 + 32 + 1 + 32) (.string (ByteArray.mk (List.toArray x.text))) := ha
  obtain ⟨h1, h2, h3, h4, h5⟩ := ha'
  exact ⟨_, _, _, _, _, ⟨h1, h2, h3, h4, h5⟩, hk⟩

section
variable {T : TypeId} {h : Heap} {b : Nat} {x : It} (v : Var T h b x.tv)
include v
theorem v_slot : at1 h b 0 (.int .i64 x.slot) := v.at.1
theorem v_root : atBytes h b 1 32 x.root := v.at.2.1
theorem v_peer : at1 h b 33 (.int .i64 x.peer) := v.at.2.2.1
theorem v_fr : atBytes h b 34 32 x.fr := v.at.2.2.2.1
theorem v_text : at1 h b 66 (.string (ByteArray.mk (List.toArray x.text))) := v.at.2.2.2.2

theorem v_it {K : Int → Bs 32 → Int → Bs 32 → List UInt8 → Prop} (hk : K x.slot x.root x.peer x.fr x.text) :
    ∃ (n : Int), ∃ (c : Bs 32), ∃ (n1 : Int), ∃ (c1 : Bs 32), ∃ (s : List UInt8), (at1 h b 0 (.int .i64 n) ∧ atBytes h b 1 32 c ∧ at1 h b 33 (.int .i64 n1) ∧ atBytes h b 34 32 c1 ∧ at1 h b 66 (.string (ByteArray.mk (List.toArray s)))) ∧ K n c n1 c1 s :=
  ⟨_, _, _, _, _, ⟨v_slot v, v_root v, v_peer v, v_fr v, v_text v⟩, hk⟩
end

abbrev its (L : List It) : List TV := L.map It.tv

theorem its_size (L : List It) : ∀ t ∈ its L, t.size = 67 := fun t ht => by
  obtain ⟨x, _, rfl⟩ := List.mem_map.1 ht
  rfl

theorem its_plain (L : List It) : ∀ t ∈ its L, t.plain = true := fun t ht => by
  obtain ⟨x, _, rfl⟩ := List.mem_map.1 ht
  rfl

theorem its_at {h : Heap} {s : Sl} {L : List It} {i : Int} (e : Elems 67 h s (its L)) (i0 : 0 ≤ i) (i1 : i < L.length) {K : Vc.Loc → Int → Bs 32 → Int → Bs 32 → List UInt8 → Prop}
    (hk : ∀ l x, s.a = some l → L[i.toNat]? = some x → K l x.slot x.root x.peer x.fr x.text) :
    0 ≤ i ∧ i < (s.len : Int) ∧ Nn s.a fun (l : Vc.Loc) => ∃ (n : Int), ∃ (c : Bs 32), ∃ (n1 : Int), ∃ (c1 : Bs 32), ∃ (t : List UInt8), (at1 h l.b (l.o + i.toNat * 67) (.int .i64 n) ∧ atBytes h l.b (l.o + i.toNat * 67 + 1) 32 c ∧ at1 h l.b (l.o + i.toNat * 67 + 1 + 32) (.int .i64 n1) ∧ atBytes h l.b (l.o + i.toNat * 67 + 1 + 32 + 1) 32 c1 ∧ at1 h l.b (l.o + i.toNat * 67 + 1 + 32 + 1 + 32) (.string (ByteArray.mk (List.toArray t)))) ∧ K l n c n1 c1 t := by
  have hl := e.len
  rw [List.length_map] at hl
  refine e.read i0 (by omega) fun l t hla ht ha => ?_
  rw [List.getElem?_map] at ht
  obtain ⟨x, hx, rfl⟩ := Option.map_eq_some_iff.1 ht
  exact it_ex ha (hk l x hla hx)

theorem hget_eq {L : List It} {i : Nat} {x : It} (h : L[i]? = some x) : x = hget L i := (hget_of h).symm

/-! ### Names -/

theorem str_var {T : TypeId} {h : Heap} {b n c : Nat} {x : Bs n} (v : Var T h b (.bytes n x)) : strAt h ⟨some ⟨b, 0⟩, n, c⟩ x.l :=
  ⟨x.h, .inr ⟨_, rfl, fun j hj => by
    have := v.bytes j (by rw [← x.h]; exact hj)
    rw [this]
    simp [List.getD, hj]⟩⟩

section
variable {R : Value → Heap → Prop} {h : Heap}

theorem less_specS {a b : Bs 32} (hr : ∀ h', Ext h h' → R (TV.bool (Op.bytesLess a.l b.l)).val h') : CallsS Tryz.prog 198 (TVs.vals [.bytes 32 a, .bytes 32 b]) h R := by
  apply sha_Less_calls
  unfold sha_Less_vc
  refine newTV_in fun h1 v1 x1 s1 => newTV_in fun h2 v2 x2 s2 => ?_
  exact ⟨a.l, str_var (v1.ext x2), b.l, str_var v2, hr _ (x1.trans x2)⟩

theorem less_spec {a b : Bs 32} (hr : ∀ h', Ext h h' → R (TV.bool (Op.bytesLess a.l b.l)).val h') : CallsH Tryz.prog 198 (TVs.vals [.bytes 32 a, .bytes 32 b]) h R := (less_specS hr).weak

theorem before_specS {x y : It} (hr : ∀ h', Ext h h' → R (TV.bool (bf x y)).val h') : CallsS Tryz.prog 256 (TVs.vals [x.tv, y.tv]) h R := by
  apply pool_Before_calls x.slot x.root x.peer x.fr x.text y.slot y.root y.peer y.fr y.text
  unfold pool_Before_vc
  refine newTV_in fun h1 v1 x1 s1 => newTV_in fun h2 v2 x2 s2 => ?_
  have v1' := v1.ext x2
  have x12 := x1.trans x2
  refine ⟨x.slot, v_slot (x := x) v1', y.slot, v_slot (x := y) v2, If.dec.2 ⟨fun hlt => ?_, fun hge => ?_⟩⟩
  · have := hr h2 x12
    rwa [show bf x y = true from bf_iff.2 (.inl hlt)] at this
  · refine ⟨x.slot, v_slot (x := x) v1', y.slot, v_slot (x := y) v2, If.dec.2 ⟨fun he => ?_, fun hne => ?_⟩⟩
    · refine ⟨x.root, v_root (x := x) v1', y.root, v_root (x := y) v2, less_specS fun h' x' => ⟨_, rfl, ?_⟩⟩
      have := hr h' (x12.trans x')
      rwa [show bf x y = Op.bytesLess x.root.l y.root.l by unfold bf; simp [he]] at this
    · have := hr h2 x12
      rwa [show bf x y = false by unfold bf; simp [hge, hne]] at this

theorem before_spec {x y : It} (hr : ∀ h', Ext h h' → R (TV.bool (bf x y)).val h') : CallsH Tryz.prog 256 (TVs.vals [x.tv, y.tv]) h R := (before_specS hr).weak

/-! ### The heap's own functions -/

/-- A pool's row of items in memory. -/
structure HL (h : Heap) (b : Nat) (A : Sl) (L : List It) (most quota : Int) : Prop where
  var : Var 244 h b (.agg [.slice A, .int .i64 most, .int .i64 quota])
  own : Own 242 67 h A (its L)
  apart : ¬ In A b
  few : L.length < 1000

section
variable {b : Nat} {A : Sl} {L : List It} {most quota : Int}

theorem HL.len (H : HL h b A L most quota) : L.length = A.len := by have := H.own.len; rwa [List.length_map] at this
theorem HL.ext {h' : Heap} (H : HL h b A L most quota) (x : Ext h h') : HL h' b A L most quota := ⟨H.var.ext x, H.own.ext x, H.apart, H.few⟩
theorem HL.only {h' : Heap} {S : Nat → Prop} (H : HL h b A L most quota) (o : Only S h h') (h1 : ¬ S b) (h2 : ∀ i, In A i → ¬ S i) : HL h' b A L most quota :=
  ⟨H.var.only o h1, H.own.only o (fun l hl => h2 _ ⟨l, hl, rfl⟩), H.apart, H.few⟩

theorem len_spec (hr : R (TV.int .i64 (A.len : Int)).val h) : CallsH Tryz.prog 213 (TVs.vals [.slice A]) h R := by
  apply pool_last_Len_calls
  exact hr

theorem lessAt_spec (H : HL h b A L most quota) {i k : Int} (i0 : 0 ≤ i) (i1 : i < L.length) (k0 : 0 ≤ k) (k1 : k < L.length)
    (hr : ∀ h', Ext h h' → R (TV.bool (bf (hget L k.toNat) (hget L i.toNat))).val h') : CallsH Tryz.prog 373 (TVs.vals [.slice A, .int .i64 i, .int .i64 k]) h R := by
  apply pool_last_Less_calls
  unfold pool_last_Less_vc
  refine its_at H.own.elems k0 k1 fun l x _ hx => its_at H.own.elems i0 i1 fun l y _ hy => ?_
  have e1 := hget_of hx
  have e2 := hget_of hy
  refine before_spec (x := x) (y := y) fun h' x' => ⟨_, rfl, ?_⟩
  rw [← e1, ← e2]
  exact hr h' x'

theorem its_set (L : List It) (i : Nat) (x : It) : its (L.set i x) = (its L).set i x.tv := by simp [its, List.map_set]

theorem swap_spec (H : HL h b A L most quota) {i k : Int} (i0 : 0 ≤ i) (i1 : i < L.length) (k0 : 0 ≤ k) (k1 : k < L.length)
    (hr : ∀ h', HL h' b A (sw L i.toNat k.toNat) most quota → Only (In A) h h' → h'.size = h.size → R (TV.tup []).val h') : CallsH Tryz.prog 374 (TVs.vals [.slice A, .int .i64 i, .int .i64 k]) h R := by
  apply pool_last_Swap_calls
  unfold pool_last_Swap_vc
  refine its_at H.own.elems k0 k1 fun l x _ hx => its_at H.own.elems i0 i1 fun l y _ hy => ?_
  refine H.own.put_in (t := x.tv) i0 (by simpa using i1) rfl rfl fun h1 o1 f1 s1 => ?_
  refine o1.put_in (t := y.tv) k0 (by simpa using k1) rfl rfl fun h2 o2 f2 s2 => ?_
  refine hr h2 ⟨(H.var.only f1 H.apart).only f2 H.apart, ?_, H.apart, by rw [sw_length]; exact H.few⟩ (f1.trans f2) (by omega)
  have e1 := hget_eq hx
  have e2 := hget_eq hy
  unfold sw
  rw [its_set, its_set, ← e1, ← e2]
  exact o2

theorem bytes32 : (ctx.ti 242).bytes = 96 := by kernel_rfl
theorem size32 : (ctx.ti 242).size = 67 := by kernel_rfl
theorem zsize32 : (ctx.ti 242).z.size = 67 := by kernel_rfl

theorem push_spec (H : HL h b A L most quota) (x : It) (hl : L.length < 900)
    {v : One} (hv : v.v = .iface 242 x.tv.val)
    (hr : ∀ h' A', HL h' b A' (L ++ [x]) most quota → Only (fun i => i = b ∨ In A i) h h' → (∀ i, In A' i → In A i ∨ h.size ≤ i) → R (TV.tup []).val h') : CallsH Tryz.prog 375 (TVs.vals [.ptr (some ⟨b, 0⟩), .one v]) h R := by
  apply pool_last_Push_calls
  unfold pool_last_Push_vc
  have hlen := H.len
  refine ⟨A, H.var.at1 rfl, x.slot, x.root, x.peer, x.fr, x.text, hv, Ext.push _ _, ?_⟩
  refine append1 (C := ctx) (T := 242) (sz := 67) (x := x.tv) size32 zsize32 (by rw [bytes32]; decide) (by rw [bytes32]; omega) H.own rfl rfl fun A' h1 o1 f1 b1 => ?_
  have hb : ∀ l, A'.a = some l → l.b ≠ b := by
    intro l hl e
    rcases b1 l hl with ⟨l', h9, h10⟩ | h9
    · exact H.apart ⟨l', h9, h10.trans e⟩
    · have := H.var.lt
      omega
  have v1 := H.var.only f1 H.apart
  show wok h1 b 0 1 ∧ Bind ((TV.slice A').put h1 b 0) _
  refine field_in (i := 0) (t0 := .slice A) v1 rfl rfl rfl rfl fun h2 v2 f2 s2 => ?_
  refine hr h2 A' ⟨v2, ?_, fun ⟨l, hl, e⟩ => hb l hl e, by simp; omega⟩ ((f1.mono fun i hi => .inr hi).trans (f2.mono fun i hi => .inl hi)) (fun i ⟨l, hl, e⟩ => ?_)
  · have : its (L ++ [x]) = its L ++ [x.tv] := by simp [its]
    rw [this]
    exact o1.only f2 hb
  · rcases b1 l hl with ⟨l', h9, h10⟩ | h9
    · exact .inl ⟨l', h9, h10.trans e⟩
    · exact .inr (by omega)

/-! ### As methods of a heap -/

theorem types_pos : 0 < ctx.P.types.size := of_decide_eq_true (by kernel_rfl)

end
end
end Go.Proofs.YtennbinbffdimaaGreat.Pool
end

section
/- What container/heap does over a pool's row. -/
namespace Go.Proofs.YtennbinbffdimaaGreat.Pool
open Go Go.Vc
section
variable {R : Value → Heap → Prop} {h : Heap} {b : Nat} {A : Sl} {L : List It} {most quota : Int}

theorem m_len (H : HL h b A L most quota) : MethodAt Tryz.prog h 299 (TV.ptr (some ⟨b, 0⟩)).val "Len" 213 (TV.slice A).val :=
  meth_val ctx_ok (e := 241) (by kernel_rfl) (by kernel_rfl) types_pos (by kernel_rfl) (by kernel_rfl) (by kernel_rfl) (H.var.at1 rfl)
theorem m_less (H : HL h b A L most quota) : MethodAt Tryz.prog h 299 (TV.ptr (some ⟨b, 0⟩)).val "Less" 373 (TV.slice A).val :=
  meth_val ctx_ok (e := 241) (by kernel_rfl) (by kernel_rfl) types_pos (by kernel_rfl) (by kernel_rfl) (by kernel_rfl) (H.var.at1 rfl)
theorem m_swap (H : HL h b A L most quota) : MethodAt Tryz.prog h 299 (TV.ptr (some ⟨b, 0⟩)).val "Swap" 374 (TV.slice A).val :=
  meth_val ctx_ok (e := 241) (by kernel_rfl) (by kernel_rfl) types_pos (by kernel_rfl) (by kernel_rfl) (by kernel_rfl) (H.var.at1 rfl)
theorem m_push : MethodAt Tryz.prog h 299 (TV.ptr (some ⟨b, 0⟩)).val "Push" 375 (TV.ptr (some ⟨b, 0⟩)).val :=
  meth_ptr ctx_ok (e := 241) (by kernel_rfl) (by kernel_rfl) types_pos (by kernel_rfl)

theorem tdiv2 (n : Int) (h : 0 ≤ n) : Int.tdiv n 2 = ((n.toNat / 2 : Nat) : Int) := by
  rw [Int.tdiv_eq_ediv_of_nonneg h]; omega

theorem up_spec (H : HL h b A L most quota) {v : One} (hv : v.v = .iface 299 (TV.ptr (some ⟨b, 0⟩)).val) {j : Int} (j0 : 0 ≤ j) (j1 : j < L.length) (hU : UpInv L j.toNat)
    (hr : ∀ h' L', HL h' b A L' most quota → L'.Perm L → HeapFrom 0 L' → Only (In A) h h' → R (TV.tup []).val h') : CallsH Tryz.prog 300 (TVs.vals [.one v, .int .i64 j]) h R := by
  apply container_heap_up_calls
  unfold container_heap_up_vc
  have few := H.few
  refine ⟨fun s hh => 0 ≤ s ∧ s < L.length ∧ ∃ L', HL hh b A L' most quota ∧ L'.Perm L ∧ UpInv L' s.toNat ∧ Only (In A) h hh, fun s _ => s.toNat, ⟨j0, j1, L, H, List.Perm.refl _, hU, Only.refl _ _⟩, ?_⟩
  rintro s hh ⟨s0, s1, L', H', hp, hU', o⟩
  have hlen := hp.length_eq
  refine ⟨by decide, ?_⟩
  rw [wrap_i64 (n := s - 1) (by omega) (by omega)]
  have hdiv : Int.tdiv (s - 1) 2 = if s = 0 then 0 else (((s.toNat - 1) / 2 : Nat) : Int) := by
    split
    · rename_i h0; subst h0; decide
    · rw [tdiv2 _ (by omega)]
      congr 2
      omega
  rw [hdiv]
  refine If.dec.2 ⟨fun he => ?_, fun hne => ?_⟩
  · have h0 : s = 0 := by
      split at he
      · assumption
      · rw [wrap_i64 (by omega) (by omega)] at he
        omega
    exact hr hh L' H' hp (up_done hU' (by omega) (.inl (by omega))) o
  · have h0 : ¬ s = 0 := fun e => by rw [if_pos e, e] at hne; exact hne (by decide)
    rw [if_neg h0, wrap_i64 (by omega) (by omega)]
    have hpar : (((s.toNat - 1) / 2 : Nat) : Int).toNat = (s.toNat - 1) / 2 := Int.toNat_natCast _
    refine ⟨_, _, _, _, hv, m_less H', ?_⟩
    refine lessAt_spec H' s0 (by omega) (by omega) (by omega) fun h2 x2 => ⟨_, rfl, ?_⟩
    have H2 := H'.ext x2
    have o2 : Only (In A) h h2 := o.trans (Only.of_ext x2)
    rw [hpar]
    cases hb : bf (hget L' ((s.toNat - 1) / 2)) (hget L' s.toNat) with
    | false => exact If.yes (hr h2 L' H2 hp (up_done hU' (by omega) (.inr hb)) o2)
    | true =>
      refine If.no ⟨_, _, _, _, hv, m_swap H2, ?_⟩
      refine swap_spec H2 (by omega) (by omega) s0 (by omega) fun h3 H3 o3 _ => ⟨rfl, ?_⟩
      rw [hpar] at H3
      refine ⟨⟨by omega, by omega, _, H3, (sw_perm (by omega) (by omega)).trans hp, ?_, o2.trans o3⟩, by dsimp only; omega⟩
      rw [hpar]
      exact up_step hU' (by omega) (by omega) hb

theorem down_spec (H : HL h b A L most quota) {v : One} (hv : v.v = .iface 299 (TV.ptr (some ⟨b, 0⟩)).val) {i n : Int} (i0 : 0 ≤ i) (i1 : i < L.length) (hn : n = L.length) {lo : Nat} (hlo : lo ≤ i.toNat) (hD : DownInv lo L i.toNat)
    (hr : ∀ h' L' r, HL h' b A L' most quota → L'.Perm L → HeapFrom lo L' → Only (In A) h h' → R (TV.bool r).val h') : CallsH Tryz.prog 277 (TVs.vals [.one v, .int .i64 i, .int .i64 n]) h R := by
  apply container_heap_down_calls
  unfold container_heap_down_vc
  have few := H.few
  subst hn
  refine ⟨fun s hh => i ≤ s ∧ s < L.length ∧ ∃ L', HL hh b A L' most quota ∧ L'.Perm L ∧ DownInv lo L' s.toNat ∧ Only (In A) h hh, fun s _ => ((L.length : Int) - s).toNat, ⟨Int.le_refl _, i1, L, H, List.Perm.refl _, hD, Only.refl _ _⟩, ?_⟩
  rintro s hh ⟨s0, s1, L', H', hp, hD', o⟩
  have hlen := hp.length_eq
  have w2 : ∀ x : Int, 0 ≤ x → x < 10000 → IntKind.wrap .i64 x = x := fun x h0 h1 => wrap_i64 (by omega) (by omega)
  rw [w2 (2 * s) (by omega) (by omega), w2 (2 * s + 1) (by omega) (by omega), w2 (2 * s + 1 + 1) (by omega) (by omega)]
  have none_of : (L.length : Int) ≤ 2 * s + 1 → HeapFrom lo L' := fun hge => down_done hD' fun k hk hl hpar => by omega
  intro J hJ
  refine If.dec.2 ⟨fun hge => hr hh L' _ H' hp (none_of hge) o, fun hlt => ?_⟩
  refine If.dec.2 ⟨fun hneg => by omega, fun _ => ?_⟩
  refine hJ _ _ ?_
  intro J2 hJ2
  -- the child that is taken
  have key : ∀ (c : Int) (h2 : Heap), 0 < c → c < L.length → (c.toNat - 1) / 2 = s.toNat → HL h2 b A L' most quota → Only (In A) h h2 →
      (∀ k, 0 < k → k < L'.length → (k - 1) / 2 = s.toNat → bf (hget L' c.toNat) (hget L' k) = false) → J2 c h2 := by
    intro c h2 c0 c1 hpar H2 o2 hsib
    refine hJ2 _ _ ?_
    refine ⟨_, _, _, _, hv, m_less H2, ?_⟩
    refine lessAt_spec H2 (by omega) (by omega) (by omega) (by omega) fun h3 x3 => ⟨_, rfl, ?_⟩
    have H3 := H2.ext x3
    have o3 : Only (In A) h h3 := o2.trans (Only.of_ext x3)
    cases hb : bf (hget L' s.toNat) (hget L' c.toNat) with
    | false =>
      refine If.yes (hr h3 L' _ H3 hp (down_done hD' fun k hk hl hpk => ?_) o3)
      exact nb_trans hb (hsib k hk hl hpk)
    | true =>
      refine If.no ⟨_, _, _, _, hv, m_swap H3, ?_⟩
      refine swap_spec H3 (by omega) (by omega) (by omega) (by omega) fun h4 H4 o4 _ => ⟨rfl, ?_⟩
      refine ⟨⟨by omega, by omega, _, H4, (sw_perm (by omega) (by omega)).trans hp, ?_, o3.trans o4⟩, by dsimp only; omega⟩
      exact down_step hD' (by omega) hpar (by omega) (by omega) hb hsib
  refine If.dec.2 ⟨fun h2c => ?_, fun h1c => ?_⟩
  · refine ⟨_, _, _, _, hv, m_less H', ?_⟩
    refine lessAt_spec H' (by omega) (by omega) (by omega) (by omega) fun h2 x2 => ⟨_, rfl, ?_⟩
    have H2 := H'.ext x2
    have o2 : Only (In A) h h2 := o.trans (Only.of_ext x2)
    have e1 : (2 * s + 1).toNat = 2 * s.toNat + 1 := by omega
    have e2 : (2 * s + 1 + 1).toNat = 2 * s.toNat + 2 := by omega
    rw [e1, e2]
    cases hb : bf (hget L' (2 * s.toNat + 1)) (hget L' (2 * s.toNat + 2)) with
    | true =>
      refine If.yes (key _ h2 (by omega) (by omega) (by omega) H2 o2 fun k hk hl hpk => ?_)
      rw [e2]
      have : k = 2 * s.toNat + 1 ∨ k = 2 * s.toNat + 2 := by omega
      rcases this with rfl | rfl
      · exact bf_asymm hb
      · exact bf_irrefl _
    | false =>
      refine If.no (key _ h2 (by omega) (by omega) (by omega) H2 o2 fun k hk hl hpk => ?_)
      rw [e1]
      have : k = 2 * s.toNat + 1 ∨ k = 2 * s.toNat + 2 := by omega
      rcases this with rfl | rfl
      · exact bf_irrefl _
      · exact hb
  · refine key _ hh (by omega) (by omega) (by omega) H' o fun k hk hl hpk => ?_
    have e1 : (2 * s + 1).toNat = 2 * s.toNat + 1 := by omega
    rw [e1]
    have : k = 2 * s.toNat + 1 := by omega
    subst this
    exact bf_irrefl _

/-- heap.Push. -/
theorem hpush_spec (H : HL h b A L most quota) (hh : HeapFrom 0 L) (hl : L.length < 900) {v : One} (hv : v.v = .iface 299 (TV.ptr (some ⟨b, 0⟩)).val) (x : It) {u : One} (hu : u.v = .iface 242 x.tv.val)
    (hr : ∀ h' A' L', HL h' b A' L' most quota → L'.Perm (L ++ [x]) → HeapFrom 0 L' → Only (fun i => i = b ∨ In A i) h h' → (∀ i, In A' i → In A i ∨ h.size ≤ i) → R (TV.tup []).val h') : CallsH Tryz.prog 269 (TVs.vals [.one v, .one u]) h R := by
  apply container_heap_Push_calls
  unfold container_heap_Push_vc
  refine ⟨_, _, _, _, hv, m_push, ?_⟩
  refine push_spec H x hl hu fun h1 A' H1 o1 n1 => ⟨rfl, ?_⟩
  refine ⟨_, _, _, _, hv, m_len H1, ?_⟩
  refine len_spec ⟨_, rfl, ?_⟩
  have e := H1.len
  rw [List.length_append, List.length_singleton] at e
  rw [← e, wrap_i64 (by omega) (by omega)]
  have ej : ((((L.length + 1 : Nat) : Int) - 1)).toNat = L.length := by omega
  refine up_spec H1 hv (by omega) (by simp; omega) ?_ fun h2 L' H2 hp hh2 o2 => ⟨rfl, ?_⟩
  · rw [ej]
    have g : ∀ k, k < L.length → hget (L ++ [x]) k = hget L k := fun k hk => by
      unfold hget
      rw [List.getD_eq_getElem?_getD, List.getD_eq_getElem?_getD, List.getElem?_append_left hk]
    refine ⟨fun k hk hkl hne => ?_, fun k hk hkl hpar h0 => ?_⟩
    · rw [List.length_append, List.length_singleton] at hkl
      rw [g k (by omega), g _ (by omega)]
      exact hh k hk (by omega) (Nat.zero_le _)
    · rw [List.length_append, List.length_singleton] at hkl
      omega
  · refine hr h2 A' L' H2 hp hh2 ?_ n1
    have hs := o1.size
    refine ⟨Nat.le_trans hs o2.size, fun i hi hn => ?_⟩
    rw [o2.same i (by omega) (fun hx => ?_), o1.same i hi hn]
    rcases n1 i hx with h9 | h9
    · exact hn (.inr h9)
    · omega

/-- heap.Fix at the top. -/
theorem hfix_spec (H : HL h b A L most quota) (h0 : 0 < L.length) (hD : DownInv 0 L 0) {v : One} (hv : v.v = .iface 299 (TV.ptr (some ⟨b, 0⟩)).val)
    (hr : ∀ h' L', HL h' b A L' most quota → L'.Perm L → HeapFrom 0 L' → Only (In A) h h' → R (TV.tup []).val h') : CallsH Tryz.prog 270 (TVs.vals [.one v, .int .i64 0]) h R := by
  apply container_heap_Fix_calls
  unfold container_heap_Fix_vc
  refine ⟨_, _, _, _, hv, m_len H, ?_⟩
  refine len_spec ⟨_, rfl, ?_⟩
  have e := H.len
  refine down_spec H hv (lo := 0) (by decide) (by omega) (by omega) (by decide) hD fun h1 L' r H1 hp hh o => ⟨_, rfl, ?_⟩
  cases r with
  | true => exact If.no (hr h1 L' H1 hp hh o)
  | false =>
    have hl := hp.length_eq
    refine If.yes (up_spec H1 hv (by decide) (by omega) ⟨fun k hk hkl _ => hh k hk hkl (Nat.zero_le _), fun k _ _ _ h9 => absurd h9 (by decide)⟩ fun h2 L2 H2 hp2 hh2 o2 => ⟨rfl, ?_⟩)
    exact hr h2 L2 H2 (hp2.trans hp) hh2 (o.trans o2)

end
end Go.Proofs.YtennbinbffdimaaGreat.Pool
end

section
/- A pool's items, in order: Clone, SortFunc, All; the pool as a row in order. -/
namespace Go.Proofs.YtennbinbffdimaaGreat.Pool
open Go Go.Vc
section
variable {R : Value → Heap → Prop} {h : Heap} {b : Nat} {A : Sl} {L : List It} {most quota : Int}

def cmpIt (x y : It) : Int := if bf x y = true then -1 else if bf y x = true then 1 else 0

theorem lt_cmp (x y : It) : Go.Proofs.ltOf cmpIt x y = bf x y := by
  unfold Go.Proofs.ltOf cmpIt
  cases h1 : bf x y with
  | true => simp
  | false =>
    cases h2 : bf y x <;> simp

theorem swo : Go.Sort.SWO (Go.Proofs.ltOf cmpIt) where
  irrefl x := by rw [lt_cmp]; exact bf_irrefl x
  trans x y z h k := by rw [lt_cmp] at *; exact bf_trans h k
  ntrans x y z h k := by rw [lt_cmp] at *; exact nb_trans h k

theorem cmp_spec {x y : It} (hr : ∀ h', Ext h h' → R (TV.int .i64 (cmpIt x y)).val h') : CallsS Tryz.prog 255 (TVs.vals [x.tv, y.tv]) h R := by
  apply pool_Pool_All_1_calls x.slot x.root x.peer x.fr x.text y.slot y.root y.peer y.fr y.text
  unfold pool_Pool_All_1_vc
  refine newTV_in fun h1 v1 x1 s1 => newTV_in fun h2 v2 x2 s2 => ?_
  have v1' := v1.ext x2
  have x12 := x1.trans x2
  refine v_it (x := x) v1' (v_it (x := y) v2 ?_)
  refine before_specS (x := x) (y := y) fun h3 x3 => ⟨_, rfl, ?_⟩
  unfold cmpIt at hr
  cases h1 : bf x y with
  | true => rw [h1] at hr; exact If.yes (hr h3 (x12.trans x3))
  | false =>
    rw [h1] at hr
    refine If.no (v_it (x := y) (v2.ext x3) (v_it (x := x) (v1'.ext x3) ?_))
    refine before_specS (x := y) (y := x) fun h4 x4 => ⟨_, rfl, ?_⟩
    cases h2 : bf y x with
    | true => rw [h2] at hr; exact If.yes (hr h4 ((x12.trans x3).trans x4))
    | false => rw [h2] at hr; exact If.no (hr h4 ((x12.trans x3).trans x4))

/-- What two rows of the same blocks have to do with each other. -/
def Fresh (h : Heap) (s : Sl) : Prop := ∀ l, s.a = some l → h.size ≤ l.b

theorem clone_spec {s : Sl} (e : Elems 67 h s (its L)) (hl : L.length < 1000)
    (hr : ∀ h' s', Own 242 67 h' s' (its L) → Ext h h' → Fresh h s' → R (TV.slice s').val h') : CallsH Tryz.prog 253 (TVs.vals [.slice s]) h R := by
  apply slices_Clone___pool_Item_pool_Item__calls
  unfold slices_Clone___pool_Item_pool_Item__vc
  have hel := e.len
  rw [List.length_map] at hel
  refine If.split (fun hn => ?_) (fun hn => ?_)
  · have : s.a = none := by simpa using hn
    have hL : its L = [] := e.nil this
    have := hr h Sl.nil (by rw [hL]; exact Own.nil _ 67 h) (Ext.refl _) (fun l hl => by cases hl)
    exact this
  · have o := Own.new (T := 242) (sz := 67) h [] (fun t ht => by cases ht)
    have e1 := Ext.push h (row (TVs.cells []) 242)
    refine appendN (C := ctx) (T := 242) (t := Sl.mk (some (Vc.Loc.mk h.size 0)) 0 0) size32 zsize32 (by rw [bytes32]; decide) (by decide) (by rw [bytes32]; simp only; omega) o (e.ext e1) (its_size L) (its_plain L) fun s' h1 o1 x1 _ b1 => ?_
    refine hr h1 s' (by simpa using o1) (e1.trans (x1 rfl)) fun l hl => ?_
    rcases b1 l hl with ⟨l', h9, h10⟩ | h9
    · cases h9
      have : h.size = l.b := h10
      omega
    · have := e1.size
      omega

theorem aE32 : ∀ w, (isAgg (Tryz.sortIts_ren.t 24)).run Tryz.prog w = .ok true w := fun w => by
  have hu : ∃ fs, Tryz.prog.underlying 242 = some (.struct fs) := by
    cases hd : (ctx.ti 242).d with
    | none => have : (ctx.ti 242).d.isSome = true := by kernel_rfl
              rw [hd] at this; cases this
    | some d =>
      have hd' := ctx_ok.d hd
      have hs : (match (ctx.ti 242).d with | some (.struct _) => true | _ => false) = true := by kernel_rfl
      rw [hd] at hs
      cases d <;> first | (exact ⟨_, hd'⟩) | cases hs
  obtain ⟨fs, hu⟩ := hu
  have := isAgg_run (P := Tryz.prog) (w := w) hu
  exact this

theorem zE32 : ∀ w, (sizeOf (Tryz.sortIts_ren.t 24)).run Tryz.prog w = .ok 67 w := fun w => by
  have := sizeRun (C := ctx) ctx_ok (t := 242) (by kernel_rfl) w
  rw [size32] at this
  exact this

theorem sortIts_spec {s : Sl} (o : Own 242 67 h s (its L)) (hl : L.length < 1000)
    (hr : ∀ h' L', L'.Perm L → L'.Pairwise (fun x y => bf y x = false) → Own 242 67 h' s (its L') → Only (In s) h h' → R (TV.tup []).val h') : CallsH Tryz.prog 254 (TVs.vals [.slice s, .fn (.func 255) [] []]) h R := by
  refine sort_own (tv := It.tv) (k := 67) (P := Tryz.prog) Tryz.sortIts (T := 242) aE32 zE32 It.size It.plain swo (g := 255) (cb := #[]) (ctx_ok.entP (by kernel_rfl)) (fun h' x y => ?_) o (by omega) (fun h' L' hp hs o' f => ?_)
  · exact cmp_spec (x := x) (y := y) fun h'' x'' => ⟨rfl, x''⟩
  · refine hr h' L' hp (hs.imp fun {x y} hx => ?_) o' f
    rw [lt_cmp] at hx
    exact hx

/-! ### The pool as a row in order -/

/-- A pool in memory: S are its items, in order. -/
structure PL (h : Heap) (b : Nat) (A : Sl) (S : List It) (most quota : Int) : Prop where
  srt : Srt S
  names : (S.map It.root).Nodup
  few : S.length < 800
  ex : ∃ L, HL h b A L most quota ∧ HeapFrom 0 L ∧ L.Perm S

def Mine (b : Nat) (A : Sl) (i : Nat) : Prop := i = b ∨ In A i

/-- What a pool's function leaves alone: all but the pool's own blocks. -/
structure Grown (b : Nat) (A : Sl) (h : Heap) (A' : Sl) (h' : Heap) : Prop where
  only : Only (Mine b A) h h'
  new : ∀ i, Mine b A' i → Mine b A i ∨ h.size ≤ i

theorem Grown.refl : Grown b A h A h := ⟨Only.refl _ _, fun _ hi => .inl hi⟩
theorem Grown.of_ext {h' : Heap} (x : Ext h h') : Grown b A h A h' := ⟨Only.of_ext x, fun _ hi => .inl hi⟩
theorem Grown.trans {A' A2 : Sl} {h' h2 : Heap} (g : Grown b A h A' h') (k : Grown b A' h' A2 h2) : Grown b A h A2 h2 := by
  have s1 := g.only.size
  refine ⟨⟨Nat.le_trans s1 k.only.size, fun i hi hn => ?_⟩, fun i hi => ?_⟩
  · rw [k.only.same i (Nat.lt_of_lt_of_le hi s1) (fun hx => ?_), g.only.same i hi hn]
    rcases g.new i hx with h9 | h9
    · exact hn h9
    · omega
  · rcases k.new i hi with h9 | h9
    · exact g.new i h9
    · exact .inr (Nat.le_trans s1 h9)

variable {S : List It}

theorem PL.ext {h' : Heap} (p : PL h b A S most quota) (x : Ext h h') : PL h' b A S most quota := by
  obtain ⟨h1, h2, h3, L, h4, h5⟩ := p
  exact ⟨h1, h2, h3, L, h4.ext x, h5⟩
theorem PL.only {h' : Heap} {Q : Nat → Prop} (p : PL h b A S most quota) (o : Only Q h h') (hq : ∀ i, Mine b A i → ¬ Q i) : PL h' b A S most quota := by
  obtain ⟨h1, h2, h3, L, h4, h5⟩ := p
  exact ⟨h1, h2, h3, L, h4.only o (hq b (.inl rfl)) (fun i hi => hq i (.inr hi)), h5⟩
theorem PL.lt (p : PL h b A S most quota) {i : Nat} (hi : Mine b A i) : i < h.size := by
  obtain ⟨_, _, _, L, h4, _⟩ := p
  rcases hi with rfl | ⟨l, hl, rfl⟩
  · exact h4.var.lt
  · exact h4.own.lt l hl

theorem nodup_perm {L S : List It} (hp : L.Perm S) (hn : (S.map It.root).Nodup) : (L.map It.root).Nodup := (hp.map _).nodup_iff.2 hn

/-- In order, of items each of another name. -/
theorem srt_of {L : List It} (hp : L.Pairwise fun x y => bf y x = false) (hn : (L.map It.root).Nodup) : Srt L := by
  unfold Srt
  have hn' : L.Pairwise fun x y => x.root ≠ y.root := List.pairwise_map.1 hn
  refine (hp.and hn').imp fun {x y} hx => ?_
  rcases bf_total (x := x) (y := y) (fun e => hx.2 e.2) with h1 | h1
  · exact h1
  · rw [hx.1] at h1; cases h1

theorem all_spec (p : PL h b A S most quota) (hr : ∀ h' s', Own 242 67 h' s' (its S) → Ext h h' → Fresh h s' → R (TV.slice s').val h') : CallsH Tryz.prog 196 (TVs.vals [.ptr (some ⟨b, 0⟩)]) h R := by
  apply pool_Pool_All_calls
  unfold pool_Pool_All_vc
  obtain ⟨hs, hn, hf, L, H, hh, hp⟩ := p
  refine If.no ⟨A, H.var.at1 rfl, ?_⟩
  have hl := hp.length_eq
  refine clone_spec H.own.elems H.few fun h1 s1 o1 x1 f1 => ⟨s1, rfl, ?_⟩
  refine sortIts_spec o1 H.few fun h2 L' hp' hs' o2 f2 => ⟨rfl, ?_⟩
  have hpp := hp'.trans hp
  have : L' = S := srt_unique (srt_of hs' (nodup_perm hpp hn)) hs hpp
  subst this
  refine hr h2 s1 o2 (Only.cut x1 f2 fun i ⟨l, hl, e⟩ => ?_) f1
  have := f1 l hl
  omega

end
end Go.Proofs.YtennbinbffdimaaGreat.Pool
end

section
/- What a pool's functions do: Has, Of, Len, New, Put. -/
namespace Go.Proofs.YtennbinbffdimaaGreat.Pool
open Go Go.Vc
section
variable {R : Value → Heap → Prop} {h : Heap} {b : Nat} {A : Sl} {L S : List It} {most quota : Int}

theorem nn_some {α : Type} {K : α → Prop} {x : α} (h : K x) : Nn (some x) K := h

/-! ### What is told of a row in order -/

def has (r : Bs 32) (S : List It) : Bool := S.any fun x => decide (x.root = r)
def cnt (k : Int) (S : List It) : Nat := S.countP fun x => decide (x.peer = k)

/-- What Put answers, who gives way, and the items behind it. -/
def putS (most quota : Int) (x : It) (S : List It) : Int × It × List It :=
  if has x.root S = true then (9, It.zero, S)
  else if quota ≤ (cnt x.peer S : Int) then (11, It.zero, S)
  else if (S.length : Int) < most then (1, It.zero, insIt x S)
  else match S.getLast? with
    | none => (12, It.zero, S)
    | some y => if bf x y = true then (2, y, insIt x S.dropLast) else (12, It.zero, S)

/-! ### A function value that tells of an item -/

structure Tells (h : Heap) (f : One) (pred : It → Bool) : Prop where
  ex : ∃ g first cap, f.v = .func (.func g) first cap ∧ EntP Tryz.prog g ∧
    ∀ h' x (R' : Value → Heap → Prop), Ext h h' → (∀ h'', Ext h' h'' → R' (TV.bool (pred x)).val h'') → CallsH Tryz.prog g (List.append (List.append first.toList (TVs.vals [x.tv])) cap.toList) h' R'

theorem Tells.ext {h' : Heap} {f : One} {pred : It → Bool} (t : Tells h f pred) (x : Ext h h') : Tells h' f pred := by
  obtain ⟨g, first, cap, h1, h2, h3⟩ := t.ex
  exact ⟨g, first, cap, h1, h2, fun h'' y R' x' => h3 h'' y R' (x.trans x')⟩

theorem index_spec {s : Sl} {f : One} {pred : It → Bool} (e : Elems 67 h s (its L)) (hl : L.length < 1000) (t : Tells h f pred)
    (hr : ∀ h' n, Ext h h' → decide (0 ≤ n) = L.any pred → R (TV.int .i64 n).val h') : CallsH Tryz.prog 224 (TVs.vals [.slice s, .one f]) h R := by
  apply slices_IndexFunc_pool_last_pool_Item__calls
  unfold slices_IndexFunc_pool_last_pool_Item__vc
  have hel := e.len
  rw [List.length_map] at hel
  refine ⟨fun s hh => 0 ≤ s.2 ∧ s.2 ≤ L.length ∧ Ext h hh ∧ (L.take s.2.toNat).any pred = false, fun s _ => ((L.length : Int) - s.2).toNat, ⟨Int.le_refl _, Int.natCast_nonneg _, Ext.refl _, rfl⟩, ?_⟩
  rintro ⟨x0, i⟩ hh ⟨i0, i1, x, ha⟩
  simp only at i0 i1 ha ⊢
  refine If.dec.2 ⟨fun hi => ?_, fun hi => ?_⟩
  · refine its_at (e.ext x) i0 (by omega) fun l y _ hy => ?_
    obtain ⟨g, first, cap, h1, h2, h3⟩ := t.ex
    refine ⟨g, first, cap, h1, h2, h3 hh y _ x fun h'' x'' => ⟨_, rfl, ?_⟩⟩
    have hi' : (i + 1).toNat = i.toNat + 1 := by omega
    cases hp : pred y with
    | true =>
      refine If.yes (hr _ _ (x.trans x'') ?_)
      rw [decide_eq_true i0]
      exact (List.any_eq_true.2 ⟨y, List.mem_of_getElem? hy, hp⟩).symm
    | false =>
      refine If.no ?_
      rw [wrap_i64 (n := i + 1) (by omega) (by omega)]
      refine ⟨⟨by omega, by omega, x.trans x'', ?_⟩, by first | omega | (dsimp only; omega)⟩
      rw [hi', List.take_add_one, hy, List.any_append, ha]
      simp [hp]
  · have : i.toNat = L.length := by omega
    rw [this, List.take_length] at ha
    refine hr _ _ x ?_
    rw [ha]
    rfl

theorem contains_spec {s : Sl} {f : One} {pred : It → Bool} (e : Elems 67 h s (its L)) (hl : L.length < 1000) (t : Tells h f pred)
    (hr : ∀ h', Ext h h' → R (TV.bool (L.any pred)).val h') : CallsH Tryz.prog 164 (TVs.vals [.slice s, .one f]) h R := by
  apply slices_ContainsFunc_pool_last_pool_Item__calls
  unfold slices_ContainsFunc_pool_last_pool_Item__vc
  refine index_spec e hl t fun h' n x hn => ⟨n, rfl, ?_⟩
  rw [hn]
  exact hr h' x

theorem has1_spec {x : It} {T : TypeId} {c : Nat} {r : Bs 32} (v : Var T h c (.bytes 32 r)) (hr : ∀ h', Ext h h' → R (TV.bool (decide (x.root = r))).val h') : CallsH Tryz.prog 165 (TVs.vals [x.tv, .ptr (some ⟨c, 0⟩)]) h R := by
  apply pool_Pool_Has_1_calls x.slot x.root x.peer x.fr x.text
  unfold pool_Pool_Has_1_vc
  refine newTV_in fun h1 v1 x1 s1 => ?_
  refine ⟨x.root, v_root (x := x) v1, r, (v.ext x1).bytes, ?_⟩
  have : decide (x.root.1 = r.1) = decide (x.root = r) := decide_eq_decide.2 ⟨fun e => Bs.ext' e, fun e => by rw [e]⟩
  rw [this]
  exact hr h1 x1

theorem has_spec (p : PL h b A S most quota) {r : Bs 32} (hr : ∀ h', Ext h h' → R (TV.bool (has r S)).val h') : CallsH Tryz.prog 99 (TVs.vals [.ptr (some ⟨b, 0⟩), .bytes 32 r]) h R := by
  apply pool_Pool_Has_calls
  unfold pool_Pool_Has_vc
  refine newTV_in fun h1 v1 x1 s1 => ?_
  obtain ⟨hs, hn, hf, L, H, hh, hp⟩ := p.ext x1
  refine If.yes ⟨A, H.var.at1 rfl, ?_⟩
  refine contains_spec (f := ⟨(TV.fn (.func 165) [] [.ptr (some ⟨h.size, 0⟩)]).val, rfl⟩) (pred := fun x => decide (x.root = r)) H.own.elems H.few ⟨165, #[], #[(TV.ptr (some ⟨h.size, 0⟩)).val], rfl, ctx_ok.entP (by kernel_rfl), fun h' x R' x' hr' => ?_⟩ fun h' x' => ⟨_, rfl, ?_⟩
  · exact has1_spec (x := x) (v1.ext x') hr'
  · have : L.any (fun x => decide (x.root = r)) = has r S := by
      unfold has
      cases h9 : S.any fun x => decide (x.root = r) with
      | true =>
        obtain ⟨x, hx, hx'⟩ := List.any_eq_true.1 h9
        exact List.any_eq_true.2 ⟨x, hp.mem_iff.2 hx, hx'⟩
      | false =>
        rw [List.any_eq_false] at h9 ⊢
        exact fun x hx => h9 x (hp.mem_iff.1 hx)
    rw [this]
    exact hr h' (x1.trans x')

theorem has_nil {r : Bs 32} (hr : ∀ h', Ext h h' → R (TV.bool false).val h') : CallsH Tryz.prog 99 (TVs.vals [.ptr none, .bytes 32 r]) h R := by
  apply pool_Pool_Has_calls
  unfold pool_Pool_Has_vc
  refine newTV_in fun h1 v1 x1 s1 => ?_
  exact If.no (hr h1 x1)

theorem lenP_spec (p : PL h b A S most quota) (hr : R (TV.int .i64 (S.length : Int)).val h) : CallsH Tryz.prog 152 (TVs.vals [.ptr (some ⟨b, 0⟩)]) h R := by
  apply pool_Pool_Len_calls
  unfold pool_Pool_Len_vc
  obtain ⟨hs, hn, hf, L, H, hh, hp⟩ := p
  refine If.no ⟨A, H.var.at1 rfl, len_spec ⟨_, rfl, ?_⟩⟩
  rw [← H.len, hp.length_eq]
  exact hr

theorem cnt_take {i : Nat} {x : It} (k : Int) (hx : S[i]? = some x) : cnt k (S.take (i + 1)) = cnt k (S.take i) + if x.peer = k then 1 else 0 := by
  unfold cnt
  rw [List.take_add_one, hx, List.countP_append]
  simp [List.countP_cons]

theorem of_spec (p : PL h b A S most quota) {k : Int} (hr : ∀ h', Ext h h' → R (TV.int .i64 (cnt k S : Int)).val h') : CallsH Tryz.prog 268 (TVs.vals [.ptr (some ⟨b, 0⟩), .int .i64 k]) h R := by
  apply pool_Pool_Of_calls
  unfold pool_Pool_Of_vc
  have few := p.few
  refine all_spec p fun h1 s1 o1 x1 _ => ⟨s1, rfl, ?_⟩
  have hel := o1.len
  rw [List.length_map] at hel
  refine ⟨fun s hh => 0 ≤ s.2 ∧ s.2 ≤ S.length ∧ Ext h1 hh ∧ s.1 = (cnt k (S.take s.2.toNat) : Int), fun s _ => ((S.length : Int) - s.2).toNat, ⟨Int.le_refl _, Int.natCast_nonneg _, Ext.refl _, rfl⟩, ?_⟩
  rintro ⟨n, i⟩ hh ⟨i0, i1, x, hn⟩
  simp only at i0 i1 hn ⊢
  refine If.dec.2 ⟨fun hi => ?_, fun hi => ?_⟩
  · refine its_at (o1.elems.ext x) i0 (by omega) fun l y _ hy => ?_
    refine newTV_in fun h2 v2 x2 s2 => ?_
    refine put_in v2 (t := y.tv) rfl fun h3 v3 o3 s3 => ?_
    have x23 : Ext hh h3 := Only.cut x2 o3 fun j hj => by omega
    refine ⟨y.peer, v_peer v3, ?_⟩
    have hi' : (i + 1).toNat = i.toNat + 1 := by omega
    have hc := cnt_take k hy
    have hcl : cnt k (S.take i.toNat) ≤ S.length := by
      unfold cnt
      exact Nat.le_trans List.countP_le_length (by rw [List.length_take]; omega)
    rw [wrap_i64 (n := i + 1) (by omega) (by omega)]
    refine If.dec.2 ⟨fun he => ?_, fun he => ?_⟩
    · rw [if_pos he] at hc
      rw [wrap_i64 (n := n + 1) (by omega) (by omega)]
      exact ⟨⟨by omega, by omega, x.trans x23, by rw [hi', hc]; first | omega | (dsimp only; omega)⟩, by first | omega | (dsimp only; omega)⟩
    · rw [if_neg he] at hc
      exact ⟨⟨by omega, by omega, x.trans x23, by rw [hi', hc]; first | omega | (dsimp only; omega)⟩, by first | omega | (dsimp only; omega)⟩
  · have : i.toNat = S.length := by omega
    rw [this, List.take_length] at hn
    rw [hn]
    exact hr _ (x1.trans x)

/-- New: a pool without items. -/
theorem new_spec {q : Int} (hr0 : ¬ (1 ≤ most ∧ most ≤ 64 ∧ 1 ≤ q ∧ q ≤ 64) → R (TV.ptr none).val h)
    (hr1 : (1 ≤ most ∧ most ≤ 64 ∧ 1 ≤ q ∧ q ≤ 64) → ∀ h', PL h' h.size Sl.nil [] most q → Ext h h' → h'.size = h.size + 1 → R (TV.ptr (some ⟨h.size, 0⟩)).val h') : CallsH Tryz.prog 145 (TVs.vals [.int .i64 most, .int .i64 q]) h R := by
  apply pool_New_calls
  unfold pool_New_vc
  refine If.dec.2 ⟨fun h1 => hr0 (by omega), fun h1 => If.dec.2 ⟨fun h2 => hr0 (by omega), fun h2 => If.dec.2 ⟨fun h3 => hr0 (by omega), fun h3 => If.dec.2 ⟨fun h4 => hr0 (by omega), fun h4 => ?_⟩⟩⟩⟩
  refine newTV_in fun h1 v1 x1 s1 => hr1 (by omega) h1 ⟨List.Pairwise.nil, List.nodup_nil, by decide, [], ⟨v1, Own.nil _ 67 h1, fun ⟨l, hl, _⟩ => (by cases hl), by decide⟩, fun k _ hk => (by simp at hk), List.Perm.refl _⟩ x1 s1

/-! ### Put -/

theorem has_false {r : Bs 32} (h : has r S = false) : ∀ y ∈ S, r ≠ y.root := fun y hy e => by
  have := List.any_eq_false.1 h y hy
  simp [e] at this

theorem names_ins {x : It} (hn : (S.map It.root).Nodup) (h : has x.root S = false) : ((insIt x S).map It.root).Nodup := by
  have hp := (insIt_perm x S).map It.root
  rw [hp.nodup_iff, List.map_cons, List.nodup_cons]
  refine ⟨fun hm => ?_, hn⟩
  obtain ⟨y, hy, e⟩ := List.mem_map.1 hm
  exact has_false h y hy e.symm

theorem dropLast_facts {y : It} (hs : Srt S) (hn : (S.map It.root).Nodup) (hl : S.getLast? = some y) {x : It} (hx : has x.root S = false) :
    Srt S.dropLast ∧ (S.dropLast.map It.root).Nodup ∧ has x.root S.dropLast = false ∧ S.Perm (y :: S.dropLast) ∧ S.dropLast.length + 1 = S.length := by
  have hne : S ≠ [] := fun e => by rw [e] at hl; cases hl
  have hd := List.dropLast_concat_getLast hne
  have hy : S.getLast hne = y := by rw [List.getLast?_eq_some_getLast hne] at hl; exact Option.some.inj hl
  rw [hy] at hd
  have hsub : S.dropLast.Sublist S := List.dropLast_sublist S
  refine ⟨hs.sublist hsub, hn.sublist (hsub.map _), ?_, ?_, ?_⟩
  · refine List.any_eq_false.2 fun z hz => ?_
    have := has_false hx z (hsub.mem hz)
    simpa using fun e => this e.symm
  · have hp := List.perm_append_comm (l₁ := S.dropLast) (l₂ := [y])
    rw [hd] at hp
    exact hp
  · have := congrArg List.length hd
    simpa using this

theorem down_set {x : It} (hh : HeapFrom 0 L) : DownInv 0 (L.set 0 x) 0 := by
  have g : ∀ k, 0 < k → hget (L.set 0 x) k = hget L k := fun k hk => by
    unfold hget
    rw [List.getD_eq_getElem?_getD, List.getD_eq_getElem?_getD, List.getElem?_set_ne (by omega)]
  refine ⟨fun k hk hl hlo hne => ?_, fun k _ _ _ h0 => absurd h0 (by decide)⟩
  rw [List.length_set] at hl
  rw [g k hk, g _ (by omega)]
  exact hh k hk hl (Nat.zero_le _)

theorem set_perm {x y : It} {S' : List It} (h0 : 0 < L.length) (hy : hget L 0 = y) (hp : L.Perm (y :: S')) : (L.set 0 x).Perm (x :: S') := by
  cases L with
  | nil => simp at h0
  | cons z zs =>
    have : z = y := hy
    subst this
    exact (List.Perm.cons_inv hp).cons x

theorem put_spec (p : PL h b A S most quota) (x : It) (hm : 1 ≤ most) (hmm : most ≤ 64) (hlen : (S.length : Int) ≤ most)
    (hr : ∀ h' A', PL h' b A' (putS most quota x S).2.2 most quota → Grown b A h A' h' → R (TV.tup [.int .i64 (putS most quota x S).1, (putS most quota x S).2.1.tv]).val h') :
    CallsH Tryz.prog 212 (TVs.vals [.ptr (some ⟨b, 0⟩), x.tv]) h R := by
  apply pool_Pool_Put_calls (some ⟨b, 0⟩) x.slot x.root x.peer x.fr x.text
  unfold pool_Pool_Put_vc
  refine newTV_in fun h1 v1 x1 s1 => newTV_in fun h2 v2 x2 s2 => ?_
  have v1' := v1.ext x2
  have x12 := x1.trans x2
  have p2 := p.ext x12
  have hlt : ∀ i, Mine b A i → i < h.size := fun i hi => p.lt hi
  -- an answer without anything that gives way
  have plainR : ∀ (h3 : Heap) (A' : Sl) (v : Int) (S' : List It), Var 242 h3 h1.size It.zero.tv → PL h3 b A' S' most quota → Grown b A h A' h3 → (∀ i, Mine b A' i → i ≠ h1.size) → putS most quota x S = (v, It.zero, S') →
      wok h3 h1.size 0 67 ∧ Bind (TV.put h3 h1.size 0 It.zero.tv) fun (h : Heap) =>
        ∃ (n : Int), ∃ (c : Bs 32), ∃ (n1 : Int), ∃ (c1 : Bs 32), ∃ (s : List UInt8), (at1 h h1.size 0 (.int .i64 n) ∧ atBytes h h1.size 1 32 c ∧ at1 h h1.size 33 (.int .i64 n1) ∧ atBytes h h1.size 34 32 c1 ∧ at1 h h1.size 66 (.string (ByteArray.mk (List.toArray s)))) ∧
          R (TV.tup [.int .i64 v, .agg [.int .i64 n, .bytes 32 c, .int .i64 n1, .bytes 32 c1, .str s]]).val h := by
    intro h3 A' v S' v3 p3 g3 hne he
    refine put_in v3 (t := It.zero.tv) rfl fun h4 v4 o4 s4 => v_it (x := It.zero) v4 ?_
    have := hr h4 A' (by rw [he]; exact p3.only o4 hne) ⟨⟨Nat.le_trans g3.only.size o4.size, fun i hi hn => ?_⟩, g3.new⟩
    · rw [he] at this
      exact this
    · rw [o4.same i (by have := g3.only.size; omega) (by omega), g3.only.same i hi hn]
  have ne2 : ∀ i, Mine b A i → i ≠ h1.size := fun i hi => by have := hlt i hi; omega
  refine If.no ⟨x.root, v_root (x := x) v1', ?_⟩
  refine has_spec p2 fun h3 x3 => ⟨_, rfl, ?_⟩
  have x13 := x12.trans x3
  have p3 := p2.ext x3
  cases hhas : has x.root S with
  | true =>
    refine If.yes (plainR h3 A 9 S (v2.ext x3) p3 (.of_ext x13) ne2 ?_)
    unfold putS
    rw [if_pos hhas]
  | false =>
    obtain ⟨_, _, _, L3, H3, _, _⟩ := p3
    refine If.no ⟨x.peer, v_peer (x := x) (v1'.ext x3), quota, H3.var.at1 rfl, ?_⟩
    have p3 := p2.ext x3
    refine of_spec p3 fun h4 x4 => ⟨_, rfl, x4, ?_⟩
    have x14 := x13.trans x4
    have p4 := p3.ext x4
    refine If.dec.2 ⟨fun hq => ?_, fun hq => ?_⟩
    · refine plainR h4 A 11 S ((v2.ext x3).ext x4) p4 (.of_ext x14) ne2 ?_
      unfold putS
      rw [if_neg (by rw [hhas]; decide), if_pos hq]
    · obtain ⟨_, _, _, L4, H4, hh4, hp4⟩ := p4
      refine ⟨most, H4.var.at1 rfl, ?_⟩
      have p4 := p3.ext x4
      refine lenP_spec p4 ⟨_, rfl, Ext.refl _, ?_⟩
      have v1x : Var 242 h4 h.size x.tv := (v1'.ext x3).ext x4
      have v2x := (v2.ext x3).ext x4
      have hl4 := hp4.length_eq
      refine If.dec.2 ⟨fun hroom => ?_, fun hfull => ?_⟩
      · refine v_it (x := x) v1x ?_
        refine hpush_spec H4 hh4 (by have := p.few; omega) (v := ⟨.iface 299 (TV.ptr (some ⟨b, 0⟩)).val, rfl⟩) rfl x (u := ⟨.iface 242 x.tv.val, rfl⟩) rfl fun h5 A5 L5 H5 hp5 hh5 o5 n5 => ⟨rfl, ?_⟩
        have hpS : L5.Perm (insIt x S) := (hp5.trans ((hp4.append_right [x]).trans (List.perm_append_comm.trans (List.Perm.refl _)))).trans (insIt_perm x S).symm
        have p5 : PL h5 b A5 (insIt x S) most quota := ⟨insIt_srt p.srt (has_false hhas), names_ins p.names hhas, by rw [(insIt_perm x S).length_eq, List.length_cons]; have := p.few; omega, L5, H5, hh5, hpS⟩
        have hs4 := x14.size
        have new5 : ∀ i, Mine b A5 i → Mine b A i ∨ h4.size ≤ i := fun i hi => by
          rcases hi with e | hi
          · exact .inl (.inl e)
          · rcases n5 i hi with h9 | h9
            · exact .inl (.inr h9)
            · exact .inr h9
        have s2' := x3.size
        have s3' := x4.size
        refine plainR h5 A5 1 (insIt x S) (v2x.only o5 (fun hx => ne2 h1.size hx rfl)) p5 (Grown.trans (.of_ext x14) ⟨o5, new5⟩) (fun i hi => ?_) ?_
        · rcases new5 i hi with h9 | h9
          · exact ne2 i h9
          · omega
        · unfold putS
          rw [if_neg (by rw [hhas]; decide), if_neg hq, if_pos hroom]
      · have hSlen : (S.length : Int) = most := by omega
        have hL0 : 0 < L4.length := by omega
        have hlast := heap_last hh4 hp4 p.srt hL0
        have hA := H4.len
        refine v_it (x := x) v1x ⟨A, H4.var.at1 rfl, ?_⟩
        refine its_at (i := 0) H4.own.elems (by decide) (by omega) fun l y _ hy => ?_
        have ey : y = hget L4 0 := hget_eq hy
        refine before_spec (x := x) (y := y) fun h5 x5 => ⟨_, rfl, ?_⟩
        have x15 := x14.trans x5
        have p5 := p4.ext x5
        have H5 := H4.ext x5
        have hput : putS most quota x S = if bf x y = true then (2, y, insIt x S.dropLast) else (12, It.zero, S) := by
          unfold putS
          rw [if_neg (by rw [hhas]; decide), if_neg hq, if_neg hfull, hlast, ← ey]
        cases hb : bf x y with
        | false =>
          rw [hb] at hput
          exact If.yes (plainR h5 A 12 S (v2x.ext x5) p5 (.of_ext x15) ne2 hput)
        | true =>
          rw [hb, if_pos rfl] at hput
          refine If.no ⟨A, H5.var.at1 rfl, ?_⟩
          refine its_at (i := 0) H5.own.elems (by decide) (by omega) fun l2 y2 _ hy2 => ?_
          have ey2 : y2 = y := (hget_eq hy2).trans ey.symm
          subst ey2
          refine newTV_in fun h6 v6 x6 s6 => ?_
          refine put_in v6 (t := y2.tv) rfl fun h7 v7 o7 s7 => ?_
          have x57 : Ext h5 h7 := Only.cut x6 o7 fun j hj => by omega
          have H7 := H5.ext x57
          refine ⟨A, H7.var.at1 rfl, ?_⟩
          have v1y : Var 242 h7 h.size x.tv := (v1x.ext x5).ext x57
          refine v_it (x := x) v1y ?_
          refine H7.own.put_in (i := 0) (t := x.tv) (by decide) (by simp; omega) rfl rfl fun h8 o8 f8 s8 => ?_
          have H8 : HL h8 b A (L4.set 0 x) most quota := ⟨H7.var.only f8 H7.apart, by rw [its_set]; exact o8, H7.apart, by rw [List.length_set]; exact H7.few⟩
          refine nn_some ?_
          refine hfix_spec H8 (by rw [List.length_set]; exact hL0) (down_set hh4) (v := ⟨.iface 299 (TV.ptr (some ⟨b, 0⟩)).val, rfl⟩) rfl fun h9 L9 H9 hp9 hh9 o9 => ⟨rfl, ?_⟩
          have hlA : ∀ i, In A i → i < h.size := fun i hi => hlt i (.inr hi)
          have s15 := x15.size
          have s57 := x57.size
          have s24 := x3.size
          have s44 := x4.size
          have s55 := x5.size
          have v9 : Var 242 h9 h5.size y2.tv := (v7.only f8 (fun hx => by have := hlA _ hx; omega)).only o9 (fun hx => by have := hlA _ hx; omega)
          have v29 : Var 242 h9 h1.size It.zero.tv := (((v2x.ext x5).ext x57).only f8 (fun hx => by have := hlA _ hx; omega)).only o9 (fun hx => by have := hlA _ hx; omega)
          refine v_it (x := y2) v9 ?_
          refine put_in v29 (t := y2.tv) rfl fun h10 v10 o10 s10 => v_it (x := y2) v10 ?_
          have hlast' : S.getLast? = some y2 := by rw [hlast, ← ey]
          obtain ⟨d1, d2, d3, d4, d5⟩ := dropLast_facts p.srt p.names hlast' hhas
          have hpS : L9.Perm (insIt x S.dropLast) := (hp9.trans (set_perm hL0 ey.symm (hp4.trans d4))).trans (insIt_perm x S.dropLast).symm
          have p9 : PL h9 b A (insIt x S.dropLast) most quota := ⟨insIt_srt d1 (has_false d3), names_ins d2 d3, by rw [(insIt_perm x _).length_eq, List.length_cons]; have := p.few; omega, L9, H9, hh9, hpS⟩
          have g9 : Grown b A h A h9 := Grown.trans (.of_ext (x15.trans x57)) ⟨(f8.trans o9).mono fun i hi => .inr hi, fun i hi => .inl hi⟩
          have := hr h10 A (by rw [hput]; exact p9.only o10 ne2) ⟨⟨Nat.le_trans g9.only.size o10.size, fun i hi hn => ?_⟩, g9.new⟩
          · rw [hput] at this
            exact this
          · rw [o10.same i (by have := g9.only.size; omega) (by omega), g9.only.same i hi hn]

end
end Go.Proofs.YtennbinbffdimaaGreat.Pool
end

section
/- What the laws' own small functions do; Take. -/
namespace Go.Proofs.YtennbinbffdimaaGreat.Pool
open Go Go.Vc

section
variable {R : Value → Heap → Prop} {h : Heap} {b : Nat} {A : Sl} {L S : List It} {most quota : Int}

theorem wrap_u8 (n : Int) : IntKind.wrap .u8 n = n % 256 := by
  unfold IntKind.wrap
  show (if (false && _) = true then _ else n % 2 ^ 8) = n % 256
  simp

theorem put_byte {T : TypeId} {h : Heap} {b n i o : Nat} {x : Bs n} {K : Heap → Prop} (v : Var T h b (.bytes n x)) (hi : i < n) (ho : o = i) {c : Int} (h0 : 0 ≤ c) (h1 : c < 256)
    (hk : ∀ h1, Var T h1 b (.bytes n (x.set i (UInt8.ofNat c.toNat))) → Only (· = b) h h1 → h1.size = h.size → K h1) : wok h b o 1 ∧ Bind ((TV.int .u8 c).put h b o) K := by
  subst ho
  have hl : o + (TV.int .u8 c).size ≤ (TV.bytes n x).cells.length := by rw [TV.cells_length]; simp only [TV.size]; omega
  refine ⟨v.wok (by simp only [TV.size]; omega), hk _ ?_ (put_only v hl) (put_size v hl)⟩
  have := put_row (t := .int .u8 c) v hl
  unfold Var
  rw [this]
  congr 2
  simp only [TV.cells, TV.size, Bs.set, List.map_set]
  have e : ((UInt8.ofNat c.toNat).toNat : Int) = c := by
    rw [UInt8.toNat_ofNat']
    omega
  rw [e, List.set_eq_take_append_cons_drop, if_pos (by rw [List.length_map, x.h]; exact hi)]
  simp

def eqIt (x y : It) : Bool := decide (x.slot = y.slot) && (decide (x.root.1 = y.root.1) && (decide (x.peer = y.peer) && (decide (x.fr.1 = y.fr.1) && (decide (x.text = y.text) && true))))

theorem eqIt_iff {x y : It} : eqIt x y = true ↔ x = y := by
  unfold eqIt
  cases x; cases y
  simp only [Bool.and_eq_true, decide_eq_true_eq, and_true, It.mk.injEq]
  constructor
  · rintro ⟨h1, h2, h3, h4, h5⟩
    exact ⟨h1, Bs.ext' h2, h3, Bs.ext' h4, h5⟩
  · rintro ⟨h1, h2, h3, h4, h5⟩
    exact ⟨h1, by rw [h2], h3, by rw [h4], h5⟩

instance : DecidableEq It := fun x y => decidable_of_iff (eqIt x y = true) eqIt_iff

/-! ### Take -/

end
end Go.Proofs.YtennbinbffdimaaGreat.Pool
end

section
/- The document's pool: items in order; what its functions do. -/
namespace Go.Proofs.YtennbinbffdimaaGreat.Pool
open Go Go.Vc

section
variable {R : Value → Heap → Prop} {h : Heap} {m : Nat} {A : Sl} {M : List It} {most quota : Int}

end
end Go.Proofs.YtennbinbffdimaaGreat.Pool
end

section
/- The document's Put does what the program's Put does to the items in order. -/
namespace Go.Proofs.YtennbinbffdimaaGreat.Pool
open Go Go.Vc
section
variable {R : Value → Heap → Prop} {h : Heap} {m : Nat} {A : Sl} {M : List It} {most quota : Int}

end
end Go.Proofs.YtennbinbffdimaaGreat.Pool
end

section
/- Bytes as numbers, as rows of bits, as messages: plain lists, no program in sight. -/
namespace Go.Proofs.YtennbinbffdimaaGreat.Board
open Go Go.Vc

/-! ### Numbers -/

def num : List UInt8 → Nat
  | [] => 0
  | c :: s => c.toNat + 256 * num s

theorem num_lt : ∀ s : List UInt8, num s < 256 ^ s.length
  | [] => by decide
  | c :: s => by
    have h := num_lt s
    have hc := c.toNat_lt
    rw [num, List.length_cons, Nat.pow_succ]
    omega

/-! ### Bits -/

def bitAt (c : UInt8) (k : Nat) : Bool := decide (c.toNat / 2 ^ k % 2 = 1)
def bits8 (c : UInt8) : List Bool := (List.range 8).map (bitAt c)
def bitsOf (s : List UInt8) : List Bool := s.flatMap bits8

theorem bits8_length (c : UInt8) : (bits8 c).length = 8 := by simp [bits8]
theorem bitsOf_length : ∀ s : List UInt8, (bitsOf s).length = 8 * s.length
  | [] => rfl
  | c :: s => by
    show (bits8 c ++ bitsOf s).length = _
    rw [List.length_append, bits8_length, bitsOf_length s, List.length_cons]
    omega

theorem bitsOf_get : ∀ (s : List UInt8) (i : Nat), i < 8 * s.length → (bitsOf s)[i]? = some (bitAt (s.getD (i / 8) 0) (i % 8))
  | [], i, h => by simp at h
  | c :: s, i, h => by
    show (bits8 c ++ bitsOf s)[i]? = _
    by_cases h8 : i < 8
    · rw [List.getElem?_append_left (by rw [bits8_length]; exact h8)]
      have e1 : i / 8 = 0 := by omega
      have e2 : i % 8 = i := by omega
      rw [e1, e2]
      simp [bits8, h8]
    · rw [List.getElem?_append_right (by rw [bits8_length]; omega), bits8_length, bitsOf_get s (i - 8) (by rw [List.length_cons] at h; omega)]
      have e1 : i / 8 = (i - 8) / 8 + 1 := by omega
      have e2 : (i - 8) % 8 = i % 8 := by omega
      rw [e1, e2]
      rfl

/-- The place of the highest bit. -/
def topBit (c : UInt8) : Nat := c.toNat.log2

theorem top_facts : ∀ n : Fin 256, n.val ≠ 0 → n.val.log2 < 8 ∧ n.val / 2 ^ n.val.log2 % 2 = 1 ∧ ∀ k : Fin 8, n.val.log2 < k.val → n.val / 2 ^ k.val % 2 = 0 := by decide +kernel

theorem topBit_lt {c : UInt8} (h : c ≠ 0) : topBit c < 8 := by
  have hn : c.toNat ≠ 0 := fun e => h (UInt8.toNat_inj.1 e)
  exact (top_facts ⟨c.toNat, c.toNat_lt⟩ hn).1

/-- How many places a row of bytes has; without the last bit, that says where it ends. -/
def rowLen (s : List UInt8) : Nat := 8 * (s.length - 1) + topBit (s.getLastD 0)

/-- The row of bytes; none: there is none up to most. -/
def getF (s : List UInt8) (most : Nat) : Option (List Bool) :=
  if s = [] ∨ s.getLastD 0 = 0 then none else if most < rowLen s then none else some ((bitsOf s).take (rowLen s))

/-! ### Messages -/

structure Dm where
  kind : Int
  slot : Int
  target : Bs 32
  member : Int
  body : Int
  row : List Bool
  tag : Bs 16

def Dm.ms (d : Dm) (b : Sl) : Ms := ⟨d.kind, d.slot, d.target, d.member, d.body, b, d.tag⟩
def Dm.zero : Dm := ⟨0, 0, Bs.zero 32, 0, 0, [], Bs.zero 16⟩

def chk (d : Dm) : Option Dm := if goodF (d.ms Sl.nil) d.row = true then some d else none

/-- The message of bytes. -/
def decF (s : List UInt8) : Option Dm :=
  if s.length < 53 then none
  else if s.getD 0 0 = 1 then
    if s.length = 63 then chk ⟨1, (num ((s.drop 1).take 4) : Nat), bsOf 32 ((s.drop 5).take 32), (num ((s.drop 37).take 2) : Nat), (num ((s.drop 39).take 8) : Nat), [], bsOf 16 (s.drop 47)⟩ else none
  else if s.getD 0 0 = 2 then
    if s.length = 55 then chk ⟨2, (num ((s.drop 1).take 4) : Nat), bsOf 32 ((s.drop 5).take 32), (num ((s.drop 37).take 2) : Nat), 0, [], bsOf 16 (s.drop 39)⟩ else none
  else if s.getD 0 0 = 3 then
    match getF ((s.drop 37).take (s.length - 53)) 16 with
    | none => none
    | some row => chk ⟨3, (num ((s.drop 1).take 4) : Nat), bsOf 32 ((s.drop 5).take 32), 0, 0, row, bsOf 16 (s.drop (s.length - 16))⟩
  else none

theorem chk_some {d e : Dm} (h : chk d = some e) : e = d ∧ goodF (d.ms Sl.nil) d.row = true := by
  unfold chk at h
  split at h
  · rename_i hg; exact ⟨(Option.some.inj h).symm, hg⟩
  · cases h

theorem dec_good {s : List UInt8} {d : Dm} (h : decF s = some d) : goodF (d.ms Sl.nil) d.row = true := by
  unfold decF at h
  split at h
  · cases h
  split at h
  · split at h
    · obtain ⟨rfl, hg⟩ := chk_some h; exact hg
    · cases h
  split at h
  · split at h
    · obtain ⟨rfl, hg⟩ := chk_some h; exact hg
    · cases h
  split at h
  · split at h
    · cases h
    · obtain ⟨rfl, hg⟩ := chk_some h; exact hg
  · cases h

end Go.Proofs.YtennbinbffdimaaGreat.Board
end

section
/- The program's reader of bytes, and its rows of bits. -/
namespace Go.Proofs.YtennbinbffdimaaGreat.Board
open Go Go.Vc
section
variable {R : Value → Heap → Prop} {h : Heap} {b : Nat} {r : List UInt8} {sh : Bool}

/-- The next so many bytes of what is left, and what is left then, and whether it was too short. -/
def rdB (r : List UInt8) (sh : Bool) (n : Int) : List UInt8 × List UInt8 × Bool :=
  if sh = true ∨ n < 0 ∨ (r.length : Int) < n then ([], [], true) else (r.take n.toNat, r.drop n.toNat, sh)

theorem rdB_len {n : Int} : (rdB r sh n).1.length ≤ n.toNat := by
  unfold rdB
  split
  · exact Nat.zero_le _
  · rw [List.length_take]; omega

theorem rdB_ok {n : Nat} (h : n ≤ r.length) : rdB r false (n : Int) = (r.take n, r.drop n, false) := by
  unfold rdB
  rw [if_neg]
  · rfl
  · rintro (h1 | h1 | h1)
    · cases h1
    · omega
    · omega

theorem rdB_bad {n : Int} (h : sh = true ∨ n < 0 ∨ (r.length : Int) < n) : rdB r sh n = ([], [], true) := if_pos h

/-- A reader in memory: what is left, and whether it is short. -/
def Rd (h : Heap) (b : Nat) (r : List UInt8) (sh : Bool) : Prop := Var 355 h b (.agg [.str r, .bool sh])

theorem rbytes_spec {n : Int} (v : Rd h b r sh) (hr : ∀ h', Rd h' b (rdB r sh n).2.1 (rdB r sh n).2.2 → Only (· = b) h h' → R (TV.str (rdB r sh n).1).val h') :
    CallsH Tryz.prog 228 (TVs.vals [.ptr (some ⟨b, 0⟩), .int .i64 n]) h R := by
  apply le_Reader_Bytes_calls
  unfold le_Reader_Bytes_vc
  have v : Var 355 h b (.agg [.str r, .bool sh]) := v
  intro J HJ J2 HJ2
  have bad : (sh = true ∨ n < 0 ∨ (r.length : Int) < n) → J2 true h := by
    intro hb
    rw [rdB_bad hb] at hr
    refine HJ2 true h (If.yes (If.yes ?_))
    refine field_in (i := 1) (t := .bool true) (t0 := .bool sh) v rfl rfl rfl rfl fun h1 v1 f1 s1 => ?_
    refine field_in (i := 0) (t := .str []) (t0 := .str r) v1 rfl rfl rfl rfl fun h2 v2 f2 s2 => ?_
    exact hr h2 v2 (f1.trans f2)
  refine If.no ⟨sh, v.at1 rfl, ?_⟩
  refine If.split (fun hb => bad (.inl (by simpa using hb))) fun hs => If.dec.2 ⟨fun hn => bad (.inr (.inl hn)), fun hn => ⟨r, v.at1 rfl, ?_⟩⟩
  have hs : sh = false := by simpa using hs
  by_cases hl : (r.length : Int) < n
  · rw [decide_eq_true hl]
    exact bad (.inr (.inr hl))
  rw [decide_eq_false hl]
  have hg : rdB r sh n = (r.take n.toNat, r.drop n.toNat, sh) := if_neg (by rw [hs]; rintro (h1 | h1 | h1) <;> first | cases h1 | exact hn h1 | exact hl h1)
  rw [hg] at hr
  refine HJ2 false h (If.no (HJ _ h ⟨r, v.at1 rfl, by omega, by omega, r, v.at1 rfl, by omega, by omega, ?_⟩))
  have e1 : List.take (r.length - n.toNat) (r.drop n.toNat) = r.drop n.toNat := List.take_of_length_le (by rw [List.length_drop]; omega)
  refine ?_
  show wok h b 0 1 ∧ Bind _ _
  rw [e1]
  refine field_in (i := 0) (t := .str (r.drop n.toNat)) (t0 := .str r) v rfl rfl rfl rfl fun h2 v2 f2 s2 => ?_
  exact hr h2 v2 f2

set_option maxRecDepth 100000 in
theorem or_parts64 (A B : Nat) (hB : B < 2 ^ 8) (hA : A * 2 ^ 8 + B < 18446744073709551616) : ((BitVec.toNat (BitVec.ofInt 64 ((A * 2 ^ 8 : Nat) : Int) ||| BitVec.ofInt 64 (B : Int)) : Nat) : Int) = ((A * 2 ^ 8 + B : Nat) : Int) := by
  rw [BitVec.ofInt_natCast, BitVec.ofInt_natCast, BitVec.toNat_or, BitVec.toNat_ofNat, BitVec.toNat_ofNat, Nat.mod_eq_of_lt (by omega), Nat.mod_eq_of_lt (by omega)]
  have := Nat.shiftLeft_add_eq_or_of_lt hB A
  rw [Nat.shiftLeft_eq] at this
  rw [this]

theorem shl8 (A : Nat) (c : UInt8) (hA : A < 72057594037927936) :
    IntKind.wrap .u64 (↑(BitVec.toNat (BitVec.ofInt (IntKind.bits .u64) (IntKind.wrap .u64 ((A : Int) * 2 ^ min (Int.toNat 8) (IntKind.bits .u64))) ||| BitVec.ofInt (IntKind.bits .u64) (IntKind.wrap .u64 (c.toNat : Int)))) : Int) = ((c.toNat + 256 * A : Nat) : Int) := by
  have hc := c.toNat_lt
  have e1 : IntKind.wrap .u64 ((A : Int) * 2 ^ min (Int.toNat 8) (IntKind.bits .u64)) = ((A * 2 ^ 8 : Nat) : Int) := by
    show IntKind.wrap .u64 ((A : Int) * 256) = _
    rw [wrap_u64_small (by omega) (by omega)]
    omega
  have e2 : IntKind.wrap .u64 (c.toNat : Int) = (c.toNat : Int) := wrap_u64_small (by omega) (by omega)
  rw [e1, e2]
  show IntKind.wrap .u64 (↑(BitVec.toNat (BitVec.ofInt 64 ((A * 2 ^ 8 : Nat) : Int) ||| BitVec.ofInt 64 (c.toNat : Int))) : Int) = _
  rw [or_parts64 A c.toNat (by omega) (by omega), wrap_u64_small (by omega) (by omega)]
  omega

theorem ruint_spec {w : Int} (v : Rd h b r sh) (hw : w ≤ 8) (hr : ∀ h', Rd h' b (rdB r sh w).2.1 (rdB r sh w).2.2 → Only (· = b) h h' → R (TV.int .u64 (num (rdB r sh w).1 : Nat)).val h') :
    CallsH Tryz.prog 227 (TVs.vals [.ptr (some ⟨b, 0⟩), .int .i64 w]) h R := by
  apply le_Reader_Uint_calls
  unfold le_Reader_Uint_vc
  intro J HJ
  refine If.dec.2 ⟨fun h1 => by omega, fun _ => HJ w h ?_⟩
  refine rbytes_spec v fun h1 v1 f1 => ⟨_, rfl, ?_⟩
  have hl : (rdB r sh w).1.length ≤ 8 := Nat.le_trans rdB_len (by omega)
  have hr1 := hr h1 v1 f1
  generalize (rdB r sh w).1 = s at hl hr1
  refine ⟨fun σ hh => -1 ≤ σ.2 ∧ σ.2 < s.length ∧ hh = h1 ∧ σ.1 = ((num (s.drop (σ.2 + 1).toNat) : Nat) : Int), fun σ _ => (σ.2 + 1).toNat, ⟨?_, ?_, rfl, ?_⟩, ?_⟩
  · show -1 ≤ IntKind.wrap .i64 _
    rw [wrap_i64 (by omega) (by omega)]; omega
  · show IntKind.wrap .i64 _ < _
    rw [wrap_i64 (by omega) (by omega)]; omega
  · show (0 : Int) = ((num (s.drop (IntKind.wrap .i64 _ + 1).toNat) : Nat) : Int)
    rw [wrap_i64 (by omega) (by omega), List.drop_of_length_le (by omega)]
    rfl
  rintro ⟨a, i⟩ hh ⟨i0, i1, rfl, ha⟩
  dsimp only at i0 i1 ha ⊢
  refine If.dec.2 ⟨fun hi => ⟨by decide, hi, i1, ?_⟩, fun hi => ?_⟩
  · have hlt := num_lt (s.drop (i + 1).toNat)
    have hdl : (s.drop (i + 1).toNat).length ≤ 7 := by rw [List.length_drop]; omega
    have hp : 256 ^ (s.drop (i + 1).toNat).length ≤ 256 ^ 7 := Nat.pow_le_pow_right (by decide) hdl
    have hp7 : 256 ^ 7 = 72057594037927936 := by decide
    have hdrop : s.drop i.toNat = s.getD i.toNat 0 :: s.drop (i + 1).toNat := by
      rw [List.drop_eq_getElem_cons (by omega), List.getD_eq_getElem?_getD, List.getElem?_eq_getElem (by omega), show (i + 1).toNat = i.toNat + 1 by omega]
      rfl
    rw [ha, shl8 _ _ (by omega), wrap_i64 (n := i - 1) (by omega) (by omega)]
    refine ⟨⟨by first | omega | (dsimp only; omega), by first | omega | (dsimp only; omega), rfl, ?_⟩, by first | omega | (dsimp only; omega)⟩
    try dsimp only
    rw [show (i - 1 + 1).toNat = i.toNat by omega, hdrop, num]
  · have : (i + 1).toNat = 0 := by omega
    rw [ha, this]
    exact hr1

theorem from_spec {s : List UInt8} (hr : ∀ h', Rd h' h.size s false → Ext h h' → h'.size = h.size + 1 → R (TV.ptr (some ⟨h.size, 0⟩)).val h') : CallsH Tryz.prog 226 (TVs.vals [.str s]) h R := by
  apply le_From_calls
  unfold le_From_vc
  exact newTV_in fun h1 v1 x1 s1 => hr h1 v1 x1 s1

theorem left_spec (v : Rd h b r sh) (hr : R (TV.int .i64 (r.length : Int)).val h) : CallsH Tryz.prog 230 (TVs.vals [.ptr (some ⟨b, 0⟩)]) h R := by
  have v : Var 355 h b (.agg [.str r, .bool sh]) := v
  apply le_Reader_Left_calls
  unfold le_Reader_Left_vc
  exact If.no ⟨r, v.at1 rfl, hr⟩

theorem rend_spec (v : Rd h b r sh) (hr : R (TV.bool (!sh && decide (r = []))).val h) : CallsH Tryz.prog 231 (TVs.vals [.ptr (some ⟨b, 0⟩)]) h R := by
  have v : Var 355 h b (.agg [.str r, .bool sh]) := v
  apply le_Reader_End_calls
  unfold le_Reader_End_vc
  refine If.yes ⟨sh, v.at1 rfl, ?_⟩
  cases sh with
  | true => exact If.no hr
  | false => exact If.yes ⟨r, v.at1 rfl, hr⟩

/-! ### Rows of bits -/

def tab8 : List UInt8 := (List.range 256).map fun i => if i = 0 then 0 else UInt8.ofNat (Nat.log2 i + 1)

theorem len8_eq (x : Int) (h : Heap) (R : Value → Heap → Prop) : math_bits_Len8_vc x h R = (0 ≤ x ∧ x < 256 ∧ R (TV.int .i64 (IntKind.wrap .i64 ((tab8.getD x.toNat 0).toNat : Int))).val h) := by kernel_rfl

theorem tab8_get : ∀ n : Fin 256, n.val ≠ 0 → IntKind.wrap .i64 ((tab8.getD n.val 0).toNat : Int) = ((n.val.log2 + 1 : Nat) : Int) := by decide +kernel

theorem len8_spec {c : UInt8} (hc : c ≠ 0) (hr : R (TV.int .i64 ((topBit c + 1 : Nat) : Int)).val h) : CallsH Tryz.prog 278 (TVs.vals [.int .u8 (c.toNat : Int)]) h R := by
  apply math_bits_Len8_calls
  have hlt := c.toNat_lt
  have hn : c.toNat ≠ 0 := fun e => hc (UInt8.toNat_inj.1 e)
  rw [len8_eq]
  refine ⟨Int.natCast_nonneg _, by omega, ?_⟩
  rw [Int.toNat_natCast, tab8_get ⟨c.toNat, hlt⟩ hn]
  exact hr

theorem bit_test : ∀ c : Fin 256, ∀ k : Fin 8, decide (IntKind.wrap .u8 (↑(BitVec.toNat (BitVec.ofInt (IntKind.bits .u8) (Int.fdiv ((c.val : Nat) : Int) ((2 : Int) ^ min (Int.toNat ((k.val : Nat) : Int)) (IntKind.bits .u8))) &&& BitVec.ofInt (IntKind.bits .u8) 1)) : Int) = 1) = decide (c.val / 2 ^ k.val % 2 = 1) := by decide +kernel

theorem last_get {s : List UInt8} (_h : s ≠ []) : s.getD (s.length - 1) 0 = s.getLastD 0 := by
  rw [List.getLastD_eq_getLast?, List.getLast?_eq_getElem?, List.getD_eq_getElem?_getD]

/-- The row so far. -/
def rowTo (l : List Bool) (n i : Nat) : List Bool := l.take i ++ List.replicate (n - i) false

theorem rowTo_set {l : List Bool} {n i : Nat} {x : Bool} (hx : l[i]? = some x) (hn : i < n) : (rowTo l n i).set i x = rowTo l n (i + 1) := by
  have hi := (List.getElem?_eq_some_iff.1 hx).1
  unfold rowTo
  have hr : List.replicate (n - i) false = false :: List.replicate (n - (i + 1)) false := by
    rw [show n - i = (n - (i + 1)) + 1 by omega, List.replicate_succ]
  rw [List.set_append_right _ _ (by rw [List.length_take]; omega), List.length_take, Nat.min_eq_left (by omega), Nat.sub_self, hr, List.set_cons_zero, List.take_add_one, hx, List.append_assoc]
  rfl

set_option maxRecDepth 100000 in
theorem bget_spec {s : List UInt8} (hl : s.length < 100000) (hn : getF s 16 = none → R (TV.tup [.slice Sl.nil, .bool false]).val h)
    (hy : ∀ row h' t, getF s 16 = some row → Own 4 1 h' t (bools row) → Ext h h' → (∀ l, t.a = some l → h.size ≤ l.b) → R (TV.tup [.slice t, .bool true]).val h') :
    CallsH Tryz.prog 229 (TVs.vals [.str s, .int .i64 16]) h R := by
  apply bitlist_Get_calls
  unfold bitlist_Get_vc
  intro J HJ
  refine If.dec.2 ⟨fun h0 => ?_, fun h0 => ?_⟩
  · refine hn ?_
    have : s = [] := h0
    unfold getF
    rw [if_pos (.inl this)]
  have h0 : s ≠ [] := h0
  have hl0 : 0 < s.length := List.length_pos_iff.2 h0
  have w1 : IntKind.wrap .i64 ((s.length : Int) - 1) = ((s.length - 1 : Nat) : Int) := by rw [wrap_i64 (by omega) (by omega)]; omega
  rw [w1]
  rw [w1] at HJ
  refine ⟨by omega, by omega, ?_⟩
  rw [Int.toNat_natCast, last_get h0]
  rw [Int.toNat_natCast, last_get h0] at HJ
  refine If.dec.2 ⟨fun hz => ?_, fun hz => HJ _ _ ?_⟩
  · refine hn ?_
    have : s.getLastD 0 = 0 := UInt8.toNat_inj.1 (by show _ = 0; omega)
    unfold getF
    rw [if_pos (.inr this)]
  clear HJ J
  have hz : s.getLastD 0 ≠ 0 := fun e => hz (by rw [e]; rfl)
  have ht := topBit_lt hz
  refine ⟨by omega, by omega, len8_spec hz ⟨_, rfl, ?_⟩⟩
  have hg : getF s 16 = if 16 < rowLen s then none else some ((bitsOf s).take (rowLen s)) := by
    unfold getF
    rw [if_neg (by rintro (h1 | h1); exact h0 h1; exact hz h1)]
  have w2 : IntKind.wrap .i64 (IntKind.wrap .i64 (IntKind.wrap .i64 (8 * ((s.length - 1 : Nat) : Int)) + ((topBit (s.getLastD 0) + 1 : Nat) : Int)) - 1) = (rowLen s : Int) := by
    unfold rowLen
    rw [wrap_i64 (n := 8 * ((s.length - 1 : Nat) : Int)) (by omega) (by omega), wrap_i64 (n := 8 * ((s.length - 1 : Nat) : Int) + ((topBit (s.getLastD 0) + 1 : Nat) : Int)) (by omega) (by omega), wrap_i64 (by omega) (by omega)]
    omega
  rw [w2]
  have hrl : rowLen s < 8 * s.length := by unfold rowLen; omega
  refine If.dec.2 ⟨fun hm => hn (by rw [hg, if_pos (by omega)]), fun hm => ?_⟩
  rw [if_neg (by omega)] at hg
  generalize rowLen s = n at hg hm hrl
  have hbl : (bitsOf s).length = 8 * s.length := bitsOf_length s
  obtain ⟨row, hrow⟩ : ∃ row, row = (bitsOf s).take n := ⟨_, rfl⟩
  have hrn : row.length = n := by rw [hrow, List.length_take]; omega
  rw [← hrow] at hg
  refine ⟨by omega, by omega, by show (1 : Int) * (n : Int) ≤ _; omega, by omega, ?_⟩
  simp only [Int.toNat_natCast]
  have ob := Own.new (T := 4) (sz := 1) h (List.replicate n (TV.bool false)) (fun t ht => by rw [List.eq_of_mem_replicate ht]; rfl)
  rw [List.length_replicate, ← zeros_rep] at ob
  have e0 : List.replicate n (TV.bool false) = bools (rowTo row n 0) := by unfold rowTo; simp [bools]
  rw [e0] at ob
  have xp := Ext.push h (Vc.row (zeros (TV.bool false) n) 4)
  refine ⟨fun i hh => 0 ≤ i ∧ i ≤ n ∧ Ext h hh ∧ Own 4 1 hh ⟨some ⟨h.size, 0⟩, n, n⟩ (bools (rowTo row n i.toNat)), fun i _ => ((n : Int) - i).toNat, ⟨Int.le_refl 0, by omega, xp, ob⟩, ?_⟩
  rintro i hh ⟨i0, i1, x1, o1⟩
  have hbits := bitsOf_get s i.toNat
  refine If.dec.2 ⟨fun hi => ?_, fun hi => ?_⟩
  · have d8 : Int.tdiv i 8 = ((i.toNat / 8 : Nat) : Int) := by rw [Int.tdiv_eq_ediv_of_nonneg i0]; omega
    have m8 : Int.tmod i 8 = ((i.toNat % 8 : Nat) : Int) := by rw [Int.tmod_eq_emod_of_nonneg i0]; omega
    have w3 : IntKind.wrap .i64 (Int.tdiv i 8) = ((i.toNat / 8 : Nat) : Int) := by rw [d8, wrap_i64 (by omega) (by omega)]
    rw [w3, m8]
    refine ⟨by decide, by omega, by omega, by decide, by omega, i0, hi, ?_⟩
    have hx : row[i.toNat]? = some (bitAt (s.getD (i.toNat / 8) 0) (i.toNat % 8)) := by rw [hrow, List.getElem?_take, if_pos (by omega), hbits (by omega)]
    have hbt := bit_test ⟨(s.getD (i.toNat / 8) 0).toNat, UInt8.toNat_lt _⟩ ⟨i.toNat % 8, Nat.mod_lt _ (by decide)⟩
    rw [Int.toNat_natCast]
    dsimp only at hbt
    rw [hbt]
    refine (Own.put_in (n := 1) (t := TV.bool (bitAt (s.getD (i.toNat / 8) 0) (i.toNat % 8))) o1 i0 (by unfold rowTo; rw [List.length_map, List.length_append, List.length_take, List.length_replicate]; omega) rfl rfl fun h2 o2 f2 s2 => ?_).2.2
    rw [wrap_i64 (n := i + 1) (by omega) (by omega)]
    refine ⟨⟨by omega, by omega, Only.cut x1 f2 fun j ⟨l, hl, hj⟩ => by obtain rfl := Option.some.inj hl; rw [← hj]; exact Nat.le_refl _, ?_⟩, by first | omega | (dsimp only; omega)⟩
    rw [show (i + 1).toNat = i.toNat + 1 by omega, ← rowTo_set hx (by omega)]
    have : bools ((rowTo row n i.toNat).set i.toNat (bitAt (s.getD (i.toNat / 8) 0) (i.toNat % 8))) = (bools (rowTo row n i.toNat)).set i.toNat (TV.bool (bitAt (s.getD (i.toNat / 8) 0) (i.toNat % 8))) := List.map_set
    rw [this]
    exact o2
  · have hin : i.toNat = n := by omega
    have hall : rowTo row n i.toNat = row := by unfold rowTo; rw [hin, Nat.sub_self, List.take_of_length_le (by omega)]; simp
    rw [hall] at o1
    exact hy row hh _ hg o1 x1 fun l hl => by obtain rfl := Option.some.inj hl; exact Nat.le_refl _

end
end Go.Proofs.YtennbinbffdimaaGreat.Board
end

section
/- The program's way from bytes to a message; its name. -/
namespace Go.Proofs.YtennbinbffdimaaGreat.Board
open Go Go.Vc

theorem rdB_sum {r : List UInt8} {sh : Bool} {n : Int} (h : (rdB r sh n).2.2 = false) : sh = false ∧ 0 ≤ n ∧ ((rdB r sh n).2.1.length : Int) + n = r.length := by
  unfold rdB at h ⊢
  split at h
  · cases h
  · rename_i hc
    rw [if_neg hc]
    refine ⟨h, by omega, ?_⟩
    rw [List.length_drop]
    omega

theorem rdB_true {r : List UInt8} {sh : Bool} {n : Int} (h : (rdB r sh n).2.2 = true) : rdB r sh n = ([], [], true) := by
  unfold rdB at h ⊢
  split at h
  · rename_i hc; rw [if_pos hc]
  · rename_i hc; exact absurd (.inl h) hc

theorem rdB_at {s : List UInt8} {a n : Nat} (h : a + n ≤ s.length) : rdB (s.drop a) false (n : Int) = ((s.drop a).take n, s.drop (a + n), false) := by
  rw [rdB_ok (by rw [List.length_drop]; omega), List.drop_drop]

theorem rdB_short (n : Int) : rdB [] true n = ([], [], true) := if_pos (.inl rfl)

theorem num_one {s : List UInt8} (h : 0 < s.length) : num (s.take 1) = (s.getD 0 0).toNat := by
  cases s with
  | nil => cases h
  | cons c s => simp [num]

theorem chk_kind {d : Dm} (h : ¬ (d.kind = 1 ∨ d.kind = 2 ∨ d.kind = 3)) : chk d = none := by
  unfold chk
  split
  · rename_i hg; exact absurd (good_kind hg) h
  · rfl

theorem dec_short {s : List UInt8} (h : s.length < 53) : decF s = none := by
  unfold decF; rw [if_pos h]

section
variable {s : List UInt8}

theorem dec_one (hl : 37 ≤ s.length) (h1 : s.getD 0 0 = 1) : decF s = if s.length = 63 then chk ⟨1, (num ((s.drop 1).take 4) : Nat), bsOf 32 ((s.drop 5).take 32), (num ((s.drop 37).take 2) : Nat), (num ((s.drop 39).take 8) : Nat), [], bsOf 16 (s.drop 47)⟩ else none := by
  unfold decF
  by_cases h53 : s.length < 53
  · rw [if_pos h53, if_neg (by omega)]
  · rw [if_neg h53, if_pos h1]

theorem dec_two (hl : 37 ≤ s.length) (h1 : s.getD 0 0 = 2) : decF s = if s.length = 55 then chk ⟨2, (num ((s.drop 1).take 4) : Nat), bsOf 32 ((s.drop 5).take 32), (num ((s.drop 37).take 2) : Nat), 0, [], bsOf 16 (s.drop 39)⟩ else none := by
  unfold decF
  by_cases h53 : s.length < 53
  · rw [if_pos h53, if_neg (by omega)]
  · rw [if_neg h53, if_neg (by rw [h1]; decide), if_pos h1]

theorem dec_three (hl : 53 ≤ s.length) (h1 : s.getD 0 0 = 3) : decF s = match getF ((s.drop 37).take (s.length - 53)) 16 with
    | none => none
    | some row => chk ⟨3, (num ((s.drop 1).take 4) : Nat), bsOf 32 ((s.drop 5).take 32), 0, 0, row, bsOf 16 (s.drop (s.length - 16))⟩ := by
  unfold decF
  rw [if_neg (by omega), if_neg (by rw [h1]; decide), if_neg (by rw [h1]; decide), if_pos h1]
  all_goals rfl

theorem dec_other (h1 : s.getD 0 0 ≠ 1) (h2 : s.getD 0 0 ≠ 2) (h3 : s.getD 0 0 ≠ 3) : decF s = none := by
  unfold decF
  by_cases h53 : s.length < 53
  · rw [if_pos h53]
  · rw [if_neg h53, if_neg h1, if_neg h2, if_neg h3]
end

section
variable {R : Value → Heap → Prop} {h : Heap}

/-- While bytes are read: the reader, the message so far, and the answer's place. -/
structure DS (h hh : Heap) (q mb : Nat) (r : List UInt8) (sh : Bool) (m : Ms) : Prop where
  rd : Rd hh q r sh
  msg : Var 58 hh mb m.tv
  ans : Var 58 hh h.size zeroM.tv
  only : Only (fun i => h.size ≤ i) h hh
  q0 : h.size < q
  m0 : q < mb

section
variable {hh : Heap} {q mb : Nat} {r : List UInt8} {sh : Bool} {m : Ms}

theorem DS.ext (d : DS h hh q mb r sh m) : Ext h hh := Only.cut (Ext.refl h) d.only fun _ hi => hi
theorem DS.more {h' : Heap} (d : DS h hh q mb r sh m) (x : Ext hh h') : DS h h' q mb r sh m := ⟨Var.ext d.rd x, d.msg.ext x, d.ans.ext x, d.only.trans (Only.of_ext x), d.q0, d.m0⟩
theorem DS.read {h' : Heap} {r' : List UInt8} {sh' : Bool} (d : DS h hh q mb r sh m) (v : Rd h' q r' sh') (f : Only (· = q) hh h') : DS h h' q mb r' sh' m :=
  ⟨v, d.msg.only f (by have := d.m0; omega), d.ans.only f (by have := d.q0; omega), d.only.trans (f.mono fun i hi => by have := d.q0; omega), d.q0, d.m0⟩
theorem DS.write {h' : Heap} {m' : Ms} (d : DS h hh q mb r sh m) (v : Var 58 h' mb m'.tv) (f : Only (· = mb) hh h') : DS h h' q mb r sh m' :=
  ⟨Var.only d.rd f (by have := d.m0; omega), v, d.ans.only f (by have := d.m0; have := d.q0; omega), d.only.trans (f.mono fun i hi => by have := d.q0; have := d.m0; omega), d.q0, d.m0⟩
end

set_option maxHeartbeats 1000000 in
set_option maxRecDepth 100000 in
theorem decode_spec {s : List UInt8} (hs : s.length < 100000) (hn : decF s = none → ∀ h', Ext h h' → R (TV.tup [zeroM.tv, .bool false]).val h')
    (hy : ∀ d h' b, decF s = some d → Elems 1 h' b (bools d.row) → Ext h h' → (∀ l, b.a = some l → h.size ≤ l.b ∧ l.b < h'.size) → R (TV.tup [(d.ms b).tv, .bool true]).val h') : CallsH Tryz.prog 169 (TVs.vals [.str s]) h R := by
  apply wire_Decode_calls
  unfold wire_Decode_vc
  refine newTV_in fun h1 v1 x1 s1 => from_spec fun h2 r2 x2 s2 => ⟨_, rfl, ?_⟩
  have v1 : Var 58 h1 h.size zeroM.tv := v1
  refine ruint_spec r2 (by decide) fun h3 r3 f3 => ⟨_, rfl, ruint_spec r3 (by decide) fun h4 r4 f4 => ⟨_, rfl, ?_⟩⟩
  obtain ⟨K, hK⟩ : ∃ K, K = IntKind.wrap .i64 ((num (rdB s false 1).1 : Nat) : Int) := ⟨_, rfl⟩
  obtain ⟨S, hS⟩ : ∃ S, S = IntKind.wrap .i64 ((num (rdB (rdB s false 1).2.1 (rdB s false 1).2.2 4).1 : Nat) : Int) := ⟨_, rfl⟩
  rw [← hK, ← hS]
  have z34 := (f3.trans f4).size
  refine newTV_in fun h5 v5 x5 s5 => put_n (t0 := zeroM.tv) v5 (t := (Ms.mk K S (Bs.zero 32) 0 0 Sl.nil (Bs.zero 16)).tv) mssz1 mssz fun h6 v6 f6 s6 => ?_
  have x46 : Ext h4 h6 := Only.cut x5 f6 fun i hi => by omega
  have d6 : DS h h6 h1.size h4.size _ _ (Ms.mk K S (Bs.zero 32) 0 0 Sl.nil (Bs.zero 16)) := ⟨Var.ext r4 x46, v6, (((v1.ext x2).only f3 (by omega)).only f4 (by omega)).ext x46,
    (((Only.of_ext (x1.trans x2)).trans ((f3.trans f4).mono fun i hi => by omega)).trans (Only.of_ext x46)), by omega, by omega⟩
  refine rbytes_spec d6.rd fun h7 r7 f7 => ⟨_, rfl, (fun hx => by cases hx), fun l hl => ?_⟩
  obtain rfl : Vc.Loc.mk h4.size 2 = l := Option.some.inj hl
  have d7 := d6.read r7 f7
  obtain ⟨A, hA⟩ : ∃ A, A = rdB (rdB (rdB s false 1).2.1 (rdB s false 1).2.2 4).2.1 (rdB (rdB s false 1).2.1 (rdB s false 1).2.2 4).2.2 32 := ⟨_, rfl⟩
  rw [← hA] at d7 ⊢
  refine bytes_copy (i := 2) d7.msg rfl rfl (by rw [hA]; exact rdB_len) fun h8 v8 f8 s8 => ?_
  have d8 : DS h h8 h1.size h4.size A.2.1 A.2.2 (Ms.mk K S (bsOf 32 A.1) 0 0 Sl.nil (Bs.zero 16)) := d7.write v8 f8
  generalize h1.size = q at *
  generalize h4.size = mb at *
  -- the answer when there is none
  have no : ∀ hh r sh m, DS h hh q mb r sh m → decF s = none → wok hh h.size 0 53 ∧ Bind (TV.put hh h.size 0 zeroM.tv) fun (h_2 : Heap) =>
      ∃ (n : Int), ∃ (n_1 : Int), ∃ (b_ : Bs 32), ∃ (n_2 : Int), ∃ (n_3 : Int), ∃ (s : Sl), ∃ (b_1 : Bs 16), (at1 h_2 h.size 0 (.int .i64 n) ∧ at1 h_2 h.size 1 (.int .i64 n_1) ∧ atBytes h_2 h.size 2 32 b_ ∧ at1 h_2 h.size 34 (.int .i64 n_2) ∧ at1 h_2 h.size 35 (.int .u64 n_3) ∧ at1 h_2 h.size 36 (slVal s) ∧ atBytes h_2 h.size 37 16 b_1) ∧
        R (TV.tup [.agg [.int .i64 n, .int .i64 n_1, .bytes 32 b_, .int .i64 n_2, .int .u64 n_3, .slice s, .bytes 16 b_1], .bool false]).val h_2 := by
    intro hh r sh m d hd
    refine put_n (t := zeroM.tv) d.ans mssz1 mssz fun h9 v9 f9 s9 => ms_at v9 ?_
    exact hn hd h9 (Only.cut d.ext f9 fun i hi => by omega)
  intro J HJ
  have fin : ∀ hh r sh m row, DS h hh q mb r sh m → m.tag = Bs.zero 16 → Elems 1 hh m.bits (bools row) → row.length < 100000 → (∀ l, m.bits.a = some l → l.b ≠ q ∧ l.b ≠ mb ∧ l.b ≠ h.size ∧ h.size ≤ l.b ∧ l.b < hh.size) → (sh = true ∨ r.length ≠ 16 → decF s = none) →
      (sh = false → r.length = 16 → decF s = chk ⟨m.kind, m.slot, m.target, m.member, m.body, row, bsOf 16 r⟩) → J false hh := by
    intro hh r sh m row d hz e hrl hloc hb hg
    refine HJ false hh ?_
    refine rbytes_spec d.rd fun h9 r9 f9 => ⟨_, rfl, (fun hx => by cases hx), fun l hl => ?_⟩
    obtain rfl : Vc.Loc.mk mb 37 = l := Option.some.inj hl
    have d9 := d.read r9 f9
    refine bytes_copy (i := 6) d9.msg (by rw [hz]; rfl) rfl rdB_len fun h10 v10 f10 s10 => ?_
    have d10 : DS h h10 q mb _ _ { m with tag := bsOf 16 (rdB r sh 16).1 } := d9.write v10 f10
    refine rend_spec d10.rd ⟨_, rfl, ?_⟩
    have e10 : Elems 1 h10 m.bits (bools row) := (e.only f9 fun l hl => (hloc l hl).1).only f10 fun l hl => (hloc l hl).2.1
    by_cases hc : sh = true ∨ r.length ≠ 16
    · have hend : (!(rdB r sh 16).2.2 && decide ((rdB r sh 16).2.1 = [])) = false := by
        cases hsh : (rdB r sh 16).2.2 with
        | true => rfl
        | false =>
          obtain ⟨h1', _, h3'⟩ := rdB_sum hsh
          have : (rdB r sh 16).2.1 ≠ [] := fun he => by
            rw [he] at h3'
            rcases hc with hc | hc
            · rw [h1'] at hc; cases hc
            · apply hc
              simp at h3'
              omega
          rw [decide_eq_false this]; rfl
      rw [hend]
      exact If.yes (no h10 _ _ _ d10 (hb hc))
    · have hsh : sh = false := by cases sh with
        | true => exact absurd (.inl rfl) hc
        | false => rfl
      have hl16 : r.length = 16 := Classical.byContradiction fun h => hc (.inr h)
      have hrd : rdB r sh 16 = (r.take 16, r.drop 16, false) := by rw [hsh]; exact rdB_ok (n := 16) (by omega)
      have hdec := hg hsh hl16
      rw [hrd] at d10 ⊢
      rw [List.take_of_length_le (by omega : r.length ≤ 16)] at d10
      have hend : (!false && decide (r.drop 16 = [])) = true := by rw [List.drop_of_length_le (by omega)]; rfl
      dsimp only
      rw [hend]
      refine If.no (ms_at d10.msg ?_)
      refine mgood_spec (m := { m with tag := bsOf 16 r }) (row := row) e10 hrl fun h11 x11 => ⟨_, rfl, ?_⟩
      have d11 := d10.more x11
      unfold chk at hdec
      have hgm : goodF { m with tag := bsOf 16 r } row = goodF ((Dm.mk m.kind m.slot m.target m.member m.body row (bsOf 16 r)).ms Sl.nil) row := rfl
      rw [hgm]
      cases hgood : goodF ((Dm.mk m.kind m.slot m.target m.member m.body row (bsOf 16 r)).ms Sl.nil) row with
      | false =>
        refine If.yes (no h11 _ _ _ d11 ?_)
        rw [hdec, if_neg]
        show ¬ goodF _ row = true
        rw [hgood]
        decide
      | true =>
        refine If.no (ms_at d11.msg ?_)
        refine put_n d11.ans (t := ({ m with tag := bsOf 16 r } : Ms).tv) mssz1 mssz fun h12 v12 f12 s12 => ms_at v12 ?_
        have hd : decF s = some (Dm.mk m.kind m.slot m.target m.member m.body row (bsOf 16 r)) := by rw [hdec]; exact if_pos hgood
        have x12 : Ext h h12 := Only.cut d11.ext f12 fun i hi => by omega
        have e12 : Elems 1 h12 m.bits (bools row) := (e10.ext x11).only f12 fun l hl => (hloc l hl).2.2.1
        exact hy _ h12 m.bits hd e12 x12 fun l hl => by
          have g := hloc l hl
          have g1 := f9.size
          have g2 := f10.size
          have g3 := x11.size
          have g4 := f12.size
          exact ⟨g.2.2.2.1, by omega⟩
  have no2 := no
  clear HJ no
  have hlong : 37 ≤ s.length → A = ((s.drop 5).take 32, s.drop 37, false) ∧ K = ((s.getD 0 0).toNat : Int) ∧ S = ((num ((s.drop 1).take 4) : Nat) : Int) := by
    intro hl
    have e1 : rdB s false 1 = (s.take 1, s.drop 1, false) := rdB_ok (n := 1) (by omega)
    have e2 : rdB (s.drop 1) false 4 = ((s.drop 1).take 4, s.drop 5, false) := rdB_at (a := 1) (n := 4) (by omega)
    have e3 : rdB (s.drop 5) false 32 = ((s.drop 5).take 32, s.drop 37, false) := rdB_at (a := 5) (n := 32) (by omega)
    refine ⟨by rw [hA, e1, e2, e3], ?_, ?_⟩
    · rw [hK, e1]
      dsimp only
      have := (s.getD 0 0).toNat_lt
      rw [num_one (by omega), wrap_i64 (by omega) (by omega)]
    · rw [hS, e1]
      dsimp only
      rw [e2]
      dsimp only
      have h1' := num_lt ((s.drop 1).take 4)
      have h2' : ((s.drop 1).take 4).length ≤ 4 := by rw [List.length_take]; omega
      have h3' : 256 ^ ((s.drop 1).take 4).length ≤ 256 ^ 4 := Nat.pow_le_pow_right (by decide) h2'
      have h4' : 256 ^ 4 = 4294967296 := by decide
      rw [wrap_i64 (by omega) (by omega)]
  have hshort : ¬ 37 ≤ s.length → A = ([], [], true) := by
    intro hl
    cases hsh : A.2.2 with
    | true => rw [hA] at hsh ⊢; exact rdB_true hsh
    | false =>
      exfalso
      rw [hA] at hsh
      obtain ⟨g1, _, g2⟩ := rdB_sum hsh
      obtain ⟨g3, _, g4⟩ := rdB_sum g1
      obtain ⟨g5, _, g6⟩ := rdB_sum g3
      omega
  have hlen : A.2.2 = false → 37 ≤ s.length ∧ A.2.1 = s.drop 37 := by
    intro hsh
    by_cases hl : 37 ≤ s.length
    · exact ⟨hl, by rw [(hlong hl).1]⟩
    · rw [hshort hl] at hsh; cases hsh
  have w2 : ∀ (l : List UInt8), l.length ≤ 2 → IntKind.wrap .i64 ((num l : Nat) : Int) = ((num l : Nat) : Int) := by
    intro l hl
    have h1' := num_lt l
    have h3' : 256 ^ l.length ≤ 256 ^ 2 := Nat.pow_le_pow_right (by decide) hl
    rw [wrap_i64 (by omega) (by omega)]
  have hc0 : ∀ c : UInt8, 37 ≤ s.length → K = (c.toNat : Int) → s.getD 0 0 = c := by
    intro c hl hk
    have := (hlong hl).2.1
    exact UInt8.toNat_inj.1 (by omega)
  refine ⟨K, d8.msg.at1 rfl, If.dec.2 ⟨fun k1 => ?_, fun k1 => If.dec.2 ⟨fun k2 => ?_, fun k2 => If.dec.2 ⟨fun k3 => ?_, fun k3 => ?_⟩⟩⟩⟩
  · refine ruint_spec d8.rd (by decide) fun h9 r9 f9 => ⟨_, rfl, ?_⟩
    have d9 := d8.read r9 f9
    refine ruint_spec d9.rd (by decide) fun h10 r10 f10 => ⟨_, rfl, ?_⟩
    have d10 := d9.read r10 f10
    refine field_in (i := 3) (t := .int .i64 (IntKind.wrap .i64 ((num (rdB A.2.1 A.2.2 2).1 : Nat) : Int))) (t0 := .int .i64 0) d10.msg rfl rfl rfl rfl fun h11 v11 f11 s11 => ?_
    refine field_in (i := 4) (t := .int .u64 ((num (rdB (rdB A.2.1 A.2.2 2).2.1 (rdB A.2.1 A.2.2 2).2.2 8).1 : Nat) : Int)) (t0 := .int .u64 0) v11 rfl rfl rfl rfl fun h12 v12 f12 s12 => ?_
    have d12 : DS h h12 q mb _ _ (Ms.mk K S (bsOf 32 A.1) (IntKind.wrap .i64 ((num (rdB A.2.1 A.2.2 2).1 : Nat) : Int)) ((num (rdB (rdB A.2.1 A.2.2 2).2.1 (rdB A.2.1 A.2.2 2).2.2 8).1 : Nat) : Int) Sl.nil (Bs.zero 16)) := d10.write v12 (f11.trans f12)
    have good : s.length = 63 → rdB A.2.1 A.2.2 2 = ((s.drop 37).take 2, s.drop 39, false) ∧ rdB (rdB A.2.1 A.2.2 2).2.1 (rdB A.2.1 A.2.2 2).2.2 8 = ((s.drop 39).take 8, s.drop 47, false) := by
      intro hl
      have e0 := (hlong (by omega)).1
      have e1 : rdB (s.drop 37) false 2 = ((s.drop 37).take 2, s.drop 39, false) := rdB_at (a := 37) (n := 2) (by omega)
      have e2 : rdB (s.drop 39) false 8 = ((s.drop 39).take 8, s.drop 47, false) := rdB_at (a := 39) (n := 8) (by omega)
      rw [e0]
      dsimp only
      rw [e1]
      exact ⟨rfl, e2⟩
    refine fin h12 _ _ _ [] d12 rfl (Elems.nil_ 1 h12) (by decide) (fun l hl => by cases hl) (fun hb => ?_) fun hsh hl16 => ?_
    · by_cases hl : 37 ≤ s.length
      · rw [dec_one hl (hc0 1 hl k1)]
        by_cases h63 : s.length = 63
        · exfalso
          rw [(good h63).2] at hb
          rcases hb with hb | hb
          · cases hb
          · apply hb
            dsimp only
            rw [List.length_drop]; omega
        · rw [if_neg h63]
      · exact dec_short (by omega)
    · obtain ⟨g1, _, g2⟩ := rdB_sum hsh
      obtain ⟨g3, _, g4⟩ := rdB_sum g1
      obtain ⟨g5, g6⟩ := hlen g3
      have g7 : A.2.1.length = s.length - 37 := by rw [g6, List.length_drop]
      have h63 : s.length = 63 := by omega
      obtain ⟨e0, _, eS⟩ := hlong g5
      rw [dec_one g5 (hc0 1 g5 k1), if_pos h63, (good h63).2, (good h63).1, e0, eS, k1]
      dsimp only
      rw [w2 _ (by rw [List.length_take]; omega)]
  · refine ruint_spec d8.rd (by decide) fun h9 r9 f9 => ⟨_, rfl, ?_⟩
    have d9 := d8.read r9 f9
    refine field_in (i := 3) (t := .int .i64 (IntKind.wrap .i64 ((num (rdB A.2.1 A.2.2 2).1 : Nat) : Int))) (t0 := .int .i64 0) d9.msg rfl rfl rfl rfl fun h11 v11 f11 s11 => ?_
    have d12 : DS h h11 q mb _ _ (Ms.mk K S (bsOf 32 A.1) (IntKind.wrap .i64 ((num (rdB A.2.1 A.2.2 2).1 : Nat) : Int)) 0 Sl.nil (Bs.zero 16)) := d9.write v11 f11
    have good : s.length = 55 → rdB A.2.1 A.2.2 2 = ((s.drop 37).take 2, s.drop 39, false) := by
      intro hl
      have e0 := (hlong (by omega)).1
      have e1 : rdB (s.drop 37) false 2 = ((s.drop 37).take 2, s.drop 39, false) := rdB_at (a := 37) (n := 2) (by omega)
      rw [e0]
      exact e1
    refine fin h11 _ _ _ [] d12 rfl (Elems.nil_ 1 h11) (by decide) (fun l hl => by cases hl) (fun hb => ?_) fun hsh hl16 => ?_
    · by_cases hl : 37 ≤ s.length
      · rw [dec_two hl (hc0 2 hl k2)]
        by_cases h63 : s.length = 55
        · exfalso
          rw [good h63] at hb
          rcases hb with hb | hb
          · cases hb
          · apply hb
            dsimp only
            rw [List.length_drop]; omega
        · rw [if_neg h63]
      · exact dec_short (by omega)
    · obtain ⟨g1, _, g2⟩ := rdB_sum hsh
      obtain ⟨g5, g6⟩ := hlen g1
      have g7 : A.2.1.length = s.length - 37 := by rw [g6, List.length_drop]
      have h63 : s.length = 55 := by omega
      obtain ⟨e0, _, eS⟩ := hlong g5
      rw [dec_two g5 (hc0 2 g5 k2), if_pos h63, good h63, e0, eS, k2]
      dsimp only
      rw [w2 _ (by rw [List.length_take]; omega)]
  · refine left_spec d8.rd ⟨_, rfl, rbytes_spec d8.rd fun h9 r9 f9 => ⟨_, rfl, ?_⟩⟩
    have d9 := d8.read r9 f9
    have hAl : A.2.1.length ≤ s.length := by
      by_cases hl : 37 ≤ s.length
      · rw [(hlong hl).1]; dsimp only; rw [List.length_drop]; omega
      · rw [hshort hl]; exact Nat.zero_le _
    rw [wrap_i64 (by omega) (by omega)] at d9 ⊢
    obtain ⟨B, hB⟩ : ∃ B, B = rdB A.2.1 A.2.2 ((A.2.1.length : Int) - 16) := ⟨_, rfl⟩
    rw [← hB] at d9 ⊢
    have good : 53 ≤ s.length → B = ((s.drop 37).take (s.length - 53), s.drop (s.length - 16), false) := by
      intro hl
      have e0 := (hlong (by omega)).1
      rw [hB, e0]
      dsimp only
      have e1 : (((s.drop 37).length : Nat) : Int) - 16 = ((s.length - 53 : Nat) : Int) := by rw [List.length_drop]; omega
      rw [e1, rdB_at (a := 37) (n := s.length - 53) (by omega), show 37 + (s.length - 53) = s.length - 16 by omega]
    have short : ¬ 53 ≤ s.length → B.1 = [] := by
      intro hl
      by_cases h37 : 37 ≤ s.length
      · have e0 := (hlong h37).1
        rw [hB, e0]
        dsimp only
        rw [rdB_bad (.inr (.inl (by rw [List.length_drop]; omega)))]
      · rw [hB, hshort h37]
        dsimp only
        rw [rdB_short]
    have hBl : B.1.length < 100000 := by
      by_cases hl : 53 ≤ s.length
      · rw [good hl]; dsimp only; rw [List.length_take, List.length_drop]; omega
      · rw [short hl]; decide
    have hz8 := d9.msg.lt
    refine bget_spec hBl (fun hno => ⟨_, _, rfl, If.yes (no2 h9 _ _ _ d9 ?_)⟩) fun row h10 t hrow o10 x10 loc10 => ⟨_, _, rfl, If.no ?_⟩
    · by_cases hl : 53 ≤ s.length
      · rw [dec_three hl (hc0 3 (by omega) k3)]
        rw [good hl] at hno
        dsimp only at hno
        rw [hno]
      · exact dec_short (by omega)
    · have d10 := d9.more x10
      refine field_in (i := 5) (t := .slice t) (t0 := .slice Sl.nil) d10.msg rfl rfl rfl rfl fun h11 v11 f11 s11 => ?_
      have d11 : DS h h11 q mb _ _ (Ms.mk K S (bsOf 32 A.1) 0 0 t (Bs.zero 16)) := d10.write v11 f11
      have h53 : 53 ≤ s.length := by
        apply Classical.byContradiction
        intro hl
        rw [short hl] at hrow
        cases hrow
      have hB2 := good h53
      obtain ⟨e0, _, eS⟩ := hlong (by omega)
      have hq := d9.m0
      have hq0 := d9.q0
      have hrl : row.length ≤ 16 := by
        unfold getF at hrow
        split at hrow
        · cases hrow
        · split at hrow
          · cases hrow
          · rw [← Option.some.inj hrow, List.length_take]; omega
      rw [hB2] at hrow d11
      dsimp only at hrow
      have hdec : decF s = chk ⟨3, ((num ((s.drop 1).take 4) : Nat) : Int), bsOf 32 ((s.drop 5).take 32), 0, 0, row, bsOf 16 (s.drop (s.length - 16))⟩ := by
        rw [dec_three h53 (hc0 3 (by omega) k3), hrow]
      refine fin h11 _ _ _ row d11 rfl (o10.elems.only f11 fun l hl => by have := loc10 l hl; omega) (by omega) (fun l hl => by have := loc10 l hl; have := o10.lt l hl; have := f11.size; omega) (fun hb => ?_) fun hsh hl16 => ?_
      · exfalso
        rcases hb with hb | hb
        · cases hb
        · apply hb
          dsimp only
          rw [List.length_drop]; omega
      · rw [hdec, e0, eS, k3]
  · refine fin h8 _ _ _ [] d8 rfl (Elems.nil_ 1 h8) (by decide) (fun l hl => by cases hl) (fun hb => ?_) fun hsh hl16 => ?_
    all_goals
      have hno : decF s = none := by
        by_cases hl : 37 ≤ s.length
        · have hk := (hlong hl).2.1
          refine dec_other (fun h1 => k1 ?_) (fun h1 => k2 ?_) (fun h1 => k3 ?_) <;> rw [hk, h1] <;> rfl
        · exact dec_short (by omega)
    · exact hno
    · rw [hno, chk_kind]
      rintro (h1 | h1 | h1)
      · exact k1 h1
      · exact k2 h1
      · exact k3 h1

end
end Go.Proofs.YtennbinbffdimaaGreat.Board
end

section
/- A message's name; the document's reader, rows, bytes, names. -/
namespace Go.Proofs.YtennbinbffdimaaGreat.Board
open Go Go.Vc

def nameF (m : Ms) (row : List Bool) : Bs 32 := docF (plainF m row ++ m.tag.l)

section
variable {R : Value → Heap → Prop} {h : Heap} {b : Nat}

theorem str_field {o n c : Nat} {x : Bs n} (a : atBytes h b o n x) : strAt h ⟨some ⟨b, o⟩, n, c⟩ x.l := by
  refine ⟨x.h, .inr ⟨⟨b, o⟩, rfl, fun j hj => ?_⟩⟩
  have := a j (by rw [← x.h]; exact hj)
  rw [List.getD_eq_getElem?_getD, List.getElem?_eq_getElem hj] at this
  exact this

theorem mroot_spec {m : Ms} {row : List Bool} (e : Elems 1 h m.bits (bools row)) (hl : row.length < 500) (hr : ∀ h', Ext h h' → R (TV.bytes 32 (nameF m row)).val h') : CallsH Tryz.prog 208 (TVs.vals [m.tv]) h R := by
  apply wire_Root_calls m.kind m.slot m.target m.member m.body m.bits m.tag
  unfold wire_Root_vc
  refine newTV_in fun h1 v1 x1 s1 => newTV_in fun h2 v2 x2 s2 => ?_
  have v1 : Var 58 h2 h.size m.tv := Var.ext (t := m.tv) v1 x2
  have x02 := x1.trans x2
  refine ms_at v1 ⟨m.tag.l, str_field v1.at.2.2.2.2.2.2, ?_⟩
  refine plain_spec (e.ext x02) hl fun h3 x3 => ⟨_, rfl, x3, ?_⟩
  have hpl := plainF_len m row
  have hf : [plainF m row, m.tag.l].flatten = plainF m row ++ m.tag.l := by simp
  refine of2_spec (ts := [plainF m row, m.tag.l]) (strs_elems (T := 9) h3 [plainF m row, m.tag.l]) (by rw [hf, List.length_append, m.tag.h]; omega) (by show 2 < _; decide) fun h4 x4 => ⟨_, rfl, ?_⟩
  have x24 := x3.trans ((Ext.push _ _).trans x4)
  rw [hf]
  refine put_n (v2.ext x24) (t := .bytes 32 (nameF m row)) rfl bsz fun h5 v5 f5 s5 => ⟨_, v5.bytes, ?_⟩
  exact hr h5 (Only.cut (x02.trans x24) f5 fun i hi => by omega)

/-! ### The document's reader -/

end
end Go.Proofs.YtennbinbffdimaaGreat.Board
end

section
/- The document's way from bytes to a message. -/
namespace Go.Proofs.YtennbinbffdimaaGreat.Board
open Go Go.Vc

section
variable {R : Value → Heap → Prop} {h : Heap}

/-! ### Messages -/

section
variable {hh : Heap} {q mb : Nat} {s : List UInt8} {at_ : Nat} {sh : Bool} {m : Ms}

end

end
end Go.Proofs.YtennbinbffdimaaGreat.Board
end

section
/- Blocks and votes that wait, in the program: New, Has, Len, Put. -/
namespace Go.Proofs.YtennbinbffdimaaGreat.Pool
open Go Go.Vc
open Board (Dm Ms decF nameF zeroM ms_at put_n mssz mssz1 decode_spec mroot_spec bsz bools dec_good)

/-- A message as an item. -/
def itemOf (d : Dm) (peer : Int) (text : List UInt8) : It := ⟨d.slot, nameF (d.ms Sl.nil) d.row, peer, d.target, text⟩

/-- What Put answers, the name of what gives way, and the items behind it. -/
def putW (want : Int → Bool) (most quota peer : Int) (text : List UInt8) (S : List It) : Int × Bs 32 × List It :=
  match decF text with
  | none => (5, Bs.zero 32, S)
  | some d => if want d.kind = true then ((putS most quota (itemOf d peer text) S).1, (putS most quota (itemOf d peer text) S).2.1.root, (putS most quota (itemOf d peer text) S).2.2) else (5, Bs.zero 32, S)

theorem putW_none {want : Int → Bool} {most quota peer : Int} {text : List UInt8} {S : List It} (h : decF text = none) : putW want most quota peer text S = (5, Bs.zero 32, S) := by
  unfold putW; rw [h]
theorem putW_no {want : Int → Bool} {most quota peer : Int} {text : List UInt8} {S : List It} {d : Dm} (h : decF text = some d) (hw : want d.kind = false) : putW want most quota peer text S = (5, Bs.zero 32, S) := by
  unfold putW; rw [h]; simp only; rw [if_neg (by rw [hw]; decide)]
theorem putW_yes {want : Int → Bool} {most quota peer : Int} {text : List UInt8} {S : List It} {d : Dm} (h : decF text = some d) (hw : want d.kind = true) :
    putW want most quota peer text S = ((putS most quota (itemOf d peer text) S).1, (putS most quota (itemOf d peer text) S).2.1.root, (putS most quota (itemOf d peer text) S).2.2) := by
  unfold putW; rw [h]; simp only; rw [if_pos hw]

theorem dm_row {text : List UInt8} {d : Dm} (h : decF text = some d) : d.row.length < 500 := by
  have hg := dec_good h
  unfold Board.goodF at hg
  simp only [Bool.and_eq_true] at hg
  have h2 := hg.2
  split at h2
  · simp only [Bool.and_eq_true, decide_eq_true_eq] at h2; omega
  · simp only [Bool.and_eq_true, decide_eq_true_eq] at h2; omega

section
variable {R : Value → Heap → Prop} {h : Heap} {o b : Nat} {A : Sl} {S : List It} {most quota : Int} {T : TypeId}

/-- What waits, in memory: a pointer to a pool. -/
structure WL (T : TypeId) (h : Heap) (o b : Nat) (A : Sl) (S : List It) (most quota : Int) : Prop where
  var : Var T h o (.agg [.ptr (some ⟨b, 0⟩)])
  pl : PL h b A S most quota
  apart : ¬ Mine b A o

theorem WL.ext {h' : Heap} (w : WL T h o b A S most quota) (x : Ext h h') : WL T h' o b A S most quota := ⟨w.var.ext x, w.pl.ext x, w.apart⟩
theorem WL.only {h' : Heap} {Q : Nat → Prop} (w : WL T h o b A S most quota) (f : Only Q h h') (h1 : ¬ Q o) (h2 : ∀ i, Mine b A i → ¬ Q i) : WL T h' o b A S most quota := ⟨w.var.only f h1, w.pl.only f h2, w.apart⟩
theorem WL.grown {h' : Heap} {A' : Sl} {S' : List It} (w : WL T h o b A S most quota) (p : PL h' b A' S' most quota) (g : Grown b A h A' h') : WL T h' o b A' S' most quota :=
  ⟨w.var.only g.only w.apart, p, fun hx => by
    rcases g.new o hx with h1 | h1
    · exact w.apart h1
    · have := w.var.lt; omega⟩

def Ok64 (most quota : Int) : Prop := 1 ≤ most ∧ most ≤ 64 ∧ 1 ≤ quota ∧ quota ≤ 64

theorem onew_spec {q : Int} (hr0 : ¬ Ok64 most q → R (TV.ptr none).val h) (hr1 : Ok64 most q → ∀ h', WL 172 h' (h.size + 1) h.size Sl.nil [] most q → Ext h h' → h'.size = h.size + 2 → R (TV.ptr (some ⟨h.size + 1, 0⟩)).val h') :
    CallsH Tryz.prog 76 (TVs.vals [.int .i64 most, .int .i64 q]) h R := by
  apply orphans_New_calls
  unfold orphans_New_vc
  refine new_spec (fun hn => ⟨_, rfl, If.yes (hr0 hn)⟩) fun hy h1 p1 x1 s1 => ⟨_, rfl, If.no (newTV_in fun h2 v2 x2 s2 => ?_)⟩
  rw [s1] at v2
  have := hr1 hy h2 ⟨v2, p1.ext x2, fun hx => by have := p1.lt hx; omega⟩ (x1.trans x2) (by omega)
  rw [s1]
  exact this

theorem enew_spec {q : Int} (hr0 : ¬ Ok64 most q → R (TV.ptr none).val h) (hr1 : Ok64 most q → ∀ h', WL 212 h' (h.size + 1) h.size Sl.nil [] most q → Ext h h' → h'.size = h.size + 2 → R (TV.ptr (some ⟨h.size + 1, 0⟩)).val h') :
    CallsH Tryz.prog 77 (TVs.vals [.int .i64 most, .int .i64 q]) h R := by
  apply early_New_calls
  unfold early_New_vc
  refine new_spec (fun hn => ⟨_, rfl, If.yes (hr0 hn)⟩) fun hy h1 p1 x1 s1 => ⟨_, rfl, If.no (newTV_in fun h2 v2 x2 s2 => ?_)⟩
  rw [s1] at v2
  have := hr1 hy h2 ⟨v2, p1.ext x2, fun hx => by have := p1.lt hx; omega⟩ (x1.trans x2) (by omega)
  rw [s1]
  exact this

theorem ohas_spec (w : WL 172 h o b A S most quota) {r : Bs 32} (hr : ∀ h', Ext h h' → R (TV.bool (has r S)).val h') : CallsH Tryz.prog 37 (TVs.vals [.ptr (some ⟨o, 0⟩), .bytes 32 r]) h R := by
  apply orphans_Orphans_Has_calls
  unfold orphans_Orphans_Has_vc
  refine newTV_in fun h1 v1 x1 s1 => If.yes ⟨_, (w.var.ext x1).at1 rfl, r, v1.bytes, has_spec (w.pl.ext x1) fun h2 x2 => ⟨_, rfl, hr h2 (x1.trans x2)⟩⟩

theorem ehas_spec (w : WL 212 h o b A S most quota) {r : Bs 32} (hr : ∀ h', Ext h h' → R (TV.bool (has r S)).val h') : CallsH Tryz.prog 371 (TVs.vals [.ptr (some ⟨o, 0⟩), .bytes 32 r]) h R := by
  apply early_Early_Has_calls
  unfold early_Early_Has_vc
  refine newTV_in fun h1 v1 x1 s1 => If.yes ⟨_, (w.var.ext x1).at1 rfl, r, v1.bytes, has_spec (w.pl.ext x1) fun h2 x2 => ⟨_, rfl, hr h2 (x1.trans x2)⟩⟩

theorem olen_spec (w : WL 172 h o b A S most quota) (hr : R (TV.int .i64 (S.length : Int)).val h) : CallsH Tryz.prog 83 (TVs.vals [.ptr (some ⟨o, 0⟩)]) h R := by
  apply orphans_Orphans_Len_calls
  unfold orphans_Orphans_Len_vc
  exact If.no ⟨_, w.var.at1 rfl, lenP_spec w.pl ⟨_, rfl, hr⟩⟩
theorem elen_spec (w : WL 212 h o b A S most quota) (hr : R (TV.int .i64 (S.length : Int)).val h) : CallsH Tryz.prog 84 (TVs.vals [.ptr (some ⟨o, 0⟩)]) h R := by
  apply early_Early_Len_calls
  unfold early_Early_Len_vc
  exact If.no ⟨_, w.var.at1 rfl, lenP_spec w.pl ⟨_, rfl, hr⟩⟩

set_option maxRecDepth 100000 in
theorem eput_spec (w : WL 212 h o b A S most quota) {peer : Int} {text : List UInt8} (hm : 1 ≤ most) (hmm : most ≤ 64) (hlen : (S.length : Int) ≤ most) (ht : text.length < 1000)
    (hr : ∀ h' A', WL 212 h' o b A' (putW (fun k => !decide (k = 1)) most quota peer text S).2.2 most quota → Grown b A h A' h' → R (TV.tup [.int .i64 (putW (fun k => !decide (k = 1)) most quota peer text S).1, .bytes 32 (putW (fun k => !decide (k = 1)) most quota peer text S).2.1]).val h') :
    CallsH Tryz.prog 150 (TVs.vals [.ptr (some ⟨o, 0⟩), .int .i64 peer, .str text]) h R := by
  apply early_Early_Put_calls
  unfold early_Early_Put_vc
  refine newTV_in fun h1 v1 x1 s1 => ?_
  have bad : ∀ hh, Ext h1 hh → putW (fun k => !decide (k = 1)) most quota peer text S = (5, Bs.zero 32, S) →
      wok hh h.size 0 32 ∧ Bind (TV.put hh h.size 0 (TV.bytes 32 (Bs.zero 32))) fun (h_5 : Heap) => ∃ (b : Bs 32), atBytes h_5 h.size 0 32 b ∧ R (TV.tup [.int .i64 5, .bytes 32 b]).val h_5 := by
    intro hh xx he
    refine put_n (v1.ext xx) (t := .bytes 32 (Bs.zero 32)) rfl rfl fun h5 v5 f5 s5 => ⟨_, v5.bytes, ?_⟩
    rw [he] at hr
    have x5 : Ext h h5 := Only.cut (x1.trans xx) f5 fun i hi => by omega
    exact hr h5 A (w.ext x5) (.of_ext x5)
  refine decode_spec (by omega) (fun hno h2 x2 => ?_) fun d h2 bs hd e2 x2 _ => ?_
  · refine ⟨_, _, _, _, _, _, _, _, rfl, newTV_in fun h3 v3 x3 s3 => put_n (t0 := zeroM.tv) v3 (t := zeroM.tv) mssz1 mssz fun h4 v4 f4 s4 => ?_⟩
    have x24 : Ext h2 h4 := Only.cut x3 f4 fun i hi => by omega
    intro J HJ
    exact If.no (If.yes (bad h4 (x2.trans x24) (putW_none hno)))
  refine ⟨_, _, _, _, _, _, _, _, rfl, newTV_in fun h3 v3 x3 s3 => put_n (t0 := zeroM.tv) v3 (t := (d.ms bs).tv) mssz1 mssz fun h4 v4 f4 s4 => ?_⟩
  have x24 : Ext h2 h4 := Only.cut x3 f4 fun i hi => by omega
  have x14 := x2.trans x24
  have x04 := x1.trans x14
  intro J HJ
  have z24 := x24.size
  have z2 := x2.size
  refine If.no (If.no ⟨d.kind, v4.at1 rfl, If.dec.2 ⟨fun hk => ?_, fun hk => ?_⟩⟩)
  · exact bad h4 x14 (putW_no hd (by rw [decide_eq_true hk]; rfl))
  have hwant : (!decide (d.kind = 1)) = true := by rw [decide_eq_false hk]; rfl
  refine HJ 0 h4 ?_
  clear HJ bad
  intro J2 HJ2
  have hput := putW_yes (most := most) (quota := quota) (peer := peer) (S := S) (want := fun k => !decide (k = 1)) hd hwant
  have fin : ∀ (hh : Heap) (q : Nat) (A' : Sl) (a : Option Vc.Loc × Option Vc.Loc × Int × Bs 32 × Int × Bs 32 × List UInt8 × Int × Option Vc.Loc × Int), a.2.2.2.2.2.2.2.2 = (some ⟨q, 0⟩, (putS most quota (itemOf d peer text) S).1) →
      Var 242 hh q (putS most quota (itemOf d peer text) S).2.1.tv → PL hh b A' (putS most quota (itemOf d peer text) S).2.2 most quota → Grown b A h4 A' hh → J2 a hh := by
    intro hh q A' a ha vq p g
    refine HJ2 a hh ?_
    dsimp only
    rw [ha]
    refine ⟨_, v_root vq, ?_⟩
    have v1h : Var 52 hh h.size (.bytes 32 (Bs.zero 32)) := (v1.ext x14).only g.only fun hx => by have := w.pl.lt hx; omega
    refine put_n v1h (t := .bytes 32 (putS most quota (itemOf d peer text) S).2.1.root) rfl bsz fun h5 v5 f5 s5 => ⟨_, v5.bytes, ?_⟩
    have g5 : Grown b A h A' h5 := ⟨⟨by have := x04.size; have := g.only.size; omega, fun i hi hn => by
      rw [f5.same i (by have := x04.size; have := g.only.size; omega) (by omega), g.only.same i (by have := x04.size; omega) hn, x04.same i hi]⟩, fun i hi => by
      rcases g.new i hi with h9 | h9
      · exact .inl h9
      · exact .inr (by have := x04.size; omega)⟩
    have p5 : PL h5 b A' (putS most quota (itemOf d peer text) S).2.2 most quota := p.only f5 fun i hi hx => by
      rcases g.new i hi with h9 | h9
      · have := w.pl.lt h9; omega
      · have := x04.size; omega
    have := hr h5 A' (by rw [hput]; exact w.grown p5 g5) g5
    rw [hput] at this
    exact this
  have hrow := dm_row hd
  have e4 := e2.ext x24
  have v4 : Var 58 h4 h2.size (d.ms bs).tv := v4
  refine ⟨_, (w.var.ext x04).at1 rfl, d.slot, v4.at1 rfl, ms_at v4 ⟨d.target, v4.at.2.2.1, ⟨?_, ?_⟩⟩⟩
  · refine mroot_spec (m := d.ms bs) e4 hrow fun h5 x5 => ⟨_, rfl, x5, ⟨?_, ?_⟩⟩
    · refine put_spec (x := itemOf d peer text) ((w.pl.ext x04).ext x5) hm hmm hlen fun h6 A' p6 g6 => ⟨_, _, _, _, _, _, rfl, ?_⟩
      refine newTV_in fun h7 v7 x7 s7 => ⟨x7, put_n (t0 := It.zero.tv) v7 (t := (putS most quota (itemOf d peer text) S).2.1.tv) (It.size _).symm rfl fun h8 v8 f8 s8 => ?_⟩
      have x68 : Ext h6 h8 := Only.cut x7 f8 fun i hi => by omega
      exact fin h8 _ A' _ rfl v8 (p6.ext x68) ((Grown.of_ext x5).trans (g6.trans (.of_ext x68)))
    · refine newTV_in fun h6 v6 x6 s6 => ⟨x6, ?_⟩
      refine put_spec (x := itemOf d peer text) (((w.pl.ext x04).ext x5).ext x6) hm hmm hlen fun h7 A' p7 g7 => ⟨_, _, _, _, _, _, rfl, ?_⟩
      have hne : ∀ i, Mine b A' i → i ≠ h5.size := fun i hi => by
        rcases g7.new i hi with h9 | h9
        · have := w.pl.lt h9; have := x04.size; have := x5.size; omega
        · omega
      have hneA : ¬ Mine b A h5.size := fun hx => by have := w.pl.lt hx; have := x04.size; have := x5.size; omega
      refine put_n (t0 := It.zero.tv) (v6.only g7.only hneA) (t := (putS most quota (itemOf d peer text) S).2.1.tv) (It.size _).symm rfl fun h8 v8 f8 s8 => ?_
      refine fin h8 _ A' _ rfl v8 (p7.only f8 hne) ((Grown.of_ext x5).trans ⟨⟨by have := x6.size; have := g7.only.size; omega, fun i hi hn => ?_⟩, fun i hi => ?_⟩)
      · have := x6.size
        have := g7.only.size
        rw [f8.same i (by omega) (by omega), g7.only.same i (by omega) hn, x6.same i hi]
      · rcases g7.new i hi with h9 | h9
        · exact .inl h9
        · have := x6.size; exact .inr (by omega)
  · refine newTV_in fun h5 v5 x5 s5 => ⟨x5, ?_⟩
    refine mroot_spec (m := d.ms bs) (e4.ext x5) hrow fun h6 x6 => ⟨_, rfl, x6, ?_⟩
    refine put_spec (x := itemOf d peer text) (((w.pl.ext x04).ext x5).ext x6) hm hmm hlen fun h7 A' p7 g7 => ⟨_, _, _, _, _, _, rfl, ?_⟩
    have hne : ∀ i, Mine b A' i → i ≠ h4.size := fun i hi => by
      rcases g7.new i hi with h9 | h9
      · have := w.pl.lt h9; have := x04.size; omega
      · have := x6.size; omega
    have hneA : ¬ Mine b A h4.size := fun hx => by have := w.pl.lt hx; have := x04.size; omega
    refine put_n (t0 := It.zero.tv) ((v5.ext x6).only g7.only hneA) (t := (putS most quota (itemOf d peer text) S).2.1.tv) (It.size _).symm rfl fun h8 v8 f8 s8 => ?_
    refine fin h8 _ A' _ rfl v8 (p7.only f8 hne) ⟨⟨by have := x5.size; have := x6.size; have := g7.only.size; omega, fun i hi hn => ?_⟩, fun i hi => ?_⟩
    · have := x5.size
      have := x6.size
      have := g7.only.size
      rw [f8.same i (by omega) (by omega), g7.only.same i (by omega) hn, x6.same i (by omega), x5.same i hi]
    · rcases g7.new i hi with h9 | h9
      · exact .inl h9
      · have := x5.size; have := x6.size; exact .inr (by omega)

end
end Go.Proofs.YtennbinbffdimaaGreat.Pool
end

section
/- Scores by peers, as lists of pairs: what is found, laid, struck; the worst; sorted keys. -/
namespace Go.Proofs.YtennbinbffdimaaGreat.Peers
open Go Go.Vc

def get (k : Int) : List (Int × Int) → Option Int
  | [] => none
  | e :: es => if k = e.1 then some e.2 else get k es

def put (k v : Int) : List (Int × Int) → List (Int × Int)
  | [] => [(k, v)]
  | e :: es => if k = e.1 then (e.1, v) :: es else e :: put k v es

def drop (k : Int) : List (Int × Int) → List (Int × Int)
  | [] => []
  | e :: es => if k = e.1 then es else e :: drop k es

def keys (L : List (Int × Int)) : List Int := L.map (·.1)
def score (L : List (Int × Int)) (k : Int) : Int := (get k L).getD 0

theorem get_mem {L : List (Int × Int)} (hn : (keys L).Nodup) {k v : Int} : get k L = some v ↔ (k, v) ∈ L := by
  induction L with
  | nil => simp [get]
  | cons e es ih =>
    have hn' : e.1 ∉ keys es ∧ (keys es).Nodup := by simpa [keys] using hn
    unfold get
    by_cases h : k = e.1
    · rw [if_pos h]
      constructor
      · intro hx
        have : e.2 = v := Option.some.inj hx
        rw [h, ← this]
        exact List.mem_cons_self ..
      · intro hx
        rcases List.mem_cons.1 hx with hx | hx
        · rw [← hx]
        · exfalso
          exact hn'.1 (List.mem_map.2 ⟨_, hx, h⟩)
    · rw [if_neg h, ih hn'.2]
      constructor
      · exact List.mem_cons_of_mem _
      · intro hx
        rcases List.mem_cons.1 hx with hx | hx
        · exact absurd (by rw [← hx]) h
        · exact hx

theorem get_none {L : List (Int × Int)} {k : Int} : get k L = none ↔ k ∉ keys L := by
  induction L with
  | nil => simp [get, keys]
  | cons e es ih =>
    unfold get
    by_cases h : k = e.1
    · rw [if_pos h]
      simp [keys, h]
    · rw [if_neg h, ih]
      simp [keys, h]

theorem drop_filter {L : List (Int × Int)} (hn : (keys L).Nodup) (k : Int) : drop k L = L.filter (fun e => decide (e.1 ≠ k)) := by
  induction L with
  | nil => rfl
  | cons e es ih =>
    have hn' : e.1 ∉ keys es ∧ (keys es).Nodup := by simpa [keys] using hn
    unfold drop
    by_cases h : k = e.1
    · rw [if_pos h, List.filter_cons_of_neg (by simp [h])]
      refine (List.filter_eq_self.2 fun x hx => ?_).symm
      simp only [ne_eq, decide_eq_true_eq]
      intro hx2
      exact hn'.1 (List.mem_map.2 ⟨x, hx, by rw [hx2, h]⟩)
    · rw [if_neg h, List.filter_cons_of_pos (by simp; exact fun hx => h hx.symm), ih hn'.2]

theorem put_perm_drop {L : List (Int × Int)} (hn : (keys L).Nodup) (k v : Int) : (put k v L).Perm ((k, v) :: drop k L) := by
  induction L with
  | nil => exact List.Perm.refl _
  | cons e es ih =>
    have hn' : e.1 ∉ keys es ∧ (keys es).Nodup := by simpa [keys] using hn
    unfold put drop
    by_cases h : k = e.1
    · rw [if_pos h, if_pos h, h]
    · rw [if_neg h, if_neg h]
      exact ((ih hn'.2).cons e).trans (List.Perm.swap ..)

theorem mem_drop {L : List (Int × Int)} (hn : (keys L).Nodup) {k : Int} {e : Int × Int} : e ∈ drop k L ↔ e ∈ L ∧ e.1 ≠ k := by
  rw [drop_filter hn]
  simp

theorem drop_keys {L : List (Int × Int)} (hn : (keys L).Nodup) (k : Int) : (keys (drop k L)).Nodup := by
  rw [drop_filter hn]
  exact List.Nodup.sublist (List.Sublist.map _ List.filter_sublist) hn

theorem not_mem_drop {L : List (Int × Int)} (hn : (keys L).Nodup) (k : Int) : k ∉ keys (drop k L) := by
  intro h
  obtain ⟨e, he, h2⟩ := List.mem_map.1 h
  exact ((mem_drop hn).1 he).2 h2

theorem put_keys {L : List (Int × Int)} (hn : (keys L).Nodup) (k v : Int) : (keys (put k v L)).Nodup := by
  have h1 := (put_perm_drop hn k v).map (·.1)
  refine h1.nodup_iff.2 ?_
  simp only [List.map_cons, List.nodup_cons]
  exact ⟨not_mem_drop hn k, drop_keys hn k⟩

theorem get_drop {L : List (Int × Int)} (hn : (keys L).Nodup) (k x : Int) : get x (drop k L) = if x = k then none else get x L := by
  by_cases h : x = k
  · rw [if_pos h, get_none, h]
    exact not_mem_drop hn k
  · rw [if_neg h]
    cases hx : get x L with
    | none =>
      rw [get_none] at hx ⊢
      intro hm
      obtain ⟨e, he, h2⟩ := List.mem_map.1 hm
      exact hx (List.mem_map.2 ⟨e, ((mem_drop hn).1 he).1, h2⟩)
    | some w => exact (get_mem (drop_keys hn k)).2 ((mem_drop hn).2 ⟨(get_mem hn).1 hx, h⟩)

theorem drop_length {L : List (Int × Int)} {k : Int} (h : k ∈ keys L) : (drop k L).length + 1 = L.length := by
  induction L with
  | nil => simp [keys] at h
  | cons e es ih =>
    unfold drop
    by_cases hk : k = e.1
    · rw [if_pos hk]; rfl
    · rw [if_neg hk]
      simp only [List.length_cons]
      have : k ∈ keys es := by
        simp only [keys, List.map_cons, List.mem_cons] at h
        rcases h with h | h
        · exact absurd h hk
        · exact h
      have := ih this
      omega

theorem put_length {L : List (Int × Int)} {k v : Int} : (put k v L).length = if k ∈ keys L then L.length else L.length + 1 := by
  induction L with
  | nil => simp [put, keys]
  | cons e es ih =>
    unfold put
    by_cases hk : k = e.1
    · rw [if_pos hk, if_pos (by simp [keys, hk])]; rfl
    · rw [if_neg hk]
      simp only [List.length_cons, ih]
      by_cases h2 : k ∈ keys es
      · rw [if_pos h2, if_pos (by simp only [keys, List.map_cons, List.mem_cons]; exact .inr h2)]
      · rw [if_neg h2, if_neg (by simp only [keys, List.map_cons, List.mem_cons]; rintro (h3 | h3); exact hk h3; exact h2 h3)]

/-- Who has the least score, the lesser number of the same. -/
def IsWorst (L : List (Int × Int)) (w : Int) : Prop := w ∈ keys L ∧ ∀ x ∈ keys L, score L w < score L x ∨ score L w = score L x ∧ w ≤ x

/-! ### Sorted keys -/

def leI (x y : Int) : Bool := decide (x ≤ y)
def srt (L : List (Int × Int)) : List Int := (keys L).mergeSort leI

theorem leI_trans (a b c : Int) (h : leI a b = true) (k : leI b c = true) : leI a c = true := by
  unfold leI at *
  simp only [decide_eq_true_eq] at *
  omega
theorem leI_total (a b : Int) : (leI a b || leI b a) = true := by
  unfold leI
  simp only [Bool.or_eq_true, decide_eq_true_eq]
  omega

theorem srt_perm (L : List (Int × Int)) : (srt L).Perm (keys L) := List.mergeSort_perm _ _
theorem srt_sorted (L : List (Int × Int)) : (srt L).Pairwise (fun x y => x ≤ y) := by
  have := List.pairwise_mergeSort leI_trans leI_total (keys L)
  exact this.imp fun h => by simpa [leI] using h

theorem sorted_unique : ∀ {a b : List Int}, a.Perm b → a.Pairwise (fun x y => x ≤ y) → b.Pairwise (fun x y => x ≤ y) → a = b := by
  intro a b hp ha hb
  exact hp.eq_of_pairwise (fun x y _ _ h1 h2 => by omega) ha hb

theorem srt_length (L : List (Int × Int)) : (srt L).length = L.length := by
  rw [(srt_perm L).length_eq]
  simp [keys]

/-! ### Ticks -/

end Go.Proofs.YtennbinbffdimaaGreat.Peers
end

section
/-
  DERIVED: THE SHELF's CONTRACTS AT THIS DUMP, IN PLAIN WORDS (tools/lay-plain.mjs out of 'TryShelfP.lean', which tools/lay-shelf.mjs wrote): THE SAME DECLARATIONS UNDER THE SAME NAMES: 'import', 'namespace', 'open', 'def', 'theorem' AND NOTHING ELSE: no command of the shelf's: FOR A HAND-IN. Each laying: the table of numbers ('.._ren') and one theorem, a field a fact of the dump's own or the kernel's comparison; each contract: ONE APPLICATION.
-/
namespace Go.Proofs
open Go.Shelf
def Tryz.keysA_ren : Go.Shelf.Ren := ⟨fun | 7 => 154 | 10 => 216 | n => n, fun | 23 => 213 | 26 => 3 | 3 => 3 | 28 => 225 | 0 => 0 | 27 => 224 | 33 => 43 | 4 => 4 | n => n, fun | n => n⟩
theorem Tryz.keysA : Go.Proofs.SlLaysZI.n7 Tryz.prog Tryz.keysA_ren := {
  mixed := by kernel_rfl
  f7 := ⟨Tryz.f154.name, by decide, Tryz.func154.trans (congrArg some (by kernel_rfl))⟩
  f10 := ⟨Tryz.f216.name, by decide, Tryz.func216.trans (congrArg some (by kernel_rfl))⟩
  t0 := Tryz.underlying0
  a0 := Tryz.isAgg0
  z0 := Tryz.sizeOf0
  v0 := Tryz.zeroValue0
  t4 := Tryz.underlying4
  a4 := Tryz.isAgg4
  z4 := Tryz.sizeOf4
  v4 := Tryz.zeroValue4
  t23 := Tryz.underlying213
  a23 := Tryz.isAgg213
  z23 := Tryz.sizeOf213
  v23 := Tryz.zeroValue213
  t26 := Tryz.underlying3
  a26 := Tryz.isAgg3
  z26 := Tryz.sizeOf3
  v26 := Tryz.zeroValue3
  t27 := Tryz.underlying224
  a27 := Tryz.isAgg224
  z27 := Tryz.sizeOf224
  v27 := Tryz.zeroValue224
  t28 := Tryz.underlying225
  a28 := Tryz.isAgg225
  z28 := Tryz.sizeOf225
  v28 := Tryz.zeroValue225
  t33 := Tryz.underlying43
  a33 := Tryz.isAgg43
  z33 := Tryz.sizeOf43
  v33 := Tryz.zeroValue43 }
def Tryz.sortedA_ren : Go.Shelf.Ren := ⟨fun | 6 => 153 | 8 => 214 | 9 => 215 | 11 => 271 | 13 => 273 | 12 => 272 | 23 => 310 | 24 => 311 | 14 => 301 | 15 => 302 | 16 => 303 | 17 => 304 | 18 => 305 | 19 => 306 | 20 => 307 | 21 => 308 | 22 => 309 | 25 => 329 | 26 => 330 | 27 => 331 | 28 => 332 | 29 => 333 | 30 => 334 | 31 => 341 | n => n, fun | 26 => 3 | 28 => 225 | 24 => 92 | 0 => 0 | 3 => 3 | 37 => 88 | 48 => 288 | 50 => 53 | 4 => 4 | 40 => 372 | 39 => 371 | 45 => 169 | 5 => 5 | 9 => 9 | 51 => 397 | 55 => 401 | 57 => 408 | 58 => 409 | 33 => 43 | n => n, fun | n => n⟩
theorem Tryz.sortedA : Go.Proofs.SlLaysZI.n6 Tryz.prog Tryz.sortedA_ren := {
  mixed := by kernel_rfl
  f6 := ⟨Tryz.f153.name, by decide, Tryz.func153.trans (congrArg some (by kernel_rfl))⟩
  f8 := ⟨Tryz.f214.name, by decide, Tryz.func214.trans (congrArg some (by kernel_rfl))⟩
  f11 := ⟨Tryz.f271.name, by decide, Tryz.func271.trans (congrArg some (by kernel_rfl))⟩
  t0 := Tryz.underlying0
  a0 := Tryz.isAgg0
  z0 := Tryz.sizeOf0
  v0 := Tryz.zeroValue0
  t24 := Tryz.underlying92
  a24 := Tryz.isAgg92
  z24 := Tryz.sizeOf92
  v24 := Tryz.zeroValue92
  t26 := Tryz.underlying3
  a26 := Tryz.isAgg3
  z26 := Tryz.sizeOf3
  v26 := Tryz.zeroValue3
  t28 := Tryz.underlying225
  a28 := Tryz.isAgg225
  z28 := Tryz.sizeOf225
  v28 := Tryz.zeroValue225
  i26 := by kernel_rfl }
def Tryz.sortA_ren : Go.Shelf.Ren := ⟨fun | 5 => 215 | 8 => 273 | 7 => 272 | 19 => 310 | 20 => 311 | 10 => 301 | 11 => 302 | 12 => 303 | 13 => 304 | 14 => 305 | 15 => 306 | 16 => 307 | 17 => 308 | 18 => 309 | 30 => 329 | 31 => 330 | 32 => 331 | 33 => 332 | 34 => 333 | 35 => 334 | 40 => 341 | n => n, fun | 23 => 92 | 25 => 3 | 3 => 3 | 32 => 88 | 22 => 92 | 0 => 0 | 44 => 288 | 46 => 53 | 4 => 4 | 36 => 372 | 35 => 371 | 41 => 169 | 5 => 5 | 9 => 9 | 53 => 397 | 57 => 401 | 63 => 408 | 64 => 409 | n => n, fun | n => n⟩
theorem Tryz.sortA : Go.Proofs.SlLaysM.n5 Tryz.prog Tryz.sortA_ren := {
  mixed := by kernel_rfl
  f5 := ⟨Tryz.f215.name, by decide, Tryz.func215.trans (congrArg some (by kernel_rfl))⟩
  f7 := ⟨Tryz.f272.name, by decide, Tryz.func272.trans (congrArg some (by kernel_rfl))⟩
  f8 := Tryz.func273.trans (congrArg some (by kernel_rfl))
  f10 := ⟨Tryz.f301.name, by decide, Tryz.func301.trans (congrArg some (by kernel_rfl))⟩
  f11 := ⟨Tryz.f302.name, by decide, Tryz.func302.trans (congrArg some (by kernel_rfl))⟩
  f12 := ⟨Tryz.f303.name, by decide, Tryz.func303.trans (congrArg some (by kernel_rfl))⟩
  f13 := ⟨Tryz.f304.name, by decide, Tryz.func304.trans (congrArg some (by kernel_rfl))⟩
  f14 := ⟨Tryz.f305.name, by decide, Tryz.func305.trans (congrArg some (by kernel_rfl))⟩
  f15 := ⟨Tryz.f306.name, by decide, Tryz.func306.trans (congrArg some (by kernel_rfl))⟩
  f16 := ⟨Tryz.f307.name, by decide, Tryz.func307.trans (congrArg some (by kernel_rfl))⟩
  f17 := ⟨Tryz.f308.name, by decide, Tryz.func308.trans (congrArg some (by kernel_rfl))⟩
  f18 := ⟨Tryz.f309.name, by decide, Tryz.func309.trans (congrArg some (by kernel_rfl))⟩
  f19 := Tryz.func310.trans (congrArg some (by kernel_rfl))
  f20 := Tryz.func311.trans (congrArg some (by kernel_rfl))
  f30 := ⟨Tryz.f329.name, by decide, Tryz.func329.trans (congrArg some (by kernel_rfl))⟩
  f31 := Tryz.func330.trans (congrArg some (by kernel_rfl))
  f32 := Tryz.func331.trans (congrArg some (by kernel_rfl))
  f33 := ⟨Tryz.f332.name, by decide, Tryz.func332.trans (congrArg some (by kernel_rfl))⟩
  f34 := ⟨Tryz.f333.name, by decide, Tryz.func333.trans (congrArg some (by kernel_rfl))⟩
  f35 := ⟨Tryz.f334.name, by decide, Tryz.func334.trans (congrArg some (by kernel_rfl))⟩
  f40 := ⟨Tryz.f341.name, by decide, Tryz.func341.trans (congrArg some (by kernel_rfl))⟩
  t0 := Tryz.underlying0
  a0 := Tryz.isAgg0
  z0 := Tryz.sizeOf0
  v0 := Tryz.zeroValue0
  t3 := Tryz.underlying3
  a3 := Tryz.isAgg3
  z3 := Tryz.sizeOf3
  v3 := Tryz.zeroValue3
  t4 := Tryz.underlying4
  a4 := Tryz.isAgg4
  z4 := Tryz.sizeOf4
  v4 := Tryz.zeroValue4
  t5 := Tryz.underlying5
  a5 := Tryz.isAgg5
  z5 := Tryz.sizeOf5
  v5 := Tryz.zeroValue5
  t9 := Tryz.underlying9
  a9 := Tryz.isAgg9
  z9 := Tryz.sizeOf9
  v9 := Tryz.zeroValue9
  t22 := Tryz.underlying92
  a22 := Tryz.isAgg92
  z22 := Tryz.sizeOf92
  v22 := Tryz.zeroValue92
  t23 := Tryz.underlying92
  a23 := Tryz.isAgg92
  z23 := Tryz.sizeOf92
  v23 := Tryz.zeroValue92
  t25 := Tryz.underlying3
  a25 := Tryz.isAgg3
  z25 := Tryz.sizeOf3
  v25 := Tryz.zeroValue3
  t32 := Tryz.underlying88
  a32 := Tryz.isAgg88
  z32 := Tryz.sizeOf88
  v32 := Tryz.zeroValue88
  t35 := Tryz.underlying371
  a35 := Tryz.isAgg371
  z35 := Tryz.sizeOf371
  v35 := Tryz.zeroValue371
  t36 := Tryz.underlying372
  a36 := Tryz.isAgg372
  z36 := Tryz.sizeOf372
  v36 := Tryz.zeroValue372
  t41 := Tryz.underlying169
  a41 := Tryz.isAgg169
  z41 := Tryz.sizeOf169
  v41 := Tryz.zeroValue169
  t44 := Tryz.underlying288
  a44 := Tryz.isAgg288
  z44 := Tryz.sizeOf288
  v44 := Tryz.zeroValue288
  t46 := Tryz.underlying53
  a46 := Tryz.isAgg53
  z46 := Tryz.sizeOf53
  v46 := Tryz.zeroValue53
  t53 := Tryz.underlying397
  a53 := Tryz.isAgg397
  z53 := Tryz.sizeOf397
  v53 := Tryz.zeroValue397
  t57 := Tryz.underlying401
  a57 := Tryz.isAgg401
  z57 := Tryz.sizeOf401
  v57 := Tryz.zeroValue401
  t63 := Tryz.underlying408
  a63 := Tryz.isAgg408
  z63 := Tryz.sizeOf408
  v63 := Tryz.zeroValue408
  t64 := Tryz.underlying409
  a64 := Tryz.isAgg409
  z64 := Tryz.sizeOf409
  v64 := Tryz.zeroValue409 }
end Go.Proofs
end

section
/- Maps of peers' scores in memory; their keys, sorted. -/
namespace Go.Proofs.YtennbinbffdimaaGreat.Peers
open Go Go.Vc

def intTV (n : Int) : TV := .int .i64 n

def encE (es : List (Int × Int × Nat)) : List (TV × TV × Nat) := es.map fun e => (.int .i64 e.1, .int .i64 e.2.1, e.2.2)
def abs (es : List (Int × Int × Nat)) : List (Int × Int) := es.map fun e => (e.1, e.2.1)

def Stamps (es : List (Int × Int × Nat)) (c : Nat) : Prop := (∀ e ∈ es, e.2.2 < c) ∧ (es.map (·.2.2)).Nodup

/-- A map of scores in memory. -/
def MapI (h : Heap) (r : Nat) (L : List (Int × Int)) : Prop := ∃ es c, h[r]? = some (mapO (encE es) c) ∧ abs es = L ∧ Stamps es c

theorem MapI.ext {h h' : Heap} {r : Nat} {L : List (Int × Int)} (m : MapI h r L) (e : Ext h h') : MapI h' r L := by
  obtain ⟨es, c, h1, h2⟩ := m
  exact ⟨es, c, by rw [e.same r (Array.getElem?_eq_some_iff.1 h1).1, h1], h2⟩
theorem MapI.only {S : Nat → Prop} {h h' : Heap} {r : Nat} {L : List (Int × Int)} (m : MapI h r L) (o : Only S h h') (hs : ¬ S r) : MapI h' r L := by
  obtain ⟨es, c, h1, h2⟩ := m
  exact ⟨es, c, by rw [o.same r (Array.getElem?_eq_some_iff.1 h1).1 hs, h1], h2⟩
theorem MapI.lt {h : Heap} {r : Nat} {L : List (Int × Int)} (m : MapI h r L) : r < h.size := by
  obtain ⟨es, c, h1, h2⟩ := m
  exact (Array.getElem?_eq_some_iff.1 h1).1

theorem like_enc (es : List (Int × Int × Nat)) : AllLike ctx (.int .i64) (encE es) := by
  intro e he
  obtain ⟨x, _, rfl⟩ := List.mem_map.1 he
  rfl

theorem find_enc (k : Int) : ∀ es : List (Int × Int × Nat), findE (.int .i64 k) (encE es) = (get k (abs es)).map (TV.int .i64)
  | [] => rfl
  | e :: es => by
    have ih := find_enc k es
    unfold encE abs at ih ⊢
    simp only [List.map_cons, findE, get, keyEq, decide_eq_true_eq]
    by_cases h : k = e.1
    · rw [if_pos h, if_pos h]; rfl
    · rw [if_neg h, if_neg h]; exact ih

theorem has_enc (k : Int) (es : List (Int × Int × Nat)) : hasE (.int .i64 k) (encE es) = (get k (abs es)).isSome := by
  unfold hasE
  rw [find_enc]
  simp

theorem or_enc (k : Int) (es : List (Int × Int × Nat)) : orE (findE (.int .i64 k) (encE es)) (.int .i64 0) = .int .i64 (score (abs es) k) := by
  unfold orE score
  rw [find_enc]
  cases get k (abs es) <;> rfl

theorem put_enc (k v : Int) {c : Nat} {es : List (Int × Int × Nat)} (hs : Stamps es c) :
    ∃ es', putE (.int .i64 k) (.int .i64 v) c (encE es) = encE es' ∧ abs es' = put k v (abs es) ∧ Stamps es' (clockE (.int .i64 k) c (encE es)) := by
  have key : ∀ es : List (Int × Int × Nat), (∃ e', putE (.int .i64 k) (.int .i64 v) c (encE es) = encE e' ∧ abs e' = put k v (abs es) ∧
      ((get k (abs es) = none ∧ e'.map (·.2.2) = es.map (·.2.2) ++ [c]) ∨ (get k (abs es) ≠ none ∧ e'.map (·.2.2) = es.map (·.2.2)))) := by
    intro es
    induction es with
    | nil => exact ⟨[(k, v, c)], rfl, rfl, .inl ⟨rfl, rfl⟩⟩
    | cons e es ih =>
      obtain ⟨e', h1, h2, h3⟩ := ih
      have d1 : encE (e :: es) = (.int .i64 e.1, .int .i64 e.2.1, e.2.2) :: encE es := rfl
      have d2 : abs (e :: es) = (e.1, e.2.1) :: abs es := rfl
      rw [d1, d2]
      simp only [putE, put, get, keyEq, decide_eq_true_eq]
      by_cases h : k = e.1
      · rw [if_pos h, if_pos h, if_pos h]
        exact ⟨(e.1, v, e.2.2) :: es, rfl, rfl, .inr ⟨by simp, rfl⟩⟩
      · rw [if_neg h, if_neg h, if_neg h, h1, ← h2]
        refine ⟨e :: e', rfl, rfl, ?_⟩
        rcases h3 with ⟨h3, h4⟩ | ⟨h3, h4⟩
        · exact .inl ⟨h3, by simp [h4]⟩
        · exact .inr ⟨h3, by simp [h4]⟩
  obtain ⟨e', h1, h2, h3⟩ := key es
  refine ⟨e', h1, h2, ?_⟩
  have hc : clockE (.int .i64 k) c (encE es) = match get k (abs es) with | some _ => c | none => c + 1 := by
    unfold clockE
    rw [find_enc]
    cases get k (abs es) <;> rfl
  rw [hc]
  have hmem : ∀ e ∈ e', e.2.2 ∈ e'.map (·.2.2) := fun e he => List.mem_map.2 ⟨e, he, rfl⟩
  have hold : ∀ x ∈ es.map (·.2.2), x < c := fun x hx => by
    obtain ⟨e, he, rfl⟩ := List.mem_map.1 hx
    exact hs.1 e he
  rcases h3 with ⟨h3, h4⟩ | ⟨h3, h4⟩
  · rw [h3]
    refine ⟨fun e he => ?_, ?_⟩
    · have := hmem e he
      rw [h4] at this
      rcases List.mem_append.1 this with h | h
      · exact Nat.lt_succ_of_lt (hold _ h)
      · rw [List.mem_singleton.1 h]; exact Nat.lt_succ_self _
    · rw [h4]
      refine List.nodup_append.2 ⟨hs.2, by simp, fun a ha b hb => ?_⟩
      rw [List.mem_singleton.1 hb]
      have := hold a ha
      omega
  · cases hg : get k (abs es) with
    | none => exact absurd hg h3
    | some v =>
      refine ⟨fun e he => ?_, by rw [h4]; exact hs.2⟩
      have := hmem e he
      rw [h4] at this
      exact hold _ this

theorem drop_enc (k : Int) {c : Nat} : ∀ {es : List (Int × Int × Nat)}, Stamps es c → ∃ es', dropE (.int .i64 k) (encE es) = encE es' ∧ abs es' = drop k (abs es) ∧ Stamps es' c ∧ es'.Sublist es
  | [], hs => ⟨[], rfl, rfl, hs, List.Sublist.refl _⟩
  | e :: es, hs => by
    have hs' : Stamps es c := ⟨fun x hx => hs.1 x (List.mem_cons_of_mem _ hx), (List.nodup_cons.1 hs.2).2⟩
    obtain ⟨e', h1, h2, h3, h4⟩ := drop_enc k hs'
    have d1 : encE (e :: es) = (.int .i64 e.1, .int .i64 e.2.1, e.2.2) :: encE es := rfl
    have d2 : abs (e :: es) = (e.1, e.2.1) :: abs es := rfl
    rw [d1, d2]
    simp only [dropE, drop, keyEq, decide_eq_true_eq]
    by_cases h : k = e.1
    · rw [if_pos h, if_pos h]
      exact ⟨es, rfl, rfl, hs', List.sublist_cons_self _ _⟩
    · rw [if_neg h, if_neg h, h1, ← h2]
      have hsub := h4.cons_cons e
      refine ⟨e :: e', rfl, rfl, ⟨fun x hx => hs.1 x (hsub.mem hx), hs.2.sublist (hsub.map _)⟩, hsub⟩

/-! ### The keys, sorted -/

theorem sortsA (m : Nat) : AnyZI.SortsIn Tryz.prog Tryz.sortedA_ren Fence.wide m :=
  ⟨fun blk off cap ss W hH hblk hsz => callsIn_wide.2 (AnyM.slices_Sort_int Tryz.sortA blk off cap ss W hH hblk hsz),
   fun p cap W => callsIn_wide.2 (AnyM.slices_Sort_int_none Tryz.sortA p cap W)⟩

def anyR : Value → Option (DataW Unit × List MemPlace) := fun _ => some (.nil, [])

theorem rg_enc {kt : TypeId} (hk : Tryz.prog.underlying kt = some (.int .i64)) (x : Int × Int × Nat) (hw : (Lit.int .i64 x.1).wf = true) :
    WideElems.rd Tryz.prog kt anyR ⟨(TV.int .i64 x.1).val, (TV.int .i64 x.2.1).val, x.2.2⟩ = some (.int .i64 x.1, .nil) := by
  unfold WideElems.rd
  have := Maps.keyOf_int_mk (P := Tryz.prog) hk hw
  simp only [TV.val]
  rw [this]
  rfl

theorem owns {w : World} {r c : Nat} {es : List (Int × Int × Nat)} (hb : w.heap[r]? = some (mapO (encE es) c)) (hs : Stamps es c) (hn : (keys (abs es)).Nodup) (hw : ∀ k ∈ keys (abs es), (Lit.int .i64 k).wf = true) (hl : es.length ≤ maxLen) :
    ∃ D : DataW Unit, w.ownsMap Tryz.prog 3 anyR r es.length D ∧ Maps.size D = es.length ∧ (Go.intKeys D).Perm (keys (abs es)) := by
  have hent : mapO (encE es) c = .map (es.map fun x => (⟨(TV.int .i64 x.1).val, (TV.int .i64 x.2.1).val, x.2.2⟩ : MapEntry)).toArray c := by
    unfold mapO encE
    rw [List.map_map]
    rfl
  rw [hent] at hb
  have hk3 : Tryz.prog.underlying 3 = some (.int .i64) := Tryz.underlying3
  have hrd : ∀ x ∈ es, WideElems.rd Tryz.prog 3 anyR ⟨(TV.int .i64 x.1).val, (TV.int .i64 x.2.1).val, x.2.2⟩ = some (.int .i64 x.1, .nil) := fun x hx =>
    rg_enc hk3 x (hw _ (List.mem_map.2 ⟨_, List.mem_map.2 ⟨x, hx, rfl⟩, rfl⟩))
  refine ⟨_, ⟨_, c, hb, ⟨by simpa using hl, ⟨?_, ?_, ?_⟩, ?_⟩, by simp, rfl⟩, ?_, ?_⟩
  · intro x hx
    simp only [List.mem_map] at hx
    obtain ⟨y, hy, rfl⟩ := hx
    exact hs.1 y hy
  · simp only [List.map_map]
    exact hs.2
  · simp only [List.map_map]
    have : (List.map ((fun x : MapEntry => x.key) ∘ fun x : Int × Int × Nat => (⟨(TV.int .i64 x.1).val, (TV.int .i64 x.2.1).val, x.2.2⟩ : MapEntry)) es) = (keys (abs es)).map (fun k => Value.int .i64 k) := by
      unfold keys abs
      simp only [List.map_map]
      rfl
    rw [this]
    exact hn.map _ (fun a b h1 h2 => h1 (by injection h2))
  · intro x hx
    simp only [List.mem_map] at hx
    obtain ⟨y, hy, rfl⟩ := hx
    exact ⟨_, hrd y hy⟩
  · rw [Maps.size_eq, length_sorted]
    simp
  · have hmap : (List.map (WideElems.rg Tryz.prog 3 anyR) (es.map fun x => (⟨(TV.int .i64 x.1).val, (TV.int .i64 x.2.1).val, x.2.2⟩ : MapEntry))) = es.map fun x => ((Lit.int .i64 x.1, DataW.nil) : Lit × DataW Unit) := by
      rw [List.map_map]
      refine List.map_congr_left fun x hx => ?_
      simp only [Function.comp, WideElems.rg]
      rw [hrd x hx]
      rfl
    rw [hmap]
    have hp := (WideShapes.sorted_perm (es.map fun x => ((Lit.int .i64 x.1, DataW.nil) : Lit × DataW Unit))).map (fun p => Go.intOf p.1)
    refine hp.trans ?_
    rw [List.map_map]
    unfold keys abs
    rw [List.map_map]
    exact List.Perm.refl _

section
variable {R : Value → Heap → Prop} {h : Heap}

def Up (A : Sl) (n : Nat) : Prop := ∀ l, A.a = some l → n ≤ l.b

theorem keys_sorted {r : Nat} {L : List (Int × Int)} (m : MapI h r L) (hn : (keys L).Nodup) (hw : ∀ k ∈ keys L, (Lit.int .i64 k).wf = true) (hl : L.length < 1000000)
    (hr : ∀ h' s, Ext h h' → Own 3 1 h' s ((srt L).map intTV) → Up s h.size → R (TV.slice s).val h') :
    CallsH Tryz.prog 154 (TVs.vals [.map (some r)]) h fun v h1 => ∃ o : One, v = (TV.one o).val ∧ CallsH Tryz.prog 153 (TVs.vals [.one o]) h1 R := by
  obtain ⟨es, c, hb, rfl, hs⟩ := m
  have hel : es.length = (abs es).length := by simp [abs]
  intro w hw0
  subst hw0
  have cK := callsIn_wide.1 (AnyZI.keys_in Tryz.keysA Fence.wide 5 trivial rfl (some r) w)
  refine cK.mono fun e w1 hk => ?_
  obtain ⟨he, rfl⟩ := hk
  refine ⟨⟨rfl, rfl, rfl, fun e => by cases e⟩, _, he, ⟨_, rfl⟩, rfl, ?_⟩
  intro W hW
  have hrl : r < w.heap.size := (Array.getElem?_eq_some_iff.1 hb).1
  have hWr : W.heap[r]? = some (mapO (encE es) c) := by
    rw [hW]
    exact (Ext.push w.heap _).same r hrl ▸ hb
  have hml : es.length ≤ maxLen := by unfold maxLen; omega
  obtain ⟨D, hown, hsz, hperm⟩ := owns hWr hs hn hw hml
  have hWs : W.heap.size = w.heap.size + 1 := by rw [hW]; simp
  have hseq := AnyZI.keys_gives (ρ := Tryz.keysA_ren) { Tryz.keysA with } Fence.wide 2 trivial rfl (by omega) w.heap.size r es.length D W (by omega) (by
    rw [cell?_eq]
    unfold cel
    have hW' : W.heap = w.heap.push (.cells #[.map (some r)] (Tryz.keysA_ren.t 23)) := hW
    rw [hW']
    simp) hown
  have cS := AnyZI.sorted_in Tryz.sortedA Fence.wide 5 trivial trivial trivial trivial rfl (by omega) (sortsA _) (enters_of Tryz.func215 (by kernel_rfl) rfl) 216 #[.pointer (some ⟨w.heap.size, 0, none⟩)] trivial (enters_of Tryz.func216 (by kernel_rfl) rfl) _ _ (by rw [hsz]; exact hml) (by rw [hsz]; omega) W hseq
  refine (callsIn_wide.1 cS).mono fun e w' hx => ?_
  obtain ⟨v, ss, he', hS, hrow, hnil, hbel⟩ := hx
  have hss : ss.mergeSort (fun x y => decide (x ≤ y)) = srt (abs es) := by
    refine sorted_unique ?_ ?_ (srt_sorted _)
    · exact (List.mergeSort_perm _ _).trans ((hS.trans hperm).trans (srt_perm _).symm)
    · have := List.pairwise_mergeSort leI_trans leI_total ss
      exact this.imp fun h => by simpa [leI] using h
  have hx1 : Ext w.heap W.heap := by rw [hW]; exact Ext.push _ _
  have hx2 : Ext W.heap w'.heap := ⟨hbel.size, hbel.block⟩
  have hlen : ss.length = (srt (abs es)).length := by rw [← hss, (List.mergeSort_perm _ _).length_eq]
  refine ⟨⟨hbel.os, hbel.tape, hbel.output, fun e => by cases e⟩, v, he', ?_⟩
  rw [hss] at hrow
  have hcells : ∀ l : List Int, TVs.cells (l.map intTV) = l.map (fun q => Value.int .i64 q) := fun l => by
    induction l with
    | nil => rfl
    | cons x xs ih => simp only [List.map_cons, TVs.cells, ih]; rfl
  rcases hrow.2 with ⟨rfl, h0⟩ | ⟨g, cap, cur, rfl, hg, hgb, h1, h2, h3, h4⟩
  · have : srt (abs es) = [] := List.eq_nil_of_length_eq_zero (by omega)
    have := hr w'.heap Sl.nil (hx1.trans hx2) (by rw [this]; exact Own.nil _ _ _) (fun l hl => by cases hl)
    exact this
  · refine hr w'.heap ⟨some ⟨g, 0⟩, ss.length, cap⟩ (hx1.trans hx2) ⟨?_, by rw [List.length_map]; exact hlen.symm, h1, .inr ⟨g, cur.toList.drop ss.length, rfl, ?_, ?_⟩⟩ ?_
    · intro t ht
      obtain ⟨x, _, rfl⟩ := List.mem_map.1 ht
      rfl
    · rw [hgb, hcells]
      unfold row
      rw [Nat.mul_one] at h4
      have : (List.map (fun q => Value.int .i64 q) (srt (abs es))) = cur.toList.take ss.length := h4.symm
      rw [this, List.take_append_drop]
      rfl
    · simp only [List.length_drop, Array.length_toList, h3, Nat.mul_one]
    · intro l hl
      cases hl
      simp only
      omega

end
end Go.Proofs.YtennbinbffdimaaGreat.Peers
end

section
/- What peers' functions do: New, Score, Banned, Known, Gone, worst, Fail. -/
namespace Go.Proofs.YtennbinbffdimaaGreat.Peers
open Go Go.Vc

/-- What rows of scores are good for. -/
structure Good (L : List (Int × Int)) : Prop where
  one : (keys L).Nodup
  fit : ∀ k ∈ keys L, (Lit.int .i64 k).wf = true
  low : ∀ e ∈ L, -1048576 ≤ e.2 ∧ e.2 < 0

def Valid (most ban decay : Int) : Prop := 1 ≤ most ∧ most ≤ 16 ∧ 1 ≤ ban ∧ ban ≤ 1048576 ∧ 1 ≤ decay ∧ decay ≤ 1048576

/-- Peers in memory. -/
structure Pe (h : Heap) (b r : Nat) (L : List (Int × Int)) (most ban decay gone : Int) : Prop where
  var : Var 215 h b (.agg [.map (some r), .int .i64 most, .int .i64 ban, .int .i64 decay, .int .i64 gone])
  map : MapI h r L
  good : Good L
  len : (L.length : Int) ≤ most
  cfg : Valid most ban decay

section
variable {R : Value → Heap → Prop} {h h' : Heap} {b r : Nat} {L : List (Int × Int)} {most ban decay gone : Int}

theorem Pe.ext (p : Pe h b r L most ban decay gone) (e : Ext h h') : Pe h' b r L most ban decay gone := ⟨p.var.ext e, p.map.ext e, p.good, p.len, p.cfg⟩
theorem Pe.only {S : Nat → Prop} (p : Pe h b r L most ban decay gone) (o : Only S h h') (hb : ¬ S b) (hr : ¬ S r) : Pe h' b r L most ban decay gone := ⟨p.var.only o hb, p.map.only o hr, p.good, p.len, p.cfg⟩
theorem Pe.ne (p : Pe h b r L most ban decay gone) : b ≠ r := by
  rintro rfl
  obtain ⟨es, c, h1, _⟩ := p.map
  have := p.var
  unfold Var at this
  rw [h1] at this
  cases this

theorem score_low (g : Good L) (k : Int) : -1048576 ≤ score L k ∧ score L k ≤ 0 := by
  unfold score
  cases hg : get k L with
  | none => simp
  | some v =>
    have := g.low _ ((get_mem g.one).1 hg)
    simp only [Option.getD_some]
    simp only at this
    omega

theorem in_spec {n top : Int} (hr : R (TV.bool (decide (1 ≤ n ∧ n ≤ top))).val h) : CallsH Tryz.prog 146 (TVs.vals [.int .i64 n, .int .i64 top]) h R := by
  apply peers_New_1_calls
  refine If.dec.2 ⟨fun h1 => ?_, fun h1 => ?_⟩
  · have : decide (1 ≤ n ∧ n ≤ top) = decide (n ≤ top) := by rw [decide_eq_decide]; simp [h1]
    rw [this] at hr
    exact hr
  · have : decide (1 ≤ n ∧ n ≤ top) = false := by rw [decide_eq_false_iff_not]; exact fun hx => h1 hx.1
    rw [this] at hr
    exact hr

theorem New_spec (hr1 : Valid most ban decay → ∀ h', Ext h h' → Pe h' (h.size + 1) h.size [] most ban decay 0 → R (TV.ptr (some ⟨h.size + 1, 0⟩)).val h') (hr2 : ¬ Valid most ban decay → R (TV.ptr none).val h) :
    CallsH Tryz.prog 78 (TVs.vals [.int .i64 most, .int .i64 ban, .int .i64 decay]) h R := by
  apply peers_New_calls
  unfold peers_New_vc
  refine in_spec ⟨_, rfl, ?_⟩
  refine If.split (fun h1 => hr2 (fun hv => ?_)) (fun h1 => ?_)
  · simp only [Bool.not_eq_true', decide_eq_false_iff_not] at h1
    exact h1 ⟨hv.1, hv.2.1⟩
  refine in_spec ⟨_, rfl, ?_⟩
  refine If.split (fun h2 => hr2 (fun hv => ?_)) (fun h2 => ?_)
  · simp only [Bool.not_eq_true', decide_eq_false_iff_not] at h2
    exact h2 ⟨hv.2.2.1, hv.2.2.2.1⟩
  refine in_spec ⟨_, rfl, ?_⟩
  refine If.split (fun h3 => hr2 (fun hv => ?_)) (fun h3 => ?_)
  · simp only [Bool.not_eq_true', decide_eq_false_iff_not] at h3
    exact h3 hv.2.2.2.2
  simp only [Bool.not_eq_false', decide_eq_true_eq] at h1 h2 h3
  have hv : Valid most ban decay := ⟨h1.1, h1.2, h2.1, h2.2, h3.1, h3.2⟩
  have x1 := Ext.push h (mapO [] 0)
  have hsz : (h.push (mapO [] 0)).size = h.size + 1 := by simp
  obtain ⟨h2, e2, v2, x2, s2⟩ := newTV_spec (h.push (mapO [] 0)) (.agg [.map (some h.size), .int .i64 most, .int .i64 ban, .int .i64 decay, .int .i64 0]) 215
  rw [e2]
  rw [hsz] at v2 ⊢
  have hm : MapI (h.push (mapO [] 0)) h.size [] := ⟨[], 0, by simp [encE], rfl, (fun e he => by cases he), List.nodup_nil⟩
  exact hr1 hv h2 (x1.trans x2) ⟨v2, hm.ext x2, ⟨List.nodup_nil, (fun k hk => by cases hk), (fun e he => by cases he)⟩, by simp; omega, hv⟩

theorem Score_spec (p : Pe h b r L most ban decay gone) {k : Int} (hr : R (TV.int .i64 (score L k)).val h) : CallsH Tryz.prog 87 (TVs.vals [.ptr (some ⟨b, 0⟩), .int .i64 k]) h R := by
  apply peers_Peers_Score_calls
  unfold peers_Peers_Score_vc
  obtain ⟨es, c, hb, rfl, _⟩ := p.map
  refine If.no ⟨some r, p.var.at1 rfl, encE es, c, hb, like_enc es, _, or_enc k es, hr⟩

theorem Banned_spec (p : Pe h b r L most ban decay gone) {k : Int} (hr : R (TV.bool (decide (score L k ≤ -ban))).val h) : CallsH Tryz.prog 147 (TVs.vals [.ptr (some ⟨b, 0⟩), .int .i64 k]) h R := by
  apply peers_Peers_Banned_calls
  unfold peers_Peers_Banned_vc
  have hc := p.cfg
  unfold Valid at hc
  refine If.yes ⟨ban, p.var.at1 rfl, Score_spec p ⟨_, rfl, Ext.refl _, ?_⟩⟩
  rw [wrap_i64 (by omega) (by omega)]
  have : (0 : Int) - ban = -ban := by omega
  rw [this]
  exact hr

theorem Known_spec (p : Pe h b r L most ban decay gone) (hr : ∀ h' s, Ext h h' → Own 3 1 h' s ((srt L).map intTV) → Up s h.size → R (TV.slice s).val h') :
    CallsH Tryz.prog 85 (TVs.vals [.ptr (some ⟨b, 0⟩)]) h R := by
  apply peers_Peers_Known_calls
  unfold peers_Peers_Known_vc
  have hl := p.len
  have hc := p.cfg
  unfold Valid at hc
  refine If.no ⟨some r, p.var.at1 rfl, ?_⟩
  refine (keys_sorted p.map p.good.one p.good.fit (by omega) (R := fun v h => ∃ s : Sl, v = (TV.slice s).val ∧ R (TV.slice s).val h) fun h' s x o u => ⟨s, rfl, hr h' s x o u⟩)

theorem ints_at {h : Heap} {A : Sl} {l : List Int} (e : Elems 1 h A (l.map intTV)) {i : Int} (h0 : 0 ≤ i) (h1 : i < l.length) {K : Go.Vc.Loc → Prop}
    (hk : ∀ p x, l[i.toNat]? = some x → at1 h p.b (p.o + i.toNat * 1) (.int .i64 x) → K p) : 0 ≤ i ∧ i < A.len ∧ Nn A.a K := by
  have hl := e.len
  rw [List.length_map] at hl
  refine e.read h0 (by omega) fun p t _ ht hat => ?_
  rw [List.getElem?_map, Option.map_eq_some_iff] at ht
  obtain ⟨x, hx, rfl⟩ := ht
  exact hk p x hx hat

theorem sorted_le {l : List Int} (hs : l.Pairwise (fun x y => x ≤ y)) {i j : Nat} {x y : Int} (hij : i ≤ j) (hx : l[i]? = some x) (hy : l[j]? = some y) : x ≤ y := by
  obtain ⟨hi, rfl⟩ := List.getElem?_eq_some_iff.1 hx
  obtain ⟨hj, rfl⟩ := List.getElem?_eq_some_iff.1 hy
  rcases Nat.lt_or_eq_of_le hij with h | h
  · exact List.pairwise_iff_getElem.1 hs i j hi hj h
  · subst h; exact Int.le_refl _

theorem worst_spec (p : Pe h b r L most ban decay gone) (hne : L ≠ []) (hr : ∀ h' w, Ext h h' → IsWorst L w → R (TV.int .i64 w).val h') : CallsH Tryz.prog 151 (TVs.vals [.ptr (some ⟨b, 0⟩)]) h R := by
  apply peers_Peers_worst_calls
  unfold peers_Peers_worst_vc
  refine Known_spec p fun h1 s x1 o _ => ⟨s, rfl, ?_⟩
  have hlen := srt_length L
  have hpos : 0 < L.length := List.length_pos_iff.2 hne
  have hol := o.len
  rw [List.length_map] at hol
  have hm := p.len
  have hc := p.cfg
  unfold Valid at hc
  have hss := srt_sorted L
  have hmem : ∀ x, x ∈ srt L ↔ x ∈ keys L := fun x => (srt_perm L).mem_iff
  refine ints_at o.elems (i := 0) (by omega) (by omega) fun l n hn hat => ⟨n, hat, ?_⟩
  refine ⟨fun s' hh => 0 ≤ s'.2 ∧ s'.2 ≤ (srt L).length ∧ Ext h1 hh ∧ (∃ q : Nat, (srt L)[q]? = some s'.1 ∧ (q : Int) < max s'.2 1) ∧ (∀ (j : Nat) (x : Int), (j : Int) < s'.2 → (srt L)[j]? = some x → score L s'.1 < score L x ∨ score L s'.1 = score L x ∧ s'.1 ≤ x),
    fun s' _ => (((srt L).length : Int) - s'.2).toNat, ⟨by simp, by simp, Ext.refl _, ⟨0, hn, by simp; omega⟩, fun j x hj => by simp at hj; omega⟩, ?_⟩
  rintro ⟨a, i⟩ hh ⟨i0, i1, x, ⟨q, hq, hq1⟩, hall⟩
  simp only at i0 i1 hq hq1 hall ⊢
  have pp := (p.ext x1).ext x
  refine If.dec.2 ⟨fun hi => ?_, fun hi => ?_⟩
  · refine ints_at (o.ext x).elems i0 (by omega) fun l' y hy hat' => ⟨y, hat', ?_⟩
    obtain ⟨es, c, hb, hL, _⟩ := pp.map
    have o1 := or_enc y es
    have o2 := or_enc a es
    rw [hL] at o1 o2
    refine ⟨some r, pp.var.at1 rfl, encE es, c, hb, like_enc es, _, o1, some r, pp.var.at1 rfl, encE es, c, hb, like_enc es, _, o2, ?_⟩
    rw [wrap_i64 (n := i + 1) (by omega) (by omega)]
    have hqi : q ≤ i.toNat := by omega
    have hay := sorted_le hss hqi hq hy
    refine If.dec.2 ⟨fun hlt => ⟨⟨by omega, by omega, x, ⟨i.toNat, hy, by omega⟩, fun j z hj hz => ?_⟩, by omega⟩, fun hlt => ⟨⟨by omega, by omega, x, ⟨q, hq, by omega⟩, fun j z hj hz => ?_⟩, by omega⟩⟩
    · by_cases e : (j : Int) = i
      · have : j = i.toNat := by omega
        rw [this, hy] at hz
        cases hz
        exact .inr ⟨rfl, Int.le_refl _⟩
      · have := hall j z (by omega) hz
        left; omega
    · by_cases e : (j : Int) = i
      · have : j = i.toNat := by omega
        rw [this, hy] at hz
        cases hz
        omega
      · exact hall j z (by omega) hz
  · refine hr _ a (x1.trans x) ⟨(hmem a).1 (List.mem_of_getElem? hq), fun z hz => ?_⟩
    obtain ⟨j, hj, rfl⟩ := List.getElem_of_mem ((hmem z).2 hz)
    exact hall j _ (by omega) (List.getElem?_eq_getElem hj)

/-! ### Fail -/

def lower (s pts : Int) : Int := mx (s - mn pts 1048576) (-1048576)

theorem lower_range {s pts : Int} (hs : -1048576 ≤ s ∧ s ≤ 0) (hp : 0 < pts) : -1048576 ≤ lower s pts ∧ lower s pts < 0 := by
  unfold lower mx mn
  split <;> split <;> omega

/-- What a failing makes of the scores, and whether one gives way. -/
def FailTo (most : Int) (L : List (Int × Int)) (k pts : Int) (L' : List (Int × Int)) (g : Int) : Prop :=
  (pts ≤ 0 ∧ L' = L ∧ g = 0) ∨
  (0 < pts ∧ (k ∈ keys L ∨ (L.length : Int) < most) ∧ g = 0 ∧ L' = put k (lower (score L k) pts) L) ∨
  (0 < pts ∧ k ∉ keys L ∧ most ≤ L.length ∧ g = 1 ∧ ∃ w, IsWorst L w ∧ L' = put k (lower 0 pts) (drop w L))

theorem Good.put (g : Good L) {k v : Int} (hk : (Lit.int .i64 k).wf = true) (hv : -1048576 ≤ v ∧ v < 0) : Good (Peers.put k v L) := by
  have hp := put_perm_drop g.one k v
  refine ⟨put_keys g.one k v, fun x hx => ?_, fun e he => ?_⟩
  · have := (hp.map (·.1)).mem_iff.1 hx
    simp only [List.map_cons, List.mem_cons] at this
    rcases this with rfl | h1
    · exact hk
    · obtain ⟨e, he, rfl⟩ := List.mem_map.1 h1
      exact g.fit _ (List.mem_map.2 ⟨e, ((mem_drop g.one).1 he).1, rfl⟩)
  · have := hp.mem_iff.1 he
    rcases List.mem_cons.1 this with rfl | h1
    · exact hv
    · exact g.low _ ((mem_drop g.one).1 h1).1

theorem Good.drop (g : Good L) (k : Int) : Good (Peers.drop k L) :=
  ⟨drop_keys g.one k, fun x hx => by
    obtain ⟨e, he, rfl⟩ := List.mem_map.1 hx
    exact g.fit _ (List.mem_map.2 ⟨e, ((mem_drop g.one).1 he).1, rfl⟩), fun e he => g.low _ ((mem_drop g.one).1 he).1⟩

theorem set_only {h : Heap} {r : Nat} {o : Obj} : Only (· = r) h (h.setIfInBounds r o) :=
  ⟨by simp, fun i hi hn => by rw [Array.getElem?_setIfInBounds_ne (fun hx => hn hx.symm)]⟩
theorem set_get {h : Heap} {r : Nat} {o : Obj} (hr : r < h.size) : (h.setIfInBounds r o)[r]? = some o := by simp [hr]

theorem MapI.put {es : List (Int × Int × Nat)} {c : Nat} {k v : Int} (hr : r < h.size) (hs : Stamps es c) : MapI (h.setIfInBounds r (mapO (putE (.int .i64 k) (.int .i64 v) c (encE es)) (clockE (.int .i64 k) c (encE es)))) r (Peers.put k v (abs es)) := by
  obtain ⟨es', h1, h2, h3⟩ := put_enc k v hs
  rw [h1]
  exact ⟨es', _, set_get hr, h2, h3⟩
theorem MapI.drop {es : List (Int × Int × Nat)} {c : Nat} {k : Int} (hr : r < h.size) (hs : Stamps es c) : MapI (h.setIfInBounds r (mapO (dropE (.int .i64 k) (encE es)) c)) r (Peers.drop k (abs es)) := by
  obtain ⟨es', h1, h2, h3, _⟩ := drop_enc k hs
  rw [h1]
  exact ⟨es', _, set_get hr, h2, h3⟩

theorem put_at {T : TypeId} {h : Heap} {b i : Nat} {ts : List TV} (v : Var T h b (.agg ts)) (h1 : ∀ t ∈ ts, t.size = 1) (hi : i < ts.length) {t : TV} (ht : t.size = 1) (hc : ∀ ts : List TV, (∀ t ∈ ts, t.size = 1) → i < ts.length → (TVs.cells ts).take i ++ t.cells ++ (TVs.cells ts).drop (i + 1) = TVs.cells (ts.set i t)) :
    wok h b i 1 ∧ ∃ h1, t.put h b i = h1 ∧ Var T h1 b (.agg (ts.set i t)) ∧ Only (· = b) h h1 ∧ h1.size = h.size := by
  have hlen : (TVs.cells ts).length = ts.length := by rw [TVs.cells_uniform (sz := 1) ts h1, Nat.mul_one]
  have hl : i + t.size ≤ (TV.agg ts).cells.length := by simp only [TV.cells, hlen, ht]; omega
  refine ⟨wok_row v (by rw [← ht]; exact hl), _, rfl, ?_, put_only v hl, put_size v hl⟩
  have := put_row (t := t) v hl
  unfold Var
  rw [this]
  simp only [TV.cells, ht]
  rw [hc ts h1 hi]

theorem Fail_spec (p : Pe h b r L most ban decay gone) {k pts : Int} (hk : (Lit.int .i64 k).wf = true) (hg : 0 ≤ gone ∧ gone < 1000000)
    (hr : ∀ h' L' g, FailTo most L k pts L' g → Pe h' b r L' most ban decay (gone + g) → Only (fun i => i = b ∨ i = r) h h' → R (TV.tup []).val h') : CallsH Tryz.prog 81 (TVs.vals [.ptr (some ⟨b, 0⟩), .int .i64 k, .int .i64 pts]) h R := by
  apply peers_Peers_Fail_calls
  unfold peers_Peers_Fail_vc
  have hc := p.cfg
  unfold Valid at hc
  have hlen := p.len
  intro J hJ
  refine If.no ?_
  refine If.dec.2 ⟨fun hp => hr h L 0 (.inl ⟨hp, rfl, rfl⟩) (by simpa using p) (Only.refl _ _), fun hp => hJ _ _ ?_⟩
  intro J2 hJ2
  -- what is laid at the end
  have last : ∀ (h1 : Heap) (L1 : List (Int × Int)) (g : Int), Pe h1 b r L1 most ban decay (gone + g) → Only (fun i => i = b ∨ i = r) h h1 → FailTo most L k pts (Peers.put k (lower (score L1 k) pts) L1) g →
      (k ∈ keys L1 ∨ (L1.length : Int) < most) → J2 PUnit.unit h1 := by
    intro h1 L1 g p1 o1 hf hroom
    refine hJ2 _ _ ?_
    have hrl := p1.map.lt
    obtain ⟨es, c, hb, rfl, hs⟩ := p1.map
    have hsl := score_low p1.good k
    refine ⟨some r, p1.var.at1 rfl, some r, p1.var.at1 rfl, encE es, c, hb, like_enc es, _, or_enc k es, encE es, c, hb, like_enc es, ?_⟩
    have hmn : 0 < mn pts 1048576 ∧ mn pts 1048576 ≤ 1048576 := by unfold mn; split <;> omega
    rw [wrap_i64 (n := score (abs es) k - mn pts 1048576) (by omega) (by omega)]
    have hlow := lower_range (pts := pts) hsl (by omega)
    have o2 := set_only (h := h1) (r := r) (o := mapO (putE (.int .i64 k) (.int .i64 (lower (score (abs es) k) pts)) c (encE es)) (clockE (.int .i64 k) c (encE es)))
    refine hr _ _ g hf ⟨p1.var.only o2 p1.ne, MapI.put hrl hs, p1.good.put hk hlow, ?_, p.cfg⟩ (o1.trans (o2.mono fun i hi => .inr hi))
    have hl1 := p1.len
    rw [put_length]
    split
    · exact hl1
    · rename_i hn
      rcases hroom with h9 | h9
      · exact absurd h9 hn
      · omega
  obtain ⟨es, c, hb, hL, hs⟩ := p.map
  have o1 := or_enc k es
  rw [hL] at o1
  refine ⟨some r, p.var.at1 rfl, encE es, c, hb, like_enc es, _, o1, ?_⟩
  have hh := has_enc k es
  rw [hL] at hh
  rw [hh]
  have hkeys : (get k L).isSome = true ↔ k ∈ keys L := by
    cases hgk : get k L with
    | none => simp [get_none.1 hgk]
    | some v => simp only [Option.isSome_some, true_iff]; exact List.mem_map.2 ⟨_, (get_mem p.good.one).1 hgk, rfl⟩
  intro J3 hJ3
  have stay : (k ∈ keys L ∨ (L.length : Int) < most) → J3 false h := fun hroom =>
    hJ3 _ _ (If.no (last h L 0 (by simpa using p) (Only.refl _ _) (.inr (.inl ⟨by omega, hroom, rfl, rfl⟩)) hroom))
  refine If.split (fun hnk => ?_) (fun hnk => stay (.inl (hkeys.1 (by simpa using hnk))))
  have hnk' : k ∉ keys L := fun hx => by rw [hkeys.2 hx] at hnk; cases hnk
  have hel : (encE es).length = L.length := by rw [← hL]; simp [encE, abs]
  refine ⟨some r, p.var.at1 rfl, encE es, c, hb, most, p.var.at1 rfl, ?_⟩
  rw [hel]
  by_cases hfull : most ≤ (L.length : Int)
  · rw [decide_eq_true hfull]
    refine hJ3 _ _ (If.yes ⟨some r, p.var.at1 rfl, ?_⟩)
    refine worst_spec p (by rintro rfl; simp at hfull; omega) fun h1 w x1 hw => ⟨w, rfl, x1, ?_⟩
    have p1 := p.ext x1
    have hrl := p1.map.lt
    obtain ⟨es1, c1, hb1, hL1, hs1⟩ := p1.map
    refine ⟨encE es1, c1, hb1, like_enc es1, ?_⟩
    have o2 := set_only (h := h1) (r := r) (o := mapO (dropE (.int .i64 w) (encE es1)) c1)
    have m2 := MapI.drop (k := w) hrl hs1
    have v2 := p1.var.only o2 p1.ne
    refine ⟨gone, v2.at1 rfl, ?_⟩
    obtain ⟨w3, h3, e3, v3, o3, s3⟩ := put_at (i := 4) (t := .int .i64 (gone + 1)) v2 (by simp [TV.size]) (by simp) rfl (fun ts h1 hi => by
      match ts, h1, hi with
      | [a, b, c, d, e], h1, _ =>
        have g : ∀ t ∈ [a, b, c, d, e], t.cells.length = 1 := fun t ht => by rw [TV.cells_length]; exact h1 t ht
        obtain ⟨a', ha⟩ := List.length_eq_one_iff.1 (g a (by simp))
        obtain ⟨b', hb⟩ := List.length_eq_one_iff.1 (g b (by simp))
        obtain ⟨c', hc⟩ := List.length_eq_one_iff.1 (g c (by simp))
        obtain ⟨d', hd⟩ := List.length_eq_one_iff.1 (g d (by simp))
        obtain ⟨e', he⟩ := List.length_eq_one_iff.1 (g e (by simp))
        simp [TVs.cells, ha, hb, hc, hd, he]
      | a :: b :: c :: d :: e :: f :: rest, h1, _ =>
        have g : ∀ t ∈ a :: b :: c :: d :: e :: f :: rest, t.cells.length = 1 := fun t ht => by rw [TV.cells_length]; exact h1 t ht
        obtain ⟨a', ha⟩ := List.length_eq_one_iff.1 (g a (by simp))
        obtain ⟨b', hb⟩ := List.length_eq_one_iff.1 (g b (by simp))
        obtain ⟨c', hc⟩ := List.length_eq_one_iff.1 (g c (by simp))
        obtain ⟨d', hd⟩ := List.length_eq_one_iff.1 (g d (by simp))
        obtain ⟨e', he⟩ := List.length_eq_one_iff.1 (g e (by simp))
        simp [TVs.cells, ha, hb, hc, hd, he])
    refine ⟨w3, ?_⟩
    rw [wrap_i64 (n := gone + 1) (by omega) (by omega)]
    have e3' : (TV.int .i64 (gone + 1)).put (h1.setIfInBounds r (mapO (dropE (.int .i64 w) (encE es1)) c1)) b (0 + 4) = h3 := e3
    rw [e3']
    have hlen2 := drop_length (hw.1)
    have hsc : score (Peers.drop w L) k = 0 := by
      unfold score
      rw [get_drop p.good.one]
      split
      · rfl
      · rw [get_none.2 hnk']; rfl
    have p3 : Pe h3 b r (Peers.drop w L) most ban decay (gone + 1) :=
      ⟨v3, by rw [← hL1]; exact m2.only o3 (fun hx => p1.ne hx.symm), p.good.drop w, by omega, p.cfg⟩
    refine last h3 (Peers.drop w L) 1 p3 (((Only.of_ext x1).trans (o2.mono fun i hi => .inr hi)).trans (o3.mono fun i hi => .inl hi)) ?_ (.inr (by omega))
    rw [hsc]
    exact .inr (.inr ⟨by omega, hnk', hfull, rfl, w, hw, rfl⟩)
  · rw [decide_eq_false hfull]
    exact stay (.inr (by omega))

end
end Go.Proofs.YtennbinbffdimaaGreat.Peers
end

section
/- What a tick does; that peers are alive; calls in memory. -/
namespace Go.Proofs.YtennbinbffdimaaGreat.Peers
open Go Go.Vc

def more (s : Nat → Bool) (b : Nat) : Nat → Bool := fun n => s n || decide (n = b)

section
variable {R : Value → Heap → Prop} {h h' : Heap} {b r : Nat} {L : List (Int × Int)} {most ban decay gone : Int}

end
end Go.Proofs.YtennbinbffdimaaGreat.Peers
end

section
/- What the clock's functions do, the program's and the reference's: contracts. -/
namespace Go.Proofs.YtennbinbffdimaaGreat.Clock
open Go Go.Vc

/-- A clock at block b: the slot, and the window. -/
def CI (T : TypeId) (h : Heap) (b : Nat) (n w : Int) : Prop := h[b]? = some (row [.int .i64 n, .int .i64 w] T)

theorem CI.now {T : TypeId} {h : Heap} {b : Nat} {n w : Int} (hc : CI T h b n w) : at1 h b 0 (.int .i64 n) := at1_row hc rfl
theorem CI.win {T : TypeId} {h : Heap} {b : Nat} {n w : Int} (hc : CI T h b n w) : at1 h b 1 (.int .i64 w) := at1_row hc rfl
theorem CI.lt {T : TypeId} {h : Heap} {b : Nat} {n w : Int} (hc : CI T h b n w) : b < h.size := row_lt hc
theorem CI.only {T : TypeId} {h h' : Heap} {b : Nat} {n w : Int} {S : Nat → Prop} (hc : CI T h b n w) (ho : Only S h h') (hs : ¬ S b) : CI T h' b n w := by
  have hl := hc.lt
  unfold CI at *
  rw [ho.same b hl hs, hc]
theorem CI.ext {T : TypeId} {h h' : Heap} {b : Nat} {n w : Int} (hc : CI T h b n w) (e : Ext h h') : CI T h' b n w := by
  have hl := hc.lt
  unfold CI at *
  rw [e.same b hl, hc]

def clampW (w : Int) : Int := mn (mx w 1) 64

theorem clampW_le (w : Int) : 1 ≤ clampW w ∧ clampW w ≤ 64 := by unfold clampW mn mx; omega

section
variable {R : Value → Heap → Prop} {h : Heap} {b : Nat} {n w : Int}

theorem new_spec {win : Int} (hr : ∀ h', CI 217 h' h.size 0 (clampW win) → Ext h h' → h'.size = h.size + 1 → R (TV.ptr (some ⟨h.size, 0⟩)).val h') : CallsH Tryz.prog 79 (TVs.vals [.int .i64 win]) h R := by
  apply clock_New_calls
  unfold clock_New_vc
  exact hr _ (newTV_get _ _ _) (newTV_ext _ _ _) (newTV_size _ _ _)

theorem first_spec (hc : CI 217 h b n w) (h0 : 0 ≤ n) (h1 : n ≤ 1073741824) (hw0 : 1 ≤ w) (hw1 : w ≤ 64) (hr : R (TV.int .i64 (mx (n - w) 0)).val h) : CallsH Tryz.prog 107 (TVs.vals [.ptr (some ⟨b, 0⟩)]) h R := by
  apply clock_Clock_First_calls
  refine ex_int hc.now ?_
  refine ex_int hc.win ?_
  rw [wrap_i64 (by omega) (by omega)]
  exact hr

def blockB (n final slot : Int) : Bool := decide (final < slot) && decide (slot ≤ n)

theorem block_spec (hc : CI 217 h b n w) {final slot : Int} (hr : R (TV.bool (blockB n final slot)).val h) : CallsH Tryz.prog 263 (TVs.vals [.ptr (some ⟨b, 0⟩), .int .i64 final, .int .i64 slot]) h R := by
  apply clock_Clock_Block_calls
  refine If.yes ?_
  unfold blockB at hr
  refine If.split (fun hd => ?_) (fun hd => ?_)
  · refine ex_int hc.now ?_
    rw [hd] at hr
    exact hr
  · rw [hd] at hr
    exact hr

def voteB (n w slot : Int) : Bool := decide (mx (n - w) 0 ≤ slot) && decide (slot ≤ mn (n + 1) 1073741824)

theorem vote_spec (hc : CI 217 h b n w) (h0 : 0 ≤ n) (h1 : n ≤ 1073741824) (hw0 : 1 ≤ w) (hw1 : w ≤ 64) {slot : Int} (hr : R (TV.bool (voteB n w slot)).val h) : CallsH Tryz.prog 262 (TVs.vals [.ptr (some ⟨b, 0⟩), .int .i64 slot]) h R := by
  apply clock_Clock_Vote_calls
  refine If.yes ?_
  refine first_spec hc h0 h1 hw0 hw1 ⟨_, rfl, ?_⟩
  unfold voteB at hr
  refine If.split (fun hd => ?_) (fun hd => ?_)
  · refine ex_int hc.now ?_
    rw [hd] at hr
    rw [wrap_i64 (by omega) (by omega)]
    exact hr
  · rw [hd] at hr
    exact hr

/-! ### The reference -/

end
end Go.Proofs.YtennbinbffdimaaGreat.Clock
end

section
/- A gate's parts in memory, each with what is its own. -/
namespace Go.Proofs.YtennbinbffdimaaGreat.Gate
open Go Go.Vc
open Pool (It WL Mine)
open Peers (Pe)

section
variable {h h' : Heap} {b w tb o n : Nat} {L : List Nd} {most quota ban decay gone : Int} {own : Nat → Int} {t : Tb} {I : List It} {P : List (Int × Int)} {S Q : Nat → Prop} {T : TypeId}

def TreeB (h : Heap) (b : Nat) (L : List Nd) (most : Int) (S : Nat → Prop) : Prop := ∃ r A, TrP h b r A L most ∧ S = TrMine b r A
def WeighB (h : Heap) (w tb : Nat) (L : List Nd) (own : Nat → Int) (S : Nat → Prop) : Prop := ∃ O X B G, WT h w tb O X B G L own ∧ S = WMine w O X B G
def TabB (h : Heap) (b : Nat) (t : Tb) (n : Nat) (S : Nat → Prop) : Prop := ∃ r La Ou ps, TbP h b r La Ou ps t n ∧ S = TbMine b r La Ou ps
def PoolB (T : TypeId) (h : Heap) (o : Nat) (I : List It) (most quota : Int) (S : Nat → Prop) : Prop := ∃ b A, WL T h o b A I most quota ∧ S = fun i => i = o ∨ Mine b A i
def PeB (h : Heap) (b : Nat) (P : List (Int × Int)) (most ban decay gone : Int) (S : Nat → Prop) : Prop := ∃ r, Pe h b r P most ban decay gone ∧ S = fun i => i = b ∨ i = r

theorem TreeB.only (p : TreeB h b L most S) (f : Only Q h h') (hs : ∀ i, S i → ¬ Q i) : TreeB h' b L most S := by
  obtain ⟨r, A, p, rfl⟩ := p
  exact ⟨r, A, p.only f hs, rfl⟩
theorem WeighB.only (p : WeighB h w tb L own S) (f : Only Q h h') (hs : ∀ i, S i → ¬ Q i) : WeighB h' w tb L own S := by
  obtain ⟨O, X, B, G, p, rfl⟩ := p
  exact ⟨O, X, B, G, WP.only p f hs, rfl⟩
theorem TabB.only (p : TabB h b t n S) (f : Only Q h h') (hs : ∀ i, S i → ¬ Q i) : TabB h' b t n S := by
  obtain ⟨r, La, Ou, ps, p, rfl⟩ := p
  exact ⟨r, La, Ou, ps, p.only f hs, rfl⟩
theorem PoolB.only (p : PoolB T h o I most quota S) (f : Only Q h h') (hs : ∀ i, S i → ¬ Q i) : PoolB T h' o I most quota S := by
  obtain ⟨b, A, p, rfl⟩ := p
  exact ⟨b, A, p.only f (hs _ (.inl rfl)) fun i hi => hs _ (.inr hi), rfl⟩
theorem PeB.only (p : PeB h b P most ban decay gone S) (f : Only Q h h') (hs : ∀ i, S i → ¬ Q i) : PeB h' b P most ban decay gone S := by
  obtain ⟨r, p, rfl⟩ := p
  exact ⟨r, p.only f (hs _ (.inl rfl)) (hs _ (.inr rfl)), rfl⟩

theorem TreeB.lt (p : TreeB h b L most S) : ∀ i, S i → i < h.size := by
  obtain ⟨r, A, p, rfl⟩ := p
  exact fun i hi => p.lt hi
theorem WeighB.lt (p : WeighB h w tb L own S) : ∀ i, S i → i < h.size := by
  obtain ⟨O, X, B, G, p, rfl⟩ := p
  exact fun i hi => WP.lt p hi
theorem TabB.lt (p : TabB h b t n S) : ∀ i, S i → i < h.size := by
  obtain ⟨r, La, Ou, ps, p, rfl⟩ := p
  exact fun i hi => p.lt hi
theorem PoolB.lt (p : PoolB T h o I most quota S) : ∀ i, S i → i < h.size := by
  obtain ⟨b, A, p, rfl⟩ := p
  rintro i (rfl | hi)
  · exact p.var.lt
  · exact p.pl.lt hi
theorem PeB.lt (p : PeB h b P most ban decay gone S) : ∀ i, S i → i < h.size := by
  obtain ⟨r, p, rfl⟩ := p
  rintro i (rfl | rfl)
  · exact p.var.lt
  · exact p.map.lt

end
end Go.Proofs.YtennbinbffdimaaGreat.Gate
end

section
/- Whether a configuration can be: the program's and the document's. -/
namespace Go.Proofs.YtennbinbffdimaaGreat.Gate
open Go Go.Vc Board
section
variable {R : Value → Heap → Prop} {h : Heap} {c : Cf} {L : List Vd}

theorem in_spec {n m : Int} (hr : R (TV.bool (inB n m)).val h) : CallsH Tryz.prog F.genesis_in (TVs.vals [.int .i64 n, .int .i64 m]) h R := by
  apply genesis_in_calls
  unfold genesis_in_vc
  unfold inB at hr
  refine If.dec.2 ⟨fun h1 => ?_, fun h1 => ?_⟩
  · rw [decide_eq_true h1, Bool.true_and] at hr; exact hr
  · rw [decide_eq_false h1, Bool.false_and] at hr; exact hr

theorem validator_spec {v : Vd} (hr : ∀ h', Ext h h' → R (TV.bool (okV v)).val h') : CallsH Tryz.prog F.genesis_validator (TVs.vals [v.tv]) h R := by
  apply genesis_validator_calls v.stake v.key
  unfold genesis_validator_vc
  refine newTV_in fun h1 v1 x1 s1 => ⟨v.stake, v1.at1 rfl, ?_⟩
  have hr1 := hr h1 x1
  unfold okV at hr1
  refine If.dec.2 ⟨fun a => ?_, fun a => ?_⟩
  · rw [decide_eq_true a, Bool.true_and] at hr1
    refine ⟨v.stake, v1.at1 rfl, If.dec.2 ⟨fun b => ?_, fun b => ?_⟩⟩
    · rw [decide_eq_true b, Bool.true_and] at hr1
      exact ⟨v.key, v1.at1 rfl, in_spec ⟨_, rfl, hr1⟩⟩
    · rw [decide_eq_false b, Bool.false_and] at hr1
      exact hr1
  · rw [decide_eq_false a, Bool.false_and, Bool.false_and] at hr1
    exact hr1

theorem totF_cons {v : Vd} {s : Int} : totF (v :: L) s = if okV v = true ∧ s + v.stake < 4611686018427387904 then totF L (s + v.stake) else none := rfl
theorem okV_stake {v : Vd} (hv : okV v = true) : 0 ≤ v.stake ∧ v.stake < 4611686018427387904 := by
  unfold okV at hv
  simp only [Bool.and_eq_true, decide_eq_true_eq] at hv
  exact hv.1

theorem gtotal_spec {s : Sl} (e : Elems 2 h s (vds L)) (hl : s.len < 100000) (hr : ∀ h', Ext h h' → R (TV.tup [.int .i64 ((totF L 0).getD 0), .bool (totF L 0).isSome]).val h') : CallsH Tryz.prog F.genesis_Total (TVs.vals [.slice s]) h R := by
  apply genesis_Total_calls
  unfold genesis_Total_vc
  have el : L.length = s.len := by have := e.len; rwa [List.length_map] at this
  refine ⟨fun σ hh => 0 ≤ σ.2.2.2 ∧ σ.2.2.2 ≤ s.len ∧ Ext h hh ∧ 0 ≤ σ.2.2.1 ∧ σ.2.2.1 < 4611686018427387904 ∧ totF L 0 = totF (L.drop σ.2.2.2.toNat) σ.2.2.1, fun σ _ => ((s.len : Int) - σ.2.2.2).toNat, ⟨Int.le_refl 0, by dsimp only; omega, Ext.refl _, Int.le_refl 0, by decide, rfl⟩, ?_⟩
  rintro ⟨a1, a2, t, i⟩ h2 ⟨i0, i1, x2, t0, t1, ht⟩
  dsimp only at i0 i1 t0 t1 ht ⊢
  refine If.dec.2 ⟨fun hi => ?_, fun hi => ?_⟩
  · refine read_vd (e.ext x2) i0 (by omega) fun x hx => newTV_in fun h3 v3 x3 s3 => put_in v3 (t := x.tv) rfl fun h4 v4 o4 s4 => ?_
    have x4 : Ext h h4 := x2.trans (Only.cut x3 o4 fun i hi => by omega)
    rw [drop_get hx, totF_cons] at ht
    refine ⟨x.stake, x.key, ⟨v4.at1 rfl, v4.at1 rfl⟩, validator_spec (v := x) fun h5 x5 => ⟨_, rfl, ?_⟩⟩
    have x5' := x4.trans x5
    have stop : totF L 0 = none → R (TV.tup [.int .i64 0, .bool false]).val h5 := fun hn => by have := hr h5 x5'; rw [hn] at this; exact this
    refine If.split (fun hb => stop ?_) fun hb => ⟨x.stake, (v4.ext x5).at1 rfl, ?_⟩
    · rw [ht, if_neg (fun hc => by rw [hc.1] at hb; cases hb)]
    · have ok : okV x = true := by simpa using hb
      have st := okV_stake ok
      rw [wrap_i64 (n := t + x.stake) (by omega) (by omega), wrap_i64 (n := i + 1) (by omega) (by omega)]
      refine If.dec.2 ⟨fun hg => stop ?_, fun hg => ⟨x.stake, (v4.ext x5).at1 rfl, ?_⟩⟩
      · rw [ht, if_neg (fun hc => by omega)]
      · rw [wrap_i64 (n := t + x.stake) (by omega) (by omega)]
        refine ⟨⟨by first | omega | (dsimp only; omega), by first | omega | (dsimp only; omega), x5', by first | omega | (dsimp only; omega), by first | omega | (dsimp only; omega), ?_⟩, by first | omega | (dsimp only; omega)⟩
        rw [if_pos ⟨ok, by omega⟩] at ht
        show totF L 0 = totF (L.drop (i + 1).toNat) (t + x.stake)
        rw [show (i + 1).toNat = i.toNat + 1 by omega]
        exact ht
  · have hi2 : i.toNat = L.length := by omega
    rw [hi2, List.drop_length] at ht
    have := hr h2 x2
    rw [ht] at this
    exact this

theorem bindex2_spec {s : Sl} {l : List Bool} {v : Bool} (e : Elems 1 h s (bools l)) (hl : l.length < 100000) (hr : ∀ n : Int, (0 ≤ n ↔ v ∈ l) → R (TV.int .i64 n).val h) : CallsH Tryz.prog 200 (TVs.vals [.slice s, .bool v]) h R := by
  apply slices_Index___bool_bool__calls
  unfold slices_Index___bool_bool__vc
  have el : l.length = s.len := by have := e.len; rwa [List.length_map] at this
  refine ⟨fun σ hh => 0 ≤ σ.2 ∧ σ.2 ≤ s.len ∧ hh = h ∧ v ∉ l.take σ.2.toNat, fun σ _ => ((s.len : Int) - σ.2).toNat, ⟨Int.le_refl 0, by first | omega | (dsimp only; omega), rfl, by simp⟩, ?_⟩
  rintro ⟨f, i⟩ hh ⟨i0, i1, rfl, ht⟩
  dsimp only at i0 i1 ht ⊢
  refine If.dec.2 ⟨fun hi => ?_, fun hi => ?_⟩
  · refine read_bool e i0 (by omega) fun x hx => If.split (fun hb => ?_) fun hb => ?_
    · have hb : v = x := by simpa using hb
      subst hb
      exact hr i ⟨fun _ => List.mem_of_getElem? hx, fun _ => i0⟩
    · have hb : v ≠ x := by simpa using hb
      rw [wrap_i64 (n := i + 1) (by omega) (by omega)]
      refine ⟨⟨by first | omega | (dsimp only; omega), by first | omega | (dsimp only; omega), rfl, ?_⟩, by first | omega | (dsimp only; omega)⟩
      show v ∉ l.take (i + 1).toNat
      rw [show (i + 1).toNat = i.toNat + 1 by omega, take_snoc hx, List.mem_append, List.mem_singleton]
      rintro (h1 | h1)
      · exact ht h1
      · exact hb h1
  · rw [List.take_of_length_le (by omega)] at ht
    exact hr (-1) ⟨fun h0 => by omega, fun hm => absurd hm ht⟩

theorem contains2_spec {s : Sl} {l : List Bool} {v : Bool} (e : Elems 1 h s (bools l)) (hl : l.length < 100000) (hr : R (TV.bool (decide (v ∈ l))).val h) : CallsH Tryz.prog 140 (TVs.vals [.slice s, .bool v]) h R := by
  apply slices_Contains___bool_bool__calls
  unfold slices_Contains___bool_bool__vc
  refine bindex2_spec e hl fun n hn => ⟨n, rfl, ?_⟩
  rw [show decide (0 ≤ n) = decide (v ∈ l) from decide_eq_decide.2 hn]
  exact hr

/-- What a configuration's numbers are checked for. -/
def checksC (c : Cf) (n : Nat) : List Bool := [inB c.ep 32, inB c.com (min 16 n), inB c.no 256, inB c.orp 64, inB c.ear 64, inB c.quo 64, inB c.pe 16, inB c.by_ 256, inB c.win 64, inB c.ban 1048576, inB c.dec 1048576]
theorem goodC_checks : goodC c L = ((totF L 0).isSome && inB L.length 64 && !decide (false ∈ checksC c L.length)) := by
  unfold goodC checksC
  congr 1
  generalize inB c.ep 32 = a1; generalize inB c.com (min 16 L.length) = a2; generalize inB c.no 256 = a3; generalize inB c.orp 64 = a4; generalize inB c.ear 64 = a5; generalize inB c.quo 64 = a6; generalize inB c.pe 16 = a7; generalize inB c.by_ 256 = a8; generalize inB c.win 64 = a9; generalize inB c.ban 1048576 = a10; generalize inB c.dec 1048576 = a11
  cases a1 <;> cases a2 <;> cases a3 <;> cases a4 <;> cases a5 <;> cases a6 <;> cases a7 <;> cases a8 <;> cases a9 <;> cases a10 <;> cases a11 <;> rfl

theorem ggood_spec (e : Elems 2 h c.vals (vds L)) (hl : c.vals.len < 100000) (hr : ∀ h', Ext h h' → R (TV.bool (goodC c L)).val h') : CallsH Tryz.prog F.genesis_Good (TVs.vals [c.tv]) h R := by
  apply genesis_Good_calls c.vals c.ep c.com c.no c.orp c.ear c.quo c.pe c.by_ c.win c.ban c.dec
  unfold genesis_Good_vc
  have el : L.length = c.vals.len := by have := e.len; rwa [List.length_map] at this
  refine newTV_in fun h1 v1 x1 s1 => ?_
  intro J HJ
  refine ⟨c.vals, v1.at1 rfl, gtotal_spec (e.ext x1) hl fun h2 x2 => ⟨_, _, rfl, ?_⟩⟩
  have v2 : Var 24 h2 h.size c.tv := v1.ext x2
  rw [goodC_checks] at hr
  have hr2 := fun h' x' => hr h' ((x1.trans x2).trans x')
  refine If.split (fun hb => ?_) fun hb => ?_
  · have hb : (totF L 0).isSome = false := by simpa using hb
    have := hr2 h2 (Ext.refl _)
    rw [hb] at this
    exact this
  · have hb : (totF L 0).isSome = true := by simpa using hb
    rw [hb, Bool.true_and] at hr2
    refine ⟨c.vals, v2.at1 rfl, in_spec ⟨_, rfl, ?_⟩⟩
    rw [← el]
    refine If.split (fun hc => ?_) fun hc => ?_
    · have hc : inB L.length 64 = false := by simpa using hc
      have := hr2 h2 (Ext.refl _)
      rw [hc] at this
      exact this
    · have hc : inB L.length 64 = true := by simpa using hc
      rw [hc, Bool.true_and] at hr2
      refine HJ false h2 ?_
      refine ⟨_, v2.at1 rfl, _, v2.at1 rfl, c.vals, v2.at1 rfl, _, v2.at1 rfl, _, v2.at1 rfl, _, v2.at1 rfl, _, v2.at1 rfl, _, v2.at1 rfl, _, v2.at1 rfl, _, v2.at1 rfl, _, v2.at1 rfl, _, v2.at1 rfl, ?_⟩
      refine in_spec ⟨_, rfl, Ext.refl _, in_spec ⟨_, rfl, Ext.refl _, in_spec ⟨_, rfl, Ext.refl _, in_spec ⟨_, rfl, Ext.refl _, in_spec ⟨_, rfl, Ext.refl _, in_spec ⟨_, rfl, Ext.refl _, in_spec ⟨_, rfl, Ext.refl _, in_spec ⟨_, rfl, Ext.refl _, in_spec ⟨_, rfl, Ext.refl _, in_spec ⟨_, rfl, Ext.refl _, in_spec ⟨_, rfl, ?_⟩⟩⟩⟩⟩⟩⟩⟩⟩⟩⟩
      have hm : mn 16 (c.vals.len : Int) = min 16 (L.length : Int) := by rw [mn_eq, el]
      rw [hm]
      have o := Own.new (T := 4) (sz := 1) h2 (bools (checksC c L.length)) (fun t ht => by
        obtain ⟨x, _, rfl⟩ := List.mem_map.1 ht
        rfl)
      exact contains2_spec o.elems (by simp [checksC]) ⟨_, rfl, hr2 _ (Ext.push _ _)⟩

end
end Go.Proofs.YtennbinbffdimaaGreat.Gate
end

section
/- A configuration's bytes and the first block's name: the program's and the document's. -/
namespace Go.Proofs.YtennbinbffdimaaGreat.Gate
open Go Go.Vc Board
section
variable {R : Value → Heap → Prop} {h : Heap} {c : Cf} {L : List Vd}

theorem le4_len (n : Int) : (le4 n).length = 4 := leF_length 4 _
theorem bytesV_len {v : Vd} : (bytesV v).length = 9 + v.key.length := by
  unfold bytesV
  rw [List.length_append, List.length_append, leF_length, leF_length]
theorem flat_le4 : ∀ (l : List Int), (l.flatMap le4).length = 4 * l.length
  | [] => rfl
  | n :: l => by rw [List.flatMap_cons, List.length_append, le4_len, flat_le4 l, List.length_cons]; omega
theorem flat_bytesV : ∀ (l : List Vd), (∀ v ∈ l, v.key.length ≤ 32) → (l.flatMap bytesV).length ≤ 41 * l.length
  | [], _ => Nat.le_refl 0
  | v :: l, h => by
    have h1 := h v (List.mem_cons_self)
    have h2 := flat_bytesV l fun x hx => h x (List.mem_cons_of_mem _ hx)
    rw [List.flatMap_cons, List.length_append, bytesV_len, List.length_cons]
    omega
theorem flat_snoc {α β : Type} {f : α → List β} {l : List α} {x : α} : (l ++ [x]).flatMap f = l.flatMap f ++ f x := by simp

theorem Row_weak {Q Q' : Nat → Prop} {s : Sl} {bs : List UInt8} (r : Row Q h s bs) (hq : ∀ i, Q i → Q' i) : Row Q' h s bs := ⟨r.own, fun l hl => hq _ (r.far l hl), fun i hi => hq _ (r.new i hi)⟩

set_option maxRecDepth 100000 in
theorem gbytes_spec (e : Elems 2 h c.vals (vds L)) (hl : c.vals.len ≤ 64) (hk : ∀ v ∈ L, v.key.length ≤ 32) (hr : ∀ h', Ext h h' → R (TV.str (bytesC c L)).val h') : CallsH Tryz.prog F.genesis_Bytes (TVs.vals [c.tv]) h R := by
  apply genesis_Bytes_calls c.vals c.ep c.com c.no c.orp c.ear c.quo c.pe c.by_ c.win c.ban c.dec
  unfold genesis_Bytes_vc
  have el : L.length = c.vals.len := by have := e.len; rwa [List.length_map] at this
  refine newTV_in fun h1 v1 x1 s1 => ?_
  refine ⟨_, v1.at1 rfl, _, v1.at1 rfl, _, v1.at1 rfl, _, v1.at1 rfl, _, v1.at1 rfl, _, v1.at1 rfl, _, v1.at1 rfl, _, v1.at1 rfl, _, v1.at1 rfl, _, v1.at1 rfl, _, v1.at1 rfl, c.vals, v1.at1 rfl, ?_⟩
  have on := Own.new (T := 3) (sz := 1) h1 (ints (numsC c L.length)) (fun t ht => by
    obtain ⟨x, _, rfl⟩ := List.mem_map.1 ht
    rfl)
  have hn : TVs.cells [TV.int IntKind.i64 c.ep, TV.int IntKind.i64 c.com, TV.int IntKind.i64 c.no, TV.int IntKind.i64 c.orp, TV.int IntKind.i64 c.ear, TV.int IntKind.i64 c.quo, TV.int IntKind.i64 c.pe, TV.int IntKind.i64 c.by_, TV.int IntKind.i64 c.win, TV.int IntKind.i64 c.ban, TV.int IntKind.i64 c.dec, TV.int IntKind.i64 (c.vals.len : Int)] = TVs.cells (ints (numsC c L.length)) := by rw [← el]; rfl
  rw [hn]
  have xp := Ext.push h1 (Vc.row (TVs.cells (ints (numsC c L.length))) 3)
  have sp : (h1.push (Vc.row (TVs.cells (ints (numsC c L.length))) 3)).size = h1.size + 1 := by simp
  generalize h1.push (Vc.row (TVs.cells (ints (numsC c L.length))) 3) = h2 at on xp sp ⊢
  have x02 := x1.trans xp
  have en := on.elems
  have r0 : Row (fun i => h1.size < i) h2 Sl.nil [] := ⟨Own.nil _ _ _, (fun l hl => by cases hl), fun i hi => by omega⟩
  refine ⟨fun σ hh => 0 ≤ σ.2 ∧ σ.2 ≤ 12 ∧ Row (fun i => h1.size < i) hh σ.1 (((numsC c L.length).take σ.2.toNat).flatMap le4) ∧ Only (fun i => h1.size < i) h2 hh, fun σ _ => (12 - σ.2).toNat, ⟨Int.le_refl 0, by decide, r0, Only.refl _ _⟩, ?_⟩
  rintro ⟨s, i⟩ h3 ⟨i0, i1, r3, o3⟩
  dsimp only at i0 i1 r3 ⊢
  have x3 : Ext h h3 := Only.cut x02 o3 fun i hi => by omega
  refine If.dec.2 ⟨fun hi => ?_, fun hi => ?_⟩
  · have hi : i < 12 := hi
    have en3 : Elems 1 h3 ⟨some ⟨h1.size, 0⟩, 12, 12⟩ (ints (numsC c L.length)) := (on.only o3 (fun l hl => by cases hl; exact Nat.lt_irrefl _)).elems
    obtain ⟨x, hx⟩ : ∃ x, (numsC c L.length)[i.toNat]? = some x := ⟨_, List.getElem?_eq_getElem (show i.toNat < (numsC c L.length).length by show i.toNat < 12; omega)⟩
    have hat := en3.get _ rfl i.toNat (.int .i64 x) (by rw [List.getElem?_map, hx]; rfl)
    refine ⟨i0, hi, x, hat, ?_⟩
    refine put_spec_le (k := 4) r3 (by rw [flat_le4, List.length_take]; show 4 * min i.toNat 12 < 5000; omega) (by decide) fun h4 s4 r4 o4 => ⟨_, rfl, ?_⟩
    rw [wrap_i64 (n := i + 1) (by omega) (by omega)]
    refine ⟨⟨by first | omega | (dsimp only; omega), by first | omega | (dsimp only; omega), ?_, o3.trans o4⟩, by first | omega | (dsimp only; omega)⟩
    show Row _ _ _ (((numsC c L.length).take (i + 1).toNat).flatMap le4)
    rw [show (i + 1).toNat = i.toNat + 1 by omega, take_snoc hx, flat_snoc]
    exact r4
  · have hi2 : i.toNat = (numsC c L.length).length := by show i.toNat = 12; have : ¬ i < 12 := hi; omega
    rw [hi2, List.take_length] at r3
    have v3 : Var 24 h3 h.size c.tv := (v1.ext xp).only o3 (by omega)
    refine ⟨c.vals, v3.at1 rfl, ?_⟩
    refine ⟨fun σ hh => 0 ≤ σ.2 ∧ σ.2 ≤ c.vals.len ∧ Row (fun i => h1.size < i) hh σ.1 ((numsC c L.length).flatMap le4 ++ (L.take σ.2.toNat).flatMap bytesV) ∧ Ext h hh, fun σ _ => ((c.vals.len : Int) - σ.2).toNat, ⟨Int.le_refl 0, by first | omega | (dsimp only; omega), by simpa using r3, x3⟩, ?_⟩
    rintro ⟨s, i⟩ h4 ⟨i0, i1, r4, x4⟩
    dsimp only at i0 i1 r4 ⊢
    refine If.dec.2 ⟨fun hi => ?_, fun hi => ?_⟩
    · refine read_vd (e.ext x4) i0 (by omega) fun x hx => newTV_in fun h5 v5 x5 s5 => put_in v5 (t := x.tv) rfl fun h6 v6 o6 s6 => ?_
      have x46 : Ext h4 h6 := Only.cut x5 o6 fun i hi => by omega
      have r6 := r4.ext x46
      have r6 : Row (fun i => h1.size < i ∧ i ≠ h4.size) h6 s ((numsC c L.length).flatMap le4 ++ (L.take i.toNat).flatMap bytesV) := ⟨r6.own, fun l hl => ⟨r6.far l hl, fun hc => by have := r4.own.lt l hl; omega⟩, fun i hi => ⟨r6.new i hi, by omega⟩⟩
      have kx := hk x (List.mem_of_getElem? hx)
      have tl := flat_bytesV (L.take i.toNat) fun v hv => hk v (List.mem_of_mem_take hv)
      rw [List.length_take] at tl
      have l6 : ((numsC c L.length).flatMap le4 ++ (L.take i.toNat).flatMap bytesV).length ≤ 48 + 41 * 64 := by
        rw [List.length_append, flat_le4]
        show 4 * 12 + _ ≤ _
        omega
      have vk : Var 137 (Vc.keeps (· = h4.size) h6) h4.size x.tv := v6.keeps (S := (· = h4.size)) rfl
      refine ⟨Vc.keeps (· = h4.size) h6, keeps_refl, _, vk.at1 rfl, _, vk.at1 rfl, _, vk.at1 rfl, ?_⟩
      refine put_spec_le (k := 8) r6 (by omega) (by decide) fun h7 s7 r7 o7 => ⟨_, rfl, keeps_of o7 (fun i hi hq => hq.2 hi), ?_⟩
      refine put_spec_le (k := 1) r7 (by rw [List.length_append, leF_length]; omega) (by decide) fun h8 s8 r8 o8 => ⟨_, rfl, keeps_of (o7.trans o8) (fun i hi hq => hq.2 hi), app_loose ?_⟩
      refine app_bytes r8 (by rw [List.length_append, List.length_append, leF_length, leF_length]; omega) fun s9 h9 r9 f9 b9 => ?_
      have f9 := r8.cut f9
      rw [wrap_i64 (n := i + 1) (by omega) (by omega)]
      refine ⟨⟨by first | omega | (dsimp only; omega), by first | omega | (dsimp only; omega), ?_, Only.cut (x4.trans x46) ((o7.trans o8).trans f9) fun i hi => by omega⟩, by first | omega | (dsimp only; omega)⟩
      show Row _ _ _ ((numsC c L.length).flatMap le4 ++ (L.take (i + 1).toNat).flatMap bytesV)
      rw [show (i + 1).toNat = i.toNat + 1 by omega, take_snoc hx, flat_snoc]
      have := Row_weak r9 (Q' := fun i => h1.size < i) fun i hi => hi.1
      rw [show bytesV x = (leF (IntKind.wrap .u64 x.stake) 8 ++ leF (IntKind.wrap .u64 (x.key.length : Int)) 1) ++ x.key from rfl]
      simp only [List.append_assoc] at this ⊢
      exact this
    · have hi2 : i.toNat = L.length := by omega
      rw [hi2, List.take_length] at r4
      exact ⟨_, r4.str, hr h4 x4⟩

theorem bytesC_len (hk : ∀ v ∈ L, v.key.length ≤ 32) : (bytesC c L).length ≤ 48 + 41 * L.length := by
  have := flat_bytesV L hk
  unfold bytesC
  rw [List.length_append, flat_le4]
  show 4 * 12 + _ ≤ _
  omega

theorem toller_len : toller.length = 6 := by decide

theorem groot_spec (e : Elems 2 h c.vals (vds L)) (hl : c.vals.len ≤ 64) (hk : ∀ v ∈ L, v.key.length ≤ 32) (hr : ∀ h', Ext h h' → R (TV.bytes 32 (rootC c L)).val h') : CallsH Tryz.prog F.genesis_Root (TVs.vals [c.tv]) h R := by
  apply genesis_Root_calls c.vals c.ep c.com c.no c.orp c.ear c.quo c.pe c.by_ c.win c.ban c.dec
  unfold genesis_Root_vc
  have el : L.length = c.vals.len := by have := e.len; rwa [List.length_map] at this
  refine newTV_in fun h1 v1 x1 s1 => newTV_in fun h2 v2 x2 s2 => ?_
  refine ⟨c.vals, c.ep, c.com, c.no, c.orp, c.ear, c.quo, c.pe, c.by_, c.win, c.ban, c.dec, (v1.ext x2).at, ?_⟩
  have x02 := x1.trans x2
  have bl := bytesC_len (c := c) hk
  refine gbytes_spec (e.ext x02) hl hk fun h3 x3 => ⟨_, rfl, ?_⟩
  have xp := Ext.push h3 (row (TVs.cells [TV.str toller, TV.str (bytesC c L)]) 9)
  refine of2_spec (ts := [toller, bytesC c L]) ?_ ?_ (by simp) fun h4 x4 => ⟨_, rfl, ?_⟩
  · exact (Own.new (T := 9) (sz := 1) h3 [TV.str toller, TV.str (bytesC c L)] (fun t ht => by
      simp only [List.mem_cons, List.not_mem_nil, or_false] at ht
      rcases ht with rfl | rfl <;> rfl)).elems
  · simp only [List.flatten_cons, List.flatten_nil, List.append_nil, List.length_append, toller_len]
    omega
  · have hf : [toller, bytesC c L].flatten = toller ++ bytesC c L := by simp
    rw [hf]
    refine put_in (((v2.ext x3).ext xp).ext x4) (t := .bytes 32 (rootC c L)) bsz fun h5 v5 o5 s5 => ⟨_, v5.bytes, ?_⟩
    exact hr h5 (Only.cut (((x02.trans x3).trans xp).trans x4) o5 fun i hi => by have := x1.size; omega)

end
end Go.Proofs.YtennbinbffdimaaGreat.Gate
end

section
/- A gate in memory; a new book. -/
namespace Go.Proofs.YtennbinbffdimaaGreat.Gate
open Go Go.Vc
open Board (Vd Cf vds)
open Pool (It WL Mine)
open Peers (Pe)

/-- Where a gate's parts are. -/
structure Ad where
  tr : Nat
  we : Nat
  ta : Nat
  bk : Nat
  kd : Nat
  wt : Nat
  wh : Nat
  clk : Nat

def bookTV (c : Cf) (a : Ad) : TV := .agg [c.tv, .ptr (some ⟨a.tr, 0⟩), .ptr (some ⟨a.we, 0⟩), .ptr (some ⟨a.ta, 0⟩)]
def gateTV (c : Cf) (a : Ad) (left : Int) : TV := .agg [c.tv, .ptr (some ⟨a.clk, 0⟩), .agg [.ptr (some ⟨a.bk, 0⟩), .ptr (some ⟨a.kd, 0⟩), .ptr (some ⟨a.wt, 0⟩), .ptr (some ⟨a.wh, 0⟩)], .int .i64 left]

/-- A gate at block g. -/
structure GateB (h : Heap) (g : Nat) (a : Ad) (c : Cf) (V : List Vd) (s : St) (Fp : Nat → Nat → Prop) : Prop where
  sep : Sep h Fp
  tree : TreeB h a.tr s.N c.no (Fp 0)
  wei : WeighB h a.we a.tr s.N (ownOf (stakes V) s.tb s.N) (Fp 1)
  tab : TabB h a.ta s.tb V.length (Fp 2)
  bk : Var T.votes_Book h a.bk (bookTV c a)
  f3 : Fp 3 = (· = a.bk)
  kids : PoolB T.orphans_Orphans h a.kd s.kids c.orp c.quo (Fp 4)
  wait : PoolB T.early_Early h a.wt s.wait c.ear c.quo (Fp 5)
  who : PeB h a.wh s.sc c.pe c.ban c.dec s.gone (Fp 6)
  clk : Clock.CI T.clock_Clock h a.clk s.now (Clock.clampW c.win)
  f7 : Fp 7 = (· = a.clk)
  var : Var T.gate_Gate h g (gateTV c a s.left)
  f8 : Fp 8 = (· = g)
  vals : Elems 2 h c.vals (vds V)
  off : ∀ k i, Fp k i → ¬ In c.vals i
  can : Can c V

section
variable {R : Value → Heap → Prop} {h h' : Heap} {g : Nat} {a : Ad} {c : Cf} {V : List Vd} {s : St} {Fp : Nat → Nat → Prop}

theorem TV.at_keep {S : Nat → Prop} {h h' : Heap} (e : Only S h h') {s : Sl} {sz : Nat} {ts : List TV} (he : Elems sz h s ts) (hs : ∀ i, In s i → ¬ S i) : Elems sz h' s ts :=
  ⟨he.len, he.nil, fun l hl i t ht => TV.at_only e (hs l.b ⟨l, hl, rfl⟩) (he.get l hl i t ht)⟩

theorem GateB.only {Q : Nat → Prop} (p : GateB h g a c V s Fp) (f : Only Q h h') (hs : ∀ k i, Fp k i → ¬ Q i) (hv : ∀ i, In c.vals i → ¬ Q i) : GateB h' g a c V s Fp :=
  ⟨⟨p.sep.dis, fun j i hi => by have := p.sep.lt j i hi; have := f.size; omega⟩, p.tree.only f (hs 0), p.wei.only f (hs 1), p.tab.only f (hs 2), p.bk.only f (hs 3 _ (by rw [p.f3])), p.f3, p.kids.only f (hs 4), p.wait.only f (hs 5), p.who.only f (hs 6),
    p.clk.only f (hs 7 _ (by rw [p.f7])), p.f7, p.var.only f (hs 8 _ (by rw [p.f8])), p.f8, TV.at_keep f p.vals hv, p.off, p.can⟩
theorem GateB.ext (p : GateB h g a c V s Fp) (x : Ext h h') : GateB h' g a c V s Fp := p.only (Q := fun _ => False) (.of_ext x) (fun _ _ _ hf => hf) fun _ _ hf => hf

theorem bnew_spec (e : Elems 2 h c.vals (vds V)) (k : Can c V)
    (hr : ∀ h' tr we ta bk m1 m2 S0 S1 S2, Var T.votes_Book h' bk (.agg [c.tv, .ptr (some ⟨tr, 0⟩), .ptr (some ⟨we, 0⟩), .ptr (some ⟨ta, 0⟩)]) → TreeB h' tr (newSt c V).N c.no S0 → WeighB h' we tr (newSt c V).N (fun _ => 0) S1 → TabB h' ta (newTb V.length c.ep) V.length S2 →
      Ext h h' → (∀ i, S0 i → h.size ≤ i ∧ i < m1) → (∀ i, S1 i → m1 ≤ i ∧ i < m2) → (∀ i, S2 i → m2 ≤ i ∧ i < bk) → h.size ≤ m1 → m1 ≤ m2 → m2 ≤ bk → bk < h'.size → R (TV.ptr (some ⟨bk, 0⟩)).val h') :
    CallsH Tryz.prog F.votes_New (TVs.vals [c.tv]) h R := by
  apply votes_New_calls c.vals c.ep c.com c.no c.orp c.ear c.quo c.pe c.by_ c.win c.ban c.dec
  unfold votes_New_vc
  have el : V.length = c.vals.len := by have := e.len; rwa [List.length_map] at this
  have kl := k.len
  have keys := can_keys k
  refine newTV_in fun h1 v1 x1 s1 => ?_
  refine ⟨c.vals, c.ep, c.com, c.no, c.orp, c.ear, c.quo, c.pe, c.by_, c.win, c.ban, c.dec, v1.at, ?_⟩
  refine ggood_spec (e.ext x1) (by omega) fun h2 x2 => ⟨_, rfl, ?_⟩
  rw [good_can.2 k]
  have v2 : Var 24 h2 h.size c.tv := v1.ext x2
  have x02 := x1.trans x2
  refine If.no ⟨c.vals, c.ep, c.com, c.no, c.orp, c.ear, c.quo, c.pe, c.by_, c.win, c.ban, c.dec, v2.at, c.no, v2.at1 rfl, ?_⟩
  refine groot_spec (e.ext x02) (by omega) (fun v hv => (keys v hv).2) fun h3 x3 => ⟨_, rfl, x3, ?_⟩
  have x03 := x02.trans x3
  have z1 := x1.size
  have z2 := x2.size
  have z3 := x3.size
  refine New_spec (fun hn => absurd ⟨k.no.1, k.no.2, by decide, by decide⟩ hn) fun _ h4 tr r A p4 x4 new4 => ⟨_, _, rfl, ?_⟩
  have v4 : Var 24 h4 h.size c.tv := v2.ext (x3.trans x4)
  refine ⟨c.vals, c.ep, c.com, c.no, c.orp, c.ear, c.quo, c.pe, c.by_, c.win, c.ban, c.dec, v4.at, c.vals, v4.at1 rfl, c.ep, v4.at1 rfl, ?_⟩
  refine WNew_spec p4 fun h5 w O S B G p5 x5 new5 => ⟨_, rfl, x5, ?_⟩
  rw [← el]
  refine TNew_spec (fun hn => absurd ⟨by omega, by omega, k.ep.1, k.ep.2⟩ hn) fun _ h6 ta r6 La Ou ps p6 x6 new6 => ⟨_, rfl, x6, ?_⟩
  refine newTV_in fun h7 v7 x7 s7 => ?_
  rw [show ((V.length : Int)).toNat = V.length by omega] at p6
  have z4 := x4.size
  have z5 := x5.size
  have z6 := x6.size
  refine hr h7 tr w ta h6.size h4.size h5.size (TrMine tr r A) (WMine w O S B G) (TbMine ta r6 La Ou ps) v7 ⟨r, A, p4.ext ((x5.trans x6).trans x7), rfl⟩ ⟨O, S, B, G, WP.ext p5 (x6.trans x7), rfl⟩ ⟨r6, La, Ou, ps, p6.ext x7, rfl⟩
    ((((x03.trans x4).trans x5).trans x6).trans x7) (fun i hi => ⟨by have := new4 i hi; omega, p4.lt hi⟩) (fun i hi => new5 i hi) (fun i hi => ⟨new6 i hi, p6.lt hi⟩) (by omega) z5 z6 (by omega)

end
end Go.Proofs.YtennbinbffdimaaGreat.Gate
end

section
/- A new gate. -/
namespace Go.Proofs.YtennbinbffdimaaGreat.Gate
open Go Go.Vc
open Board (Vd Cf vds)
open Pool (It WL Mine)
open Peers (Pe)

/-- A new book's parts. -/
structure NewB (lo : Nat) (h : Heap) (c : Cf) (V : List Vd) (a : Ad) (m1 m2 : Nat) (S0 S1 S2 : Nat → Prop) : Prop where
  var : Var T.votes_Book h a.bk (bookTV c a)
  tree : TreeB h a.tr (newSt c V).N c.no S0
  wei : WeighB h a.we a.tr (newSt c V).N (fun _ => 0) S1
  tab : TabB h a.ta (newTb V.length c.ep) V.length S2
  r0 : ∀ i, S0 i → lo ≤ i ∧ i < m1
  r1 : ∀ i, S1 i → m1 ≤ i ∧ i < m2
  r2 : ∀ i, S2 i → m2 ≤ i ∧ i < a.bk
  l0 : lo ≤ m1
  l1 : m1 ≤ m2
  l2 : m2 ≤ a.bk

section
variable {R : Value → Heap → Prop} {h h' : Heap} {g lo m1 m2 : Nat} {a : Ad} {c : Cf} {V : List Vd} {s : St} {S0 S1 S2 S4 S5 S6 : Nat → Prop}

theorem NewB.ext (p : NewB lo h c V a m1 m2 S0 S1 S2) (x : Ext h h') : NewB lo h' c V a m1 m2 S0 S1 S2 :=
  ⟨p.var.ext x, p.tree.only (.of_ext x) (fun _ _ hf => hf), p.wei.only (.of_ext x) (fun _ _ hf => hf), p.tab.only (.of_ext x) (fun _ _ hf => hf), p.r0, p.r1, p.r2, p.l0, p.l1, p.l2⟩
theorem PoolB.ext {T : TypeId} {o : Nat} {I : List It} {most quota : Int} {S : Nat → Prop} (p : PoolB T h o I most quota S) (x : Ext h h') : PoolB T h' o I most quota S := p.only (.of_ext x) fun _ _ hf => hf
theorem PeB.ext {b : Nat} {P : List (Int × Int)} {most ban decay gone : Int} {S : Nat → Prop} (p : PeB h b P most ban decay gone S) (x : Ext h h') : PeB h' b P most ban decay gone S := p.only (.of_ext x) fun _ _ hf => hf

theorem mine_nil {b i : Nat} (hi : Mine b Sl.nil i) : i = b := by
  rcases hi with h1 | h1
  · exact h1
  · exact (no_In h1).elim

/-- A new pool's own. -/
def Two (n : Nat) (S : Nat → Prop) : Prop := ∀ i, S i → n ≤ i ∧ i < n + 2

theorem onewB {n q : Int} (k : 1 ≤ n ∧ n ≤ 64) (kq : 1 ≤ q ∧ q ≤ 64) (hr : ∀ h' S, PoolB T.orphans_Orphans h' (h.size + 1) [] n q S → Two h.size S → Ext h h' → h'.size = h.size + 2 → R (TV.ptr (some ⟨h.size + 1, 0⟩)).val h') : CallsH Tryz.prog F.orphans_New (TVs.vals [.int .i64 n, .int .i64 q]) h R :=
  Pool.onew_spec (fun hn => absurd ⟨k.1, k.2, kq.1, kq.2⟩ hn) fun _ h' w x z => hr h' _ ⟨_, _, w, rfl⟩ (fun i hi => by
    rcases hi with h1 | h1
    · omega
    · have := mine_nil h1; omega) x z
theorem enewB {n q : Int} (k : 1 ≤ n ∧ n ≤ 64) (kq : 1 ≤ q ∧ q ≤ 64) (hr : ∀ h' S, PoolB T.early_Early h' (h.size + 1) [] n q S → Two h.size S → Ext h h' → h'.size = h.size + 2 → R (TV.ptr (some ⟨h.size + 1, 0⟩)).val h') : CallsH Tryz.prog F.early_New (TVs.vals [.int .i64 n, .int .i64 q]) h R :=
  Pool.enew_spec (fun hn => absurd ⟨k.1, k.2, kq.1, kq.2⟩ hn) fun _ h' w x z => hr h' _ ⟨_, _, w, rfl⟩ (fun i hi => by
    rcases hi with h1 | h1
    · omega
    · have := mine_nil h1; omega) x z
theorem pnewB {n b d : Int} (k : Peers.Valid n b d) (hr : ∀ h' S, PeB h' (h.size + 1) [] n b d 0 S → Two h.size S → Ext h h' → R (TV.ptr (some ⟨h.size + 1, 0⟩)).val h') : CallsH Tryz.prog F.peers_New (TVs.vals [.int .i64 n, .int .i64 b, .int .i64 d]) h R :=
  Peers.New_spec (fun _ h' x p => hr h' _ ⟨_, p, rfl⟩ (fun i hi => by omega) x) fun hn => absurd k hn

/-- The parts of a new gate, all of them. -/
structure NewP (lo : Nat) (h : Heap) (c : Cf) (V : List Vd) (a : Ad) (m1 m2 k4 k5 k6 : Nat) (S0 S1 S2 S4 S5 S6 : Nat → Prop) : Prop where
  b : NewB lo h c V a m1 m2 S0 S1 S2
  kids : PoolB T.orphans_Orphans h a.kd [] c.orp c.quo S4
  wait : PoolB T.early_Early h a.wt [] c.ear c.quo S5
  who : PeB h a.wh [] c.pe c.ban c.dec 0 S6
  r4 : Two k4 S4
  r5 : Two k5 S5
  r6 : Two k6 S6
  l4 : a.bk < k4
  l5 : k4 + 2 ≤ k5
  l6 : k5 + 2 ≤ k6

def partsOf (S0 S1 S2 S4 S5 S6 : Nat → Prop) (a : Ad) (g : Nat) : Nat → Nat → Prop
  | 0 => S0
  | 1 => S1
  | 2 => S2
  | 3 => (· = a.bk)
  | 4 => S4
  | 5 => S5
  | 6 => S6
  | 7 => (· = a.clk)
  | 8 => (· = g)
  | _ => fun _ => False

theorem NewP.gate {k4 k5 k6 : Nat} (p : NewP lo h c V a m1 m2 k4 k5 k6 S0 S1 S2 S4 S5 S6) (l7 : k6 + 2 ≤ a.clk) (l8 : a.clk < g)
    (clk : Clock.CI T.clock_Clock h a.clk 0 (Clock.clampW c.win)) (var : Var T.gate_Gate h g (gateTV c a 0)) (vals : Elems 2 h c.vals (vds V)) (off : ∀ i, In c.vals i → i < lo) (can : Can c V) :
    GateB h g a c V (newSt c V) (partsOf S0 S1 S2 S4 S5 S6 a g) := by
  have gl := var.lt
  have lo1 := p.b.l0
  have lo2 := p.b.l1
  have lo3 := p.b.l2
  have lo4 := p.l4
  have lo5 := p.l5
  have lo6 := p.l6
  refine ⟨?_, p.b.tree, ?_, p.b.tab, p.b.var, rfl, p.kids, p.wait, p.who, clk, rfl, var, rfl, vals, ?_, can⟩
  · refine Sep.made (lo := fun | 0 => lo | 1 => m1 | 2 => m2 | 3 => a.bk | 4 => k4 | 5 => k5 | 6 => k6 | 7 => a.clk | 8 => g | _ => g + 1) ?_ ?_ ?_
    · intro j i hi
      match j, hi with
      | 0, hi => exact p.b.r0 i hi
      | 1, hi => exact p.b.r1 i hi
      | 2, hi => exact p.b.r2 i hi
      | 3, hi => have hi : i = a.bk := hi; show a.bk ≤ i ∧ i < k4; omega
      | 4, hi => have := p.r4 i hi; show k4 ≤ i ∧ i < k5; omega
      | 5, hi => have := p.r5 i hi; show k5 ≤ i ∧ i < k6; omega
      | 6, hi => have := p.r6 i hi; show k6 ≤ i ∧ i < a.clk; omega
      | 7, hi => have hi : i = a.clk := hi; show a.clk ≤ i ∧ i < g; omega
      | 8, hi => have hi : i = g := hi; show g ≤ i ∧ i < g + 1; omega
      | _ + 9, hi => exact hi.elim
    · intro j
      match j with
      | 0 => exact lo1
      | 1 => exact lo2
      | 2 => exact lo3
      | 3 => show a.bk ≤ k4; omega
      | 4 => show k4 ≤ k5; omega
      | 5 => show k5 ≤ k6; omega
      | 6 => show k6 ≤ a.clk; omega
      | 7 => show a.clk ≤ g; omega
      | 8 => show g ≤ g + 1; omega
      | _ + 9 => exact Nat.le_refl _
    · intro j
      match j with
      | 0 => show lo ≤ _; omega
      | 1 => show m1 ≤ _; omega
      | 2 => show m2 ≤ _; omega
      | 3 => show a.bk ≤ _; omega
      | 4 => show k4 ≤ _; omega
      | 5 => show k5 ≤ _; omega
      | 6 => show k6 ≤ _; omega
      | 7 => show a.clk ≤ _; omega
      | 8 => show g ≤ _; omega
      | _ + 9 => show g + 1 ≤ _; omega
  · show WeighB h a.we a.tr (newSt c V).N (ownOf (stakes V) (newTb V.length c.ep) (newSt c V).N) S1
    rw [ownOf_new]
    exact p.b.wei
  · intro j i hi hv
    have := off i hv
    match j, hi with
    | 0, hi => have := p.b.r0 i hi; omega
    | 1, hi => have := p.b.r1 i hi; omega
    | 2, hi => have := p.b.r2 i hi; omega
    | 3, hi => have hi : i = a.bk := hi; omega
    | 4, hi => have := p.r4 i hi; omega
    | 5, hi => have := p.r5 i hi; omega
    | 6, hi => have := p.r6 i hi; omega
    | 7, hi => have hi : i = a.clk := hi; omega
    | 8, hi => have hi : i = g := hi; omega
    | _ + 9, hi => exact hi.elim

end
end Go.Proofs.YtennbinbffdimaaGreat.Gate
end

section
/- gate.New. -/
namespace Go.Proofs.YtennbinbffdimaaGreat.Gate
open Go Go.Vc
open Board (Vd Cf vds put_n)
open Pool (It WL Mine)
open Peers (Pe)

theorem vd_bytes : (ctx.ti T.api_Validator).bytes = 24 := by kernel_rfl
theorem vd_size : (ctx.ti T.api_Validator).size = 2 := by kernel_rfl
theorem vd_zsize : (ctx.ti T.api_Validator).z.size = 2 := by kernel_rfl

def ptrs4 (a : Ad) : TV := .agg [.ptr (some ⟨a.bk, 0⟩), .ptr (some ⟨a.kd, 0⟩), .ptr (some ⟨a.wt, 0⟩), .ptr (some ⟨a.wh, 0⟩)]

section
variable {R : Value → Heap → Prop} {h h' : Heap} {g lo m1 m2 : Nat} {a : Ad} {c : Cf} {V : List Vd} {s : St} {S0 S1 S2 S4 S5 S6 : Nat → Prop}

theorem NewB.only {Q : Nat → Prop} (p : NewB lo h c V a m1 m2 S0 S1 S2) (f : Only Q h h') (hs : ∀ i, lo ≤ i → i ≤ a.bk → ¬ Q i) : NewB lo h' c V a m1 m2 S0 S1 S2 :=
  have l0 := p.l0
  have l1 := p.l1
  have l2 := p.l2
  ⟨p.var.only f (hs _ (by omega) (Nat.le_refl _)), p.tree.only f (fun i hi => by have := p.r0 i hi; exact hs i (by omega) (by omega)), p.wei.only f (fun i hi => by have := p.r1 i hi; exact hs i (by omega) (by omega)), p.tab.only f (fun i hi => by have := p.r2 i hi; exact hs i (by omega) (by omega)), p.r0, p.r1, p.r2, l0, l1, l2⟩

theorem Valid_of (k : Can c V) : Peers.Valid c.pe c.ban c.dec := ⟨k.pe.1, k.pe.2, k.ban.1, k.ban.2, k.dec.1, k.dec.2⟩

set_option maxRecDepth 100000 in
theorem gnew_spec (e : Elems 2 h c.vals (vds V)) (hl : c.vals.len < 100000) (hr0 : goodC c V = false → ∀ h', Ext h h' → R (TV.tup [.ptr none, .int .i64 1]).val h')
    (hr : Can c V → ∀ h' g a s Fp, GateB h' g a { c with vals := s } V (newSt c V) Fp → Ext h h' → (∀ k i, Fp k i → h.size ≤ i) → (∀ i, In s i → h.size ≤ i) → R (TV.tup [.ptr (some ⟨g, 0⟩), .int .i64 0]).val h') :
    CallsH Tryz.prog F.gate_New (TVs.vals [c.tv]) h R := by
  apply gate_New_calls c.vals c.ep c.com c.no c.orp c.ear c.quo c.pe c.by_ c.win c.ban c.dec
  unfold gate_New_vc
  have el : V.length = c.vals.len := by have := e.len; rwa [List.length_map] at this
  refine newTV_in fun h1 v1 x1 s1 => ?_
  refine ⟨c.vals, c.ep, c.com, c.no, c.orp, c.ear, c.quo, c.pe, c.by_, c.win, c.ban, c.dec, v1.at, ?_⟩
  refine ggood_spec (e.ext x1) hl fun h2 x2 => ⟨_, rfl, ?_⟩
  have v2 : Var 24 h2 h.size c.tv := v1.ext x2
  have x02 := x1.trans x2
  refine If.split (fun hb => ?_) fun hb => ?_
  · exact hr0 (by simpa using hb) h2 x02
  have k : Can c V := good_can.1 (by simpa using hb)
  have kl := k.len
  have z1 := x1.size
  have z2 := x2.size
  have on := Own.new (T := T.api_Validator) (sz := 2) h2 [] (fun t ht => by cases ht)
  have xp := Ext.push h2 (row (TVs.cells []) T.api_Validator)
  have sp : (h2.push (row (TVs.cells []) T.api_Validator)).size = h2.size + 1 := by simp
  refine ⟨c.vals, (v2.ext xp).at1 rfl, ?_⟩
  refine appendN (C := ctx) (T := T.api_Validator) (t := Sl.mk (some (Vc.Loc.mk h2.size 0)) 0 0) vd_size vd_zsize (by rw [vd_bytes]; decide) (by decide) (by rw [vd_bytes]; simp only; omega) on ((e.ext x02).ext xp) (fun u hu => by obtain ⟨v, _, rfl⟩ := List.mem_map.1 hu; rfl) (fun u hu => by obtain ⟨v, _, rfl⟩ := List.mem_map.1 hu; rfl) fun s3 h3 o3 xx3 f3 b3 => ?_
  have x3 := xx3 rfl
  have v3 : Var 24 h3 h.size c.tv := (v2.ext xp).ext x3
  have x03 := (x02.trans xp).trans x3
  rw [List.nil_append] at o3
  have s3lt : ∀ i, In s3 i → i < h3.size := fun i hi => o3.In_lt i hi
  have s3lo : ∀ i, In s3 i → h.size + 1 ≤ i := fun i ⟨l, hl, hi⟩ => by
    rcases b3 l hl with ⟨l', h1, h2'⟩ | h1
    · cases h1
      simp only at h2'
      omega
    · have h9 : h2.size + 1 ≤ l.b := by simpa using h1
      omega
  refine field_in (i := 0) (t := .slice s3) (t0 := .slice c.vals) v3 rfl rfl rfl rfl fun h4 v4 f4 z4 => ?_
  have x04 : Ext h h4 := Only.cut x03 f4 fun i hi => by omega
  have e4 : Elems 2 h4 s3 (vds V) := TV.at_keep f4 o3.elems fun i hi => by have := s3lo i hi; omega
  have v4 : Var 24 h4 h.size { c with vals := s3 }.tv := v4
  have k' : Can { c with vals := s3 } V := ⟨k.tot, k.len, k.ep, k.com, k.no, k.orp, k.ear, k.quo, k.pe, k.by_, k.win, k.ban, k.dec⟩
  intro J HJ
  refine ⟨s3, c.ep, c.com, c.no, c.orp, c.ear, c.quo, c.pe, c.by_, c.win, c.ban, c.dec, v4.at, c.orp, v4.at1 rfl, c.quo, v4.at1 rfl, c.ear, v4.at1 rfl, c.quo, v4.at1 rfl, c.pe, v4.at1 rfl, c.ban, v4.at1 rfl, c.dec, v4.at1 rfl, ?_⟩
  have hz4 : h.size ≤ h4.size := x04.size
  have fin : ∀ (hh : Heap) (lo q tr we ta bk kd wt wh m1 m2 k4 k5 k6 : Nat) (S0 S1 S2 S4 S5 S6 : Nat → Prop), Ext h4 hh → h4.size ≤ lo → Var T.gate_parts hh q (ptrs4 ⟨tr, we, ta, bk, kd, wt, wh, 0⟩) →
      NewP lo hh { c with vals := s3 } V ⟨tr, we, ta, bk, kd, wt, wh, 0⟩ m1 m2 k4 k5 k6 S0 S1 S2 S4 S5 S6 → k6 + 2 ≤ hh.size →
      J (some ⟨bk, 0⟩, c.orp, c.quo, some ⟨kd, 0⟩, c.ear, c.quo, some ⟨wt, 0⟩, c.pe, c.ban, c.dec, some ⟨wh, 0⟩, some ⟨q, 0⟩) hh := by
    intro hh lo q tr we ta bk kd wt wh m1 m2 k4 k5 k6 S0 S1 S2 S4 S5 S6 xh hlo vq p hk6
    have vh : Var 24 hh h.size { c with vals := s3 }.tv := v4.ext xh
    refine HJ _ hh ⟨s3, c.ep, c.com, c.no, c.orp, c.ear, c.quo, c.pe, c.by_, c.win, c.ban, c.dec, vh.at, c.win, vh.at1 rfl, _, _, _, _, vq.at, ?_⟩
    refine Clock.new_spec fun h5 clk5 x5 z5 => ⟨_, rfl, x5, newTV_in fun h6 v6 x6 s6 => ?_⟩
    have x56 := x5.trans x6
    have p6 : NewP lo h6 { c with vals := s3 } V ⟨tr, we, ta, bk, kd, wt, wh, hh.size⟩ m1 m2 k4 k5 k6 S0 S1 S2 S4 S5 S6 :=
      ⟨⟨p.b.var.ext x56, (p.b.ext x56).tree, (p.b.ext x56).wei, (p.b.ext x56).tab, p.b.r0, p.b.r1, p.b.r2, p.b.l0, p.b.l1, p.b.l2⟩, p.kids.ext x56, p.wait.ext x56, p.who.ext x56, p.r4, p.r5, p.r6, p.l4, p.l5, p.l6⟩
    have gate := p6.gate (g := h5.size) hk6 (by show hh.size < h5.size; omega) (clk5.ext x6) v6 ((e4.ext xh).ext x56) (fun i hi => by have := s3lt i hi; omega) k'
    refine hr k h6 h5.size _ s3 _ gate ((x04.trans xh).trans x56) (fun j i hi => ?_) fun i hi => by have := s3lo i hi; omega
    have := gate.sep.lt j i hi
    have hzh := xh.size
    match j, hi with
    | 0, hi => have := p.b.r0 i hi; omega
    | 1, hi => have := p.b.r1 i hi; have := p.b.l0; omega
    | 2, hi => have := p.b.r2 i hi; have := p.b.l0; have := p.b.l1; omega
    | 3, hi => have hi : i = bk := hi; have := p.b.l0; have := p.b.l1; have := p.b.l2; simp only at this; omega
    | 4, hi => have := p.r4 i hi; have := p.b.l0; have := p.b.l1; have := p.b.l2; have := p.l4; simp only at *; omega
    | 5, hi => have := p.r5 i hi; have := p.b.l0; have := p.b.l1; have := p.b.l2; have := p.l4; have := p.l5; simp only at *; omega
    | 6, hi => have := p.r6 i hi; have := p.b.l0; have := p.b.l1; have := p.b.l2; have := p.l4; have := p.l5; have := p.l6; simp only at *; omega
    | 7, hi => have hi : i = hh.size := hi; omega
    | 8, hi => have hi : i = h5.size := hi; omega
    | _ + 9, hi => exact hi.elim
  have kc : 1 ≤ c.orp ∧ c.orp ≤ 64 := k.orp
  have vp := Valid_of k
  have t78 : ∀ (hh : Heap) (lo q tr we ta bk kd wt m1 m2 k4 k5 : Nat) (S0 S1 S2 S4 S5 : Nat → Prop), Ext h4 hh → h4.size ≤ lo → h4.size ≤ q → (q < lo ∨ bk < q) → (q < k4 ∨ k4 + 2 ≤ q) → (q < k5 ∨ k5 + 2 ≤ q) → Var T.gate_parts hh q (.agg [.ptr none, .ptr none, .ptr none, .ptr none]) →
      NewB lo hh { c with vals := s3 } V ⟨tr, we, ta, bk, 0, 0, 0, 0⟩ m1 m2 S0 S1 S2 → PoolB T.orphans_Orphans hh kd [] c.orp c.quo S4 → PoolB T.early_Early hh wt [] c.ear c.quo S5 → Two k4 S4 → Two k5 S5 → bk < k4 → k4 + 2 ≤ k5 → k5 + 2 ≤ hh.size →
      CallsH Tryz.prog 78 (TVs.vals [.int .i64 c.pe, .int .i64 c.ban, .int .i64 c.dec]) hh fun v h7 => ∃ (p3 : Option Vc.Loc), v = (TV.ptr p3).val ∧ wok h7 q 0 4 ∧ Bind (TV.put h7 q 0 (.agg [.ptr (some ⟨bk, 0⟩), .ptr (some ⟨kd, 0⟩), .ptr (some ⟨wt, 0⟩), .ptr p3])) fun h8 => J (some ⟨bk, 0⟩, c.orp, c.quo, some ⟨kd, 0⟩, c.ear, c.quo, some ⟨wt, 0⟩, c.pe, c.ban, c.dec, p3, some ⟨q, 0⟩) h8 := by
    intro hh lo q tr we ta bk kd wt m1 m2 k4 k5 S0 S1 S2 S4 S5 xh hlo hq c1 c2 c3 vq nb pk pw r4 r5 l4 l5 l6
    have ql := vq.lt
    refine pnewB vp fun h7 S6 p6 r6 x7 => ⟨_, rfl, ?_⟩
    have z7 := x7.size
    refine put_n (t := ptrs4 ⟨tr, we, ta, bk, kd, wt, hh.size + 1, 0⟩) (vq.ext x7) rfl rfl fun h8 v8 f8 z8 => ?_
    refine fin h8 lo q tr we ta bk kd wt (hh.size + 1) m1 m2 k4 k5 hh.size S0 S1 S2 S4 S5 S6 (Only.cut (xh.trans x7) f8 fun i hi => ?_) hlo v8 ?_ ?_
    · omega
    · have nb8 := (nb.ext x7).only f8 fun i h1 h2 => by simp only at h2; omega
      refine ⟨⟨nb8.var, nb8.tree, nb8.wei, nb8.tab, nb8.r0, nb8.r1, nb8.r2, nb8.l0, nb8.l1, nb8.l2⟩, (pk.ext x7).only f8 fun i hi => by have := r4 i hi; omega, (pw.ext x7).only f8 fun i hi => by have := r5 i hi; omega, p6.only f8 fun i hi => by have := r6 i hi; omega, r4, r5, r6, l4, l5, l6⟩
    · obtain ⟨r, pp, _⟩ := p6
      have := pp.var.lt
      omega
  have t77 : ∀ (hh : Heap) (lo q tr we ta bk kd m1 m2 k4 : Nat) (S0 S1 S2 S4 : Nat → Prop), Ext h4 hh → h4.size ≤ lo → h4.size ≤ q → (q < lo ∨ bk < q) → (q < k4 ∨ k4 + 2 ≤ q) → Var T.gate_parts hh q (.agg [.ptr none, .ptr none, .ptr none, .ptr none]) →
      NewB lo hh { c with vals := s3 } V ⟨tr, we, ta, bk, 0, 0, 0, 0⟩ m1 m2 S0 S1 S2 → PoolB T.orphans_Orphans hh kd [] c.orp c.quo S4 → Two k4 S4 → bk < k4 → k4 + 2 ≤ hh.size →
      CallsH Tryz.prog 77 (TVs.vals [.int .i64 c.ear, .int .i64 c.quo]) hh fun v h6 => ∃ (p2 : Option Vc.Loc), v = (TV.ptr p2).val ∧ Ext hh h6 ∧
        CallsH Tryz.prog 78 (TVs.vals [.int .i64 c.pe, .int .i64 c.ban, .int .i64 c.dec]) h6 fun v h7 => ∃ (p3 : Option Vc.Loc), v = (TV.ptr p3).val ∧ wok h7 q 0 4 ∧ Bind (TV.put h7 q 0 (.agg [.ptr (some ⟨bk, 0⟩), .ptr (some ⟨kd, 0⟩), .ptr p2, .ptr p3])) fun h8 => J (some ⟨bk, 0⟩, c.orp, c.quo, some ⟨kd, 0⟩, c.ear, c.quo, p2, c.pe, c.ban, c.dec, p3, some ⟨q, 0⟩) h8 := by
    intro hh lo q tr we ta bk kd m1 m2 k4 S0 S1 S2 S4 xh hlo hq c1 c2 vq nb pk r4 l4 l5
    have ql := vq.lt
    refine enewB k.ear k.quo fun h6 S5 p6 r6 x6 z6 => ⟨_, rfl, x6, ?_⟩
    exact t78 h6 lo q tr we ta bk kd (hh.size + 1) m1 m2 k4 hh.size S0 S1 S2 S4 S5 (xh.trans x6) hlo hq c1 c2 (by omega) (vq.ext x6) (nb.ext x6) (pk.ext x6) p6 r4 r6 l4 (by omega) (by omega)
  have t76 : ∀ (hh : Heap) (lo q tr we ta bk m1 m2 : Nat) (S0 S1 S2 : Nat → Prop), Ext h4 hh → h4.size ≤ lo → h4.size ≤ q → (q < lo ∨ bk < q) → Var T.gate_parts hh q (.agg [.ptr none, .ptr none, .ptr none, .ptr none]) →
      NewB lo hh { c with vals := s3 } V ⟨tr, we, ta, bk, 0, 0, 0, 0⟩ m1 m2 S0 S1 S2 → bk < hh.size →
      CallsH Tryz.prog 76 (TVs.vals [.int .i64 c.orp, .int .i64 c.quo]) hh fun v h5 => ∃ (p1 : Option Vc.Loc), v = (TV.ptr p1).val ∧ Ext hh h5 ∧
      CallsH Tryz.prog 77 (TVs.vals [.int .i64 c.ear, .int .i64 c.quo]) h5 fun v h6 => ∃ (p2 : Option Vc.Loc), v = (TV.ptr p2).val ∧ Ext h5 h6 ∧
        CallsH Tryz.prog 78 (TVs.vals [.int .i64 c.pe, .int .i64 c.ban, .int .i64 c.dec]) h6 fun v h7 => ∃ (p3 : Option Vc.Loc), v = (TV.ptr p3).val ∧ wok h7 q 0 4 ∧ Bind (TV.put h7 q 0 (.agg [.ptr (some ⟨bk, 0⟩), .ptr p1, .ptr p2, .ptr p3])) fun h8 => J (some ⟨bk, 0⟩, c.orp, c.quo, p1, c.ear, c.quo, p2, c.pe, c.ban, c.dec, p3, some ⟨q, 0⟩) h8 := by
    intro hh lo q tr we ta bk m1 m2 S0 S1 S2 xh hlo hq c1 vq nb l3
    have ql := vq.lt
    refine onewB k.orp k.quo fun h5 S4 p5 r5 x5 z5 => ⟨_, rfl, x5, ?_⟩
    exact t77 h5 lo q tr we ta bk (hh.size + 1) m1 m2 hh.size S0 S1 S2 S4 (xh.trans x5) hlo hq c1 (by omega) (vq.ext x5) (nb.ext x5) p5 r5 l3 (by omega)
  refine ⟨?_, ?_⟩
  · refine bnew_spec e4 k' fun h5 tr we ta bk m1 m2 S0 S1 S2 v5 tb5 wb5 ta5 x5 r0 r1 r2 l0 l1 l2 l3 => ⟨_, rfl, x5, ⟨?_, ?_⟩⟩
    all_goals have nb5 : NewB h4.size h5 { c with vals := s3 } V ⟨tr, we, ta, bk, 0, 0, 0, 0⟩ m1 m2 S0 S1 S2 := ⟨v5, tb5, wb5, ta5, r0, r1, r2, l0, l1, l2⟩
    all_goals have z5 := x5.size
    · refine onewB k.orp k.quo fun h6 S4 p6 r6 x6 z6 => ⟨_, rfl, x6, ⟨?_, ?_⟩⟩
      · refine enewB k.ear k.quo fun h7 S5 p7 r7 x7 z7 => ⟨_, rfl, x7, ⟨?_, ?_⟩⟩
        · refine pnewB vp fun h8 S6 p8 r8 x8 => ⟨_, rfl, newTV_in fun h9 v9 x9 s9 => ⟨x9, ?_⟩⟩
          have z8 := x8.size
          refine put_n (t := ptrs4 ⟨tr, we, ta, bk, h5.size + 1, h6.size + 1, h7.size + 1, 0⟩) v9 rfl rfl fun h10 v10 f10 z10 => ?_
          have x10 : Ext h8 h10 := Only.cut x9 f10 fun i hi => by omega
          have nb8 := ((((nb5.ext x6).ext x7).ext x8).ext x10)
          obtain ⟨r, pp, hS⟩ := p8
          have ppl := pp.var.lt
          refine fin h10 h4.size h8.size tr we ta bk (h5.size + 1) (h6.size + 1) (h7.size + 1) m1 m2 h5.size h6.size h7.size S0 S1 S2 S4 S5 S6 ((((x5.trans x6).trans x7).trans x8).trans x10) (Nat.le_refl _) v10 ?_ (by omega)
          exact ⟨⟨nb8.var, nb8.tree, nb8.wei, nb8.tab, nb8.r0, nb8.r1, nb8.r2, nb8.l0, nb8.l1, nb8.l2⟩, ((p6.ext x7).ext x8).ext x10, (p7.ext x8).ext x10, PeB.ext ⟨r, pp, hS⟩ x10, r6, r7, r8, l3, by omega, by omega⟩
        · refine newTV_in fun h8 v8 x8 s8 => ⟨x8, ?_⟩
          exact t78 h8 h4.size h7.size tr we ta bk (h5.size + 1) (h6.size + 1) m1 m2 h5.size h6.size S0 S1 S2 S4 S5 (((x5.trans x6).trans x7).trans x8) (Nat.le_refl _) (by omega) (by omega) (by omega) (by omega) v8 (((nb5.ext x6).ext x7).ext x8) ((p6.ext x7).ext x8) (p7.ext x8) r6 r7 l3 (by omega) (by omega)
      · refine newTV_in fun h7 v7 x7 s7 => ⟨x7, ?_⟩
        exact t77 h7 h4.size h6.size tr we ta bk (h5.size + 1) m1 m2 h5.size S0 S1 S2 S4 ((x5.trans x6).trans x7) (Nat.le_refl _) (by omega) (by omega) (by omega) v7 ((nb5.ext x6).ext x7) (p6.ext x7) r6 l3 (by omega)
    · refine newTV_in fun h6 v6 x6 s6 => ⟨x6, ?_⟩
      exact t76 h6 h4.size h5.size tr we ta bk m1 m2 S0 S1 S2 (x5.trans x6) (Nat.le_refl _) (by omega) (by omega) v6 (nb5.ext x6) (by omega)
  · refine newTV_in fun h5 v5 x5 s5 => ⟨x5, ?_⟩
    refine bnew_spec (e4.ext x5) k' fun h6 tr we ta bk m1 m2 S0 S1 S2 v6 tb6 wb6 ta6 x6 r0 r1 r2 l0 l1 l2 l3 => ⟨_, rfl, x6, ?_⟩
    exact t76 h6 h5.size h4.size tr we ta bk m1 m2 S0 S1 S2 (x5.trans x6) x5.size (Nat.le_refl _) (by omega) (v5.ext x6) ⟨v6, tb6, wb6, ta6, r0, r1, r2, l0, l1, l2⟩ l3

end
end Go.Proofs.YtennbinbffdimaaGreat.Gate
end

section
/- A gate's parts, and what they come to. -/
namespace Go.Proofs.YtennbinbffdimaaGreat.Gate
open Go Go.Vc
open Board (Vd Cf vds put_n)
open Pool (It WL Mine)
open Peers (Pe)

/-- How many of each kind. -/
structure Pt where
  n : Int
  o : Int
  e : Int
  p : Int
  v : Int
  m : Int
def Pt.tv (x : Pt) : TV := .agg [.int .i64 x.n, .int .i64 x.o, .int .i64 x.e, .int .i64 x.p, .int .i64 x.v, .int .i64 x.m]
def Pt.zero : Pt := ⟨0, 0, 0, 0, 0, 0⟩
/-- What parts come to. -/
def totalI (x : Pt) : Int := 96 * x.n + 384 * (x.o + x.e) + 16 * x.p + 64 * x.v + 64 * x.m
def totalF (x : Pt) : Int := IntKind.wrap .i64 (totalI x)
def withinF (x y : Pt) : Bool := decide (x.n ≤ y.n) && (decide (x.o ≤ y.o) && (decide (x.e ≤ y.e) && (decide (x.p ≤ y.p) && (decide (x.v ≤ y.v) && decide (x.m ≤ y.m)))))
def mostF (c : Cf) (V : List Vd) : Pt := if goodC c V = true then ⟨c.no, c.orp, c.ear, c.pe, V.length, V.length * (c.win / c.ep + 2)⟩ else Pt.zero

theorem wrap_i64_mod (n : Int) : IntKind.wrap .i64 n = (n + 9223372036854775808) % 18446744073709551616 - 9223372036854775808 := by
  unfold IntKind.wrap
  simp only [IntKind.signed, IntKind.bits, Bool.true_and]
  split
  · rename_i h1
    have h1 := of_decide_eq_true h1
    have e1 : (2 : Int) ^ 64 = 18446744073709551616 := by decide
    have e2 : (2 : Int) ^ (64 - 1) = 9223372036854775808 := by decide
    rw [e1, e2] at h1
    rw [e1]
    omega
  · rename_i h1
    have h1 : ¬ _ := fun h => h1 (decide_eq_true h)
    have e1 : (2 : Int) ^ 64 = 18446744073709551616 := by decide
    have e2 : (2 : Int) ^ (64 - 1) = 9223372036854775808 := by decide
    rw [e1, e2] at h1
    rw [e1]
    omega

section
variable {R : Value → Heap → Prop} {h h' : Heap} {g : Nat} {a : Ad} {c : Cf} {V : List Vd} {s : St} {Fp : Nat → Nat → Prop} {x y : Pt}

theorem within_spec (hr : ∀ h', Ext h h' → R (TV.bool (withinF x y)).val h') : CallsH Tryz.prog F.size_Parts_Within (TVs.vals [x.tv, y.tv]) h R := by
  apply size_Parts_Within_calls x.n x.o x.e x.p x.v x.m y.n y.o y.e y.p y.v y.m
  unfold size_Parts_Within_vc
  refine newTV_in fun h1 v1 x1 s1 => newTV_in fun h2 v2 x2 s2 => ?_
  have v1 : Var T.size_Parts h2 h.size x.tv := v1.ext x2
  have v2 : Var T.size_Parts h2 h1.size y.tv := v2
  have hr2 := hr h2 (x1.trans x2)
  unfold withinF at hr2
  have step : ∀ {A : Prop} [Decidable A] {B : Bool} {K : Prop}, R (TV.bool (decide A && B)).val h2 → (R (TV.bool B).val h2 → K) → If (decide A) K (R (TV.bool false).val h2) := fun {A} _ {B} {K} hr hk => by
    refine If.dec.2 ⟨fun h => hk ?_, fun h => ?_⟩
    · rw [decide_eq_true h, Bool.true_and] at hr; exact hr
    · rw [decide_eq_false h, Bool.false_and] at hr; exact hr
  exact ⟨_, v1.at1 rfl, _, v2.at1 rfl, step hr2 fun hr3 => ⟨_, v1.at1 rfl, _, v2.at1 rfl, step hr3 fun hr4 => ⟨_, v1.at1 rfl, _, v2.at1 rfl, step hr4 fun hr5 => ⟨_, v1.at1 rfl, _, v2.at1 rfl, step hr5 fun hr6 => ⟨_, v1.at1 rfl, _, v2.at1 rfl, step hr6 fun hr7 => ⟨_, v1.at1 rfl, _, v2.at1 rfl, hr7⟩⟩⟩⟩⟩⟩

theorem total_spec (hr : ∀ h', Ext h h' → R (TV.int .i64 (totalF x)).val h') : CallsH Tryz.prog F.size_Parts_Total (TVs.vals [x.tv]) h R := by
  apply size_Parts_Total_calls x.n x.o x.e x.p x.v x.m
  unfold size_Parts_Total_vc
  refine newTV_in fun h1 v1 x1 s1 => ?_
  have v1 : Var T.size_Parts h1 h.size x.tv := v1
  refine ⟨_, v1.at1 rfl, _, v1.at1 rfl, _, v1.at1 rfl, _, v1.at1 rfl, _, v1.at1 rfl, _, v1.at1 rfl, ?_⟩
  have e : IntKind.wrap .i64 (IntKind.wrap .i64 (IntKind.wrap .i64 (IntKind.wrap .i64 (IntKind.wrap .i64 (96 * x.n) + IntKind.wrap .i64 (384 * IntKind.wrap .i64 (x.o + x.e))) + IntKind.wrap .i64 (16 * x.p)) + IntKind.wrap .i64 (64 * x.v)) + IntKind.wrap .i64 (64 * x.m)) = totalF x := by
    unfold totalF totalI
    simp only [wrap_i64_mod]
    omega
  rw [e]
  exact hr h1 x1

theorem most_spec (e : Elems 2 h c.vals (vds V)) (hl : c.vals.len < 100000) (hr : ∀ h', Ext h h' → R (mostF c V).tv.val h') : CallsH Tryz.prog F.size_Most (TVs.vals [c.tv]) h R := by
  apply size_Most_calls c.vals c.ep c.com c.no c.orp c.ear c.quo c.pe c.by_ c.win c.ban c.dec
  unfold size_Most_vc
  have el : V.length = c.vals.len := by have := e.len; rwa [List.length_map] at this
  refine newTV_in fun h1 v1 x1 s1 => newTV_in fun h2 v2 x2 s2 => ?_
  have v1 : Var 24 h2 h.size c.tv := v1.ext x2
  have x02 := x1.trans x2
  refine ⟨c.vals, c.ep, c.com, c.no, c.orp, c.ear, c.quo, c.pe, c.by_, c.win, c.ban, c.dec, v1.at, ?_⟩
  refine ggood_spec (e.ext x02) hl fun h3 x3 => ⟨_, rfl, ?_⟩
  have v13 : Var 24 h3 h.size c.tv := v1.ext x3
  have z1 := x1.size
  have fin : ∀ (y : Pt) (h4 : Heap), y = mostF c V → Var T.size_Parts h4 h1.size y.tv → Only (· = h1.size) h3 h4 → R y.tv.val h4 := fun y h4 he v4 f4 => by
    rw [he]
    exact hr h4 (Only.cut (x02.trans x3) f4 fun i hi => by omega)
  refine If.split (fun hb => ?_) fun hb => ?_
  · have hb : goodC c V = false := by simpa using hb
    refine put_n (t := Pt.zero.tv) (v2.ext x3) rfl rfl fun h4 v4 f4 z4 => ⟨_, _, _, _, _, _, v4.at, fin Pt.zero h4 ?_ v4 f4⟩
    unfold mostF
    rw [hb]
    rfl
  · have hb : goodC c V = true := by simpa using hb
    have k := good_can.1 hb
    have k1 := k.len
    have k2 := k.ep
    have k3 := k.win
    have hd : Int.tdiv c.win c.ep = c.win / c.ep := Int.tdiv_eq_ediv_of_nonneg (by omega)
    have hd1 : 0 ≤ c.win / c.ep := Int.ediv_nonneg (by omega) (by omega)
    have hd2 : c.win / c.ep ≤ 64 := by
      have := Int.ediv_le_self c.ep (show 0 ≤ c.win by omega)
      omega
    have hm : (V.length : Int) * (c.win / c.ep + 2) ≤ 64 * 66 := Int.mul_le_mul (by omega) (by omega) (by omega) (by omega)
    have hm0 : 0 ≤ (V.length : Int) * (c.win / c.ep + 2) := Int.mul_nonneg (by omega) (by omega)
    refine ⟨c.vals, v13.at1 rfl, _, v13.at1 rfl, _, v13.at1 rfl, _, v13.at1 rfl, _, v13.at1 rfl, _, v13.at1 rfl, c.ep, v13.at1 rfl, by omega, ?_⟩
    rw [hd, ← el, wrap_i64 (n := c.win / c.ep) (by omega) (by omega), wrap_i64 (n := c.win / c.ep + 2) (by omega) (by omega), wrap_i64 (n := (V.length : Int) * (c.win / c.ep + 2)) (by omega) (by omega)]
    refine put_n (t := (Pt.mk c.no c.orp c.ear c.pe V.length (V.length * (c.win / c.ep + 2))).tv) (v2.ext x3) rfl rfl fun h4 v4 f4 z4 => ⟨_, _, _, _, _, _, v4.at, fin _ h4 ?_ v4 f4⟩
    unfold mostF
    rw [if_pos hb]

theorem sum_spec (hr : ∀ h', Ext h h' → R (TV.int .i64 (totalF x)).val h') : CallsH Tryz.prog F.size_sum (TVs.vals [.fn (.func F.size_Parts_Total) [] [], x.tv]) h R := by
  apply size_sum_calls ⟨.func (.func F.size_Parts_Total) #[] #[], by rfl⟩ x.n x.o x.e x.p x.v x.m
  unfold size_sum_vc
  refine newTV_in fun h1 v1 x1 s1 => ?_
  have v1 : Var T.size_Parts h1 h.size x.tv := v1
  exact ⟨_, _, _, _, _, _, v1.at, F.size_Parts_Total, #[], #[], rfl, ctx_ok.entP (by kernel_rfl), total_spec (x := x) fun h2 x2 => ⟨_, rfl, hr h2 (x1.trans x2)⟩⟩

theorem bound_spec (e : Elems 2 h c.vals (vds V)) (hl : c.vals.len < 100000) (hr : ∀ h', Ext h h' → R (TV.int .i64 (totalF (mostF c V))).val h') : CallsH Tryz.prog F.size_Bound (TVs.vals [c.tv]) h R := by
  apply size_Bound_calls c.vals c.ep c.com c.no c.orp c.ear c.quo c.pe c.by_ c.win c.ban c.dec
  unfold size_Bound_vc
  refine newTV_in fun h1 v1 x1 s1 => ?_
  refine ⟨c.vals, c.ep, c.com, c.no, c.orp, c.ear, c.quo, c.pe, c.by_, c.win, c.ban, c.dec, v1.at, ?_⟩
  apply size_total_calls ⟨.func (.func F.size_Most) #[] #[], by rfl⟩ c.vals c.ep c.com c.no c.orp c.ear c.quo c.pe c.by_ c.win c.ban c.dec
  unfold size_total_vc
  refine newTV_in fun h2 v2 x2 s2 => ?_
  refine ⟨c.vals, c.ep, c.com, c.no, c.orp, c.ear, c.quo, c.pe, c.by_, c.win, c.ban, c.dec, v2.at, F.size_Most, #[], #[], rfl, ctx_ok.entP (by kernel_rfl), most_spec (c := c) (V := V) (e.ext (x1.trans x2)) hl fun h3 x3 => ?_⟩
  exact ⟨_, _, _, _, _, _, rfl, sum_spec (x := mostF c V) fun h4 x4 => ⟨_, rfl, _, rfl, hr h4 (((x1.trans x2).trans x3).trans x4)⟩⟩

/-- How many validators have a latest vote. -/
def votesN (t : Tb) (n : Nat) : Int := (((List.range n).filter fun (i : Nat) => (latestOf t (i : Int)).isSome).length : Int)
def partsS (s : St) : Pt := ⟨s.N.length, s.kids.length, s.wait.length, s.sc.length, votesN s.tb 64, s.tb.first.length⟩

theorem votesN_succ (t : Tb) (n : Nat) : votesN t (n + 1) = if (latestOf t (n : Int)).isSome = true then votesN t n + 1 else votesN t n := by
  unfold votesN
  rw [List.range_succ, List.filter_append, List.length_append]
  by_cases hc : (latestOf t (n : Int)).isSome = true
  · simp [hc]
  · simp [hc]

theorem votesN_le (t : Tb) (n : Nat) : 0 ≤ votesN t n ∧ votesN t n ≤ n := by
  unfold votesN
  have := List.length_filter_le (fun i : Nat => (latestOf t (i : Int)).isSome) (List.range n)
  rw [List.length_range] at this
  omega

theorem voteR_some (t : Tb) (i : Int) : (voteR t i).2 = (latestOf t i).isSome := by
  unfold voteR
  cases latestOf t i <;> rfl

theorem GateB.book (p : GateB h g a c V s Fp) {K : Value → Heap → Prop} (hk : K (TV.ptr (some ⟨a.bk, 0⟩)).val h) : CallsH Tryz.prog F.gate_Gate_Book (TVs.vals [.ptr (some ⟨g, 0⟩)]) h K := by
  apply gate_Gate_Book_calls
  unfold gate_Gate_Book_vc
  exact If.no ⟨_, p.var.at1 rfl, hk⟩
theorem GateB.orph (p : GateB h g a c V s Fp) {K : Value → Heap → Prop} (hk : K (TV.ptr (some ⟨a.kd, 0⟩)).val h) : CallsH Tryz.prog F.gate_Gate_Orphans (TVs.vals [.ptr (some ⟨g, 0⟩)]) h K := by
  apply gate_Gate_Orphans_calls
  unfold gate_Gate_Orphans_vc
  exact If.no ⟨_, p.var.at1 rfl, hk⟩
theorem GateB.early (p : GateB h g a c V s Fp) {K : Value → Heap → Prop} (hk : K (TV.ptr (some ⟨a.wt, 0⟩)).val h) : CallsH Tryz.prog F.gate_Gate_Early (TVs.vals [.ptr (some ⟨g, 0⟩)]) h K := by
  apply gate_Gate_Early_calls
  unfold gate_Gate_Early_vc
  exact If.no ⟨_, p.var.at1 rfl, hk⟩
theorem GateB.peers (p : GateB h g a c V s Fp) {K : Value → Heap → Prop} (hk : K (TV.ptr (some ⟨a.wh, 0⟩)).val h) : CallsH Tryz.prog F.gate_Gate_Peers (TVs.vals [.ptr (some ⟨g, 0⟩)]) h K := by
  apply gate_Gate_Peers_calls
  unfold gate_Gate_Peers_vc
  exact If.no ⟨_, p.var.at1 rfl, hk⟩
theorem GateB.btree (p : GateB h g a c V s Fp) {K : Value → Heap → Prop} (hk : K (TV.ptr (some ⟨a.tr, 0⟩)).val h) : CallsH Tryz.prog F.votes_Book_Tree (TVs.vals [.ptr (some ⟨a.bk, 0⟩)]) h K := by
  apply votes_Book_Tree_calls
  unfold votes_Book_Tree_vc
  exact If.no ⟨_, p.bk.at1 rfl, hk⟩
theorem GateB.btab (p : GateB h g a c V s Fp) {K : Value → Heap → Prop} (hk : K (TV.ptr (some ⟨a.ta, 0⟩)).val h) : CallsH Tryz.prog F.votes_Book_Table (TVs.vals [.ptr (some ⟨a.bk, 0⟩)]) h K := by
  apply votes_Book_Table_calls
  unfold votes_Book_Table_vc
  exact If.no ⟨_, p.bk.at1 rfl, hk⟩

set_option maxRecDepth 100000 in
theorem sizeof_spec (p : GateB h g a c V s Fp) (hr : ∀ h', Ext h h' → R (partsS s).tv.val h') : CallsH Tryz.prog F.size_Of (TVs.vals [.ptr (some ⟨g, 0⟩)]) h R := by
  apply size_Of_calls
  unfold size_Of_vc
  refine newTV_in fun h1 v1 x1 s1 => ?_
  have p1 := p.ext x1
  obtain ⟨r, A, tp, hS⟩ := p1.tree
  obtain ⟨kb, kA, kp, hK⟩ := p1.kids
  obtain ⟨wb, wA, wp, hW⟩ := p1.wait
  obtain ⟨pr, pp, hP⟩ := p1.who
  obtain ⟨tr, La, Ou, ps, tab, hT⟩ := p1.tab
  refine p1.book ⟨_, rfl, p1.btree ⟨_, rfl, Len_spec tp ⟨_, rfl, p1.orph ⟨_, rfl, Pool.olen_spec kp ⟨_, rfl, p1.early ⟨_, rfl, Pool.elen_spec wp ⟨_, rfl, p1.peers ⟨_, rfl, ?_⟩⟩⟩⟩⟩⟩⟩⟩
  refine Peers.Known_spec pp fun h2 sl x2 o2 _ => ⟨_, rfl, ?_⟩
  have ol := o2.len
  rw [List.length_map, Peers.srt_length] at ol
  have p2 := p1.ext x2
  refine p2.book ⟨_, rfl, p2.btab ⟨_, rfl, Marks_spec (tab.ext x2) ⟨_, rfl, ?_⟩⟩⟩
  refine newTV_in fun h3 v3 x3 s3 => put_n (t := (Pt.mk s.N.length s.kids.length s.wait.length sl.len 0 s.tb.first.length).tv) v3 rfl rfl fun h4 v4 f4 s4 => ?_
  have x24 : Ext h2 h4 := Only.cut x3 f4 fun i hi => by omega
  have z2 := x2.size
  have v14 : Var T.size_Parts h4 h.size Pt.zero.tv := (v1.ext x2).ext x24
  refine ⟨fun i hh => 0 ≤ i ∧ i ≤ 64 ∧ Var T.size_Parts hh h2.size (Pt.mk s.N.length s.kids.length s.wait.length sl.len (votesN s.tb i.toNat) s.tb.first.length).tv ∧ Ext h2 hh, fun i _ => (64 - i).toNat, ⟨Int.le_refl 0, by decide, v4, x24⟩, ?_⟩
  rintro i h5 ⟨i0, i1, v5, x5⟩
  refine If.dec.2 ⟨fun hi => ?_, fun hi => ?_⟩
  · have p5 := p2.ext x5
    refine p5.book ⟨_, rfl, p5.btab ⟨_, rfl, Vote_spec ((tab.ext x2).ext x5) fun h6 x6 => ⟨_, _, _, _, rfl, ?_⟩⟩⟩
    refine newTV_in fun h7 v7 x7 s7 => put_n (t := (voteR s.tb i).1.tv) v7 rfl rfl fun h8 v8 f8 s8 => ?_
    have x68 : Ext h6 h8 := Only.cut x7 f8 fun i hi => by omega
    have x58 := x6.trans x68
    have v58 := v5.ext x58
    have nn := votesN_le s.tb i.toNat
    have ns := votesN_succ s.tb i.toNat
    rw [show ((i.toNat : Nat) : Int) = i by omega, ← voteR_some] at ns
    rw [wrap_i64 (n := i + 1) (by omega) (by omega)]
    refine If.split (fun hb => ?_) fun hb => ?_
    · rw [if_pos hb] at ns
      refine ⟨_, v58.at1 rfl, ?_⟩
      rw [wrap_i64 (n := votesN s.tb i.toNat + 1) (by omega) (by omega)]
      refine field_in (i := 4) (t := .int .i64 (votesN s.tb i.toNat + 1)) (t0 := .int .i64 (votesN s.tb i.toNat)) v58 rfl rfl rfl rfl fun h9 v9 f9 s9 => ?_
      refine ⟨⟨by omega, by omega, ?_, Only.cut (x5.trans x58) f9 fun i hi => Nat.le_of_eq (Eq.symm hi)⟩, by first | omega | (dsimp only; omega)⟩
      rw [show (i + 1).toNat = i.toNat + 1 by omega, ns]
      exact v9
    · rw [if_neg (by rw [hb]; decide)] at ns
      refine ⟨⟨by omega, by omega, ?_, x5.trans x58⟩, by first | omega | (dsimp only; omega)⟩
      rw [show (i + 1).toNat = i.toNat + 1 by omega, ns]
      exact v58
  · have h64 : i.toNat = 64 := by omega
    rw [h64] at v5
    have he : (Pt.mk s.N.length s.kids.length s.wait.length sl.len (votesN s.tb 64) s.tb.first.length) = partsS s := by unfold partsS; rw [← ol]
    rw [he] at v5
    generalize partsS s = y at v5 hr
    refine ⟨y.n, y.o, y.e, y.p, y.v, y.m, v5.at, ?_⟩
    refine put_n (t := y.tv) ((v1.ext x2).ext x5) rfl rfl fun h6 v6 f6 s6 => ⟨y.n, y.o, y.e, y.p, y.v, y.m, v6.at, ?_⟩
    exact hr h6 (Only.cut ((x1.trans x2).trans x5) f6 fun i hi => Nat.le_of_eq (Eq.symm hi))

end
end Go.Proofs.YtennbinbffdimaaGreat.Gate
end

section
/- A new gate of one configuration. -/
namespace Go.Proofs.YtennbinbffdimaaGreat.Gate
open Go Go.Vc
open Board (Vd Cf vds put_n)

def V0 : List Vd := [⟨5, (ByteArray.mk #[(107 : UInt8)]).data.toList⟩]
def c0 (s : Sl) : Cf := ⟨s, 4, 1, 9, 1, 1, 1, 1, 99, 9, 9, 1⟩
theorem good0 (s : Sl) : goodC (c0 s) V0 = true := by rfl
theorem most0 (s : Sl) : mostF (c0 s) V0 = ⟨9, 1, 1, 1, 1, 4⟩ := by
  unfold mostF
  rw [if_pos (good0 s)]
  rfl
theorem parts0 (c : Cf) : partsS (newSt c V0) = ⟨1, 0, 0, 0, 0, 0⟩ := by
  have : votesN (newTb 1 c.ep) 64 = 0 := by rfl
  unfold partsS newSt
  show Pt.mk _ _ _ _ (votesN (newTb 1 c.ep) 64) _ = _
  rw [this]
  rfl

set_option maxRecDepth 100000 in
theorem alive_spec {R : Value → Heap → Prop} {h : Heap} (hr : ∀ h', Ext h h' → R (TV.bool true).val h') : CallsH Tryz.prog F.tollerlaw22_alive (TVs.vals []) h R := by
  apply tollerlaw22_alive_calls
  unfold tollerlaw22_alive_vc
  have on := Own.new (T := 137) (sz := 2) h (vds V0) (fun t ht => by
    obtain ⟨x, _, rfl⟩ := List.mem_map.1 ht
    rfl)
  have hc : TVs.cells [TV.agg [TV.int IntKind.i64 5, TV.str (ByteArray.mk #[(107 : UInt8)]).data.toList]] = TVs.cells (vds V0) := rfl
  rw [hc]
  have x0 := Ext.push h (row (TVs.cells (vds V0)) 137)
  have s0 : (h.push (row (TVs.cells (vds V0)) 137)).size = h.size + 1 := by simp
  generalize h.push (row (TVs.cells (vds V0)) 137) = h0 at on x0 s0 ⊢
  refine newTV_in fun h1 v1 x1 s1 => put_n (t := (c0 ⟨some ⟨h.size, 0⟩, 1, 1⟩).tv) v1 rfl rfl fun h2 v2 f2 s2 => ?_
  have x2 : Ext h0 h2 := Only.cut x1 f2 fun i hi => Nat.le_of_eq (Eq.symm hi)
  have e2 : Elems 2 h2 (c0 ⟨some ⟨h.size, 0⟩, 1, 1⟩).vals (vds V0) := on.elems.ext x2
  refine ⟨_, _, _, _, _, _, _, _, _, _, _, _, v2.at, ?_⟩
  refine gnew_spec (c := c0 ⟨some ⟨h.size, 0⟩, 1, 1⟩) (V := V0) e2 (show 1 < 100000 by decide) (fun hg => by rw [good0] at hg; cases hg) fun k h3 g a s Fp p3 x3 _ _ => ⟨_, _, rfl, If.yes ?_⟩
  refine sizeof_spec p3 fun h4 x4 => ?_
  have x24 := x3.trans x4
  rw [parts0]
  refine ⟨_, _, _, _, _, _, rfl, If.yes ?_⟩
  have v4 := v2.ext x24
  refine ⟨_, _, _, _, _, _, _, _, _, _, _, _, v4.at, ?_⟩
  refine most_spec (c := c0 ⟨some ⟨h.size, 0⟩, 1, 1⟩) (V := V0) (e2.ext x24) (show 1 < 100000 by decide) fun h5 x5 => ?_
  rw [most0]
  refine ⟨_, _, _, _, _, _, rfl, If.yes ?_⟩
  have x25 := x24.trans x5
  refine ⟨_, _, _, _, _, _, _, _, _, _, _, _, (v2.ext x25).at, ?_⟩
  refine bound_spec (c := c0 ⟨some ⟨h.size, 0⟩, 1, 1⟩) (V := V0) (e2.ext x25) (show 1 < 100000 by decide) fun h6 x6 => ⟨_, rfl, ?_⟩
  have ht : totalF (mostF (c0 ⟨some ⟨h.size, 0⟩, 1, 1⟩) V0) = 1968 := by rw [most0]; rfl
  rw [ht]
  exact hr h6 ((x0.trans x2).trans (x25.trans x6))

end Go.Proofs.YtennbinbffdimaaGreat.Gate
end

section
/- What a gate is asked: the final block, whether a slot is asked for. -/
namespace Go.Proofs.YtennbinbffdimaaGreat.Gate
open Go Go.Vc
open Board (Vd Cf vds put_n bsz)
open Pool (It WL Mine)
open Peers (Pe)

section
variable {R : Value → Heap → Prop} {h h' : Heap} {g : Nat} {a : Ad} {c : Cf} {V : List Vd} {s : St} {Fp : Nat → Nat → Prop}

/-- The final block. -/
def finalS (s : St) : Nd := (nodeR s.N 0).1

theorem final_spec (p : GateB h g a c V s Fp) (hr : ∀ h', Ext h h' → R (TV.tup [.bytes 32 (finalS s).root, .int .i64 (finalS s).slot]).val h') : CallsH Tryz.prog F.gate_Gate_final (TVs.vals [.ptr (some ⟨g, 0⟩)]) h R := by
  apply gate_Gate_final_calls
  unfold gate_Gate_final_vc
  refine newTV_in fun h1 v1 x1 s1 => ?_
  have p1 := p.ext x1
  obtain ⟨r, A, tp, hS⟩ := p1.tree
  refine ⟨_, p1.var.at1 rfl, p1.btree ⟨_, rfl, Node_spec tp fun h2 x2 => ⟨_, _, _, _, rfl, ?_⟩⟩⟩
  refine newTV_in fun h3 v3 x3 s3 => put_n (t := (finalS s).tv) v3 rfl rfl fun h4 v4 f4 s4 => ?_
  have x24 : Ext h2 h4 := Only.cut x3 f4 fun i hi => Nat.le_of_eq (Eq.symm hi)
  have z2 := x2.size
  have vk : Var T.tree_Node (Vc.keeps (· = h2.size) h4) h2.size (finalS s).tv := v4.keeps (S := (· = h2.size)) rfl
  refine ⟨Vc.keeps (· = h2.size) h4, keeps_refl, (finalS s).root, vk.at.1, (finalS s).slot, vk.at.2.1, ?_⟩
  refine put_in ((v1.ext x2).ext x24) (t := .bytes 32 (finalS s).root) bsz fun h5 v5 f5 s5 => ?_
  have x25 : Ext h h5 := Only.cut ((x1.trans x2).trans x24) f5 fun i hi => Nat.le_of_eq (Eq.symm hi)
  exact ⟨keeps_of f5 (fun i hi hq => by have hi : i = h2.size := hi; have hq : i = h.size := hq; omega), _, v5.bytes, hr h5 x25⟩

/-- Whether a message's slot is asked for. -/
def askedS (c : Cf) (s : St) (kind slot : Int) : Bool := if kind = 1 then Clock.blockB s.now (finalS s).slot slot else Clock.voteB s.now (Clock.clampW c.win) slot

theorem asked_spec {m : Board.Ms} (p : GateB h g a c V s Fp) (n0 : 0 ≤ s.now) (n1 : s.now ≤ 1073741824) (hr : ∀ h', Ext h h' → R (TV.bool (askedS c s m.kind m.slot)).val h') : CallsH Tryz.prog F.gate_Gate_asked (TVs.vals [.ptr (some ⟨g, 0⟩), m.tv]) h R := by
  apply gate_Gate_asked_calls (some ⟨g, 0⟩) m.kind m.slot m.target m.member m.body m.bits m.tag
  unfold gate_Gate_asked_vc
  refine newTV_in fun h1 v1 x1 s1 => ?_
  have p1 := p.ext x1
  have cw := Clock.clampW_le c.win
  refine ⟨m.kind, v1.at.1, If.split (fun hb => ?_) fun hb => ?_⟩
  · have hk : m.kind ≠ 1 := by simpa using hb
    have he : askedS c s m.kind m.slot = Clock.voteB s.now (Clock.clampW c.win) m.slot := if_neg hk
    rw [he] at hr
    exact ⟨_, p1.var.at1 rfl, m.slot, v1.at.2.1, Clock.vote_spec p1.clk n0 n1 cw.1 cw.2 ⟨_, rfl, hr h1 x1⟩⟩
  · have hk : m.kind = 1 := by simpa using hb
    have he : askedS c s m.kind m.slot = Clock.blockB s.now (finalS s).slot m.slot := if_pos hk
    rw [he] at hr
    refine final_spec p1 fun h2 x2 => ⟨_, _, rfl, newTV_in fun h3 v3 x3 s3 => put_in v3 (t := .bytes 32 (finalS s).root) bsz fun h4 v4 f4 s4 => ?_⟩
    have x24 : Ext h2 h4 := Only.cut x3 f4 fun i hi => Nat.le_of_eq (Eq.symm hi)
    have y4 := x2.trans x24
    have p4 := p1.ext y4
    have w4 := v1.ext y4
    exact ⟨_, p4.var.at1 rfl, m.slot, w4.at.2.1, Clock.block_spec p4.clk ⟨_, rfl, hr h4 (x1.trans y4)⟩⟩

/-- How much a verdict takes off. -/
def pointsF (v : Int) : Int := if v = 4 ∨ v = 5 then 4 else if v = 6 ∨ v = 9 then 1 else if v = 7 ∨ v = 10 then 3 else if v = 8 then 5 else 0

theorem points_spec {v : Int} (hr : R (TV.int .i64 (pointsF v)).val h) : CallsH Tryz.prog F.gate_points (TVs.vals [.int .i64 v]) h R := by
  apply gate_points_calls
  unfold gate_points_vc
  have go : ∀ n : Int, pointsF v = n → R (TV.int .i64 n).val h := fun n hn => by rw [← hn]; exact hr
  intro J HJ
  refine If.dec.2 ⟨fun e => HJ _ h ?_, fun e => HJ _ h ?_⟩
  · rw [decide_eq_true e]
    exact If.yes (go 4 (if_pos (.inl e)))
  · refine If.dec.2 ⟨fun e5 => go 4 (if_pos (.inr e5)), fun e5 => ?_⟩
    intro J2 HJ2
    have h1 : ¬ (v = 4 ∨ v = 5) := fun hh => hh.elim e e5
    refine If.dec.2 ⟨fun e6 => HJ2 _ h ?_, fun e6 => HJ2 _ h ?_⟩
    · rw [decide_eq_true e6]
      exact If.yes (go 1 (by unfold pointsF; rw [if_neg h1, if_pos (.inl e6)]))
    · refine If.dec.2 ⟨fun e9 => go 1 (by unfold pointsF; rw [if_neg h1, if_pos (.inr e9)]), fun e9 => ?_⟩
      have h2 : ¬ (v = 6 ∨ v = 9) := fun hh => hh.elim e6 e9
      refine If.dec.2 ⟨fun e7 => ?_, fun e7 => ?_⟩
      · have g3 := go 3 (by unfold pointsF; rw [if_neg h1, if_neg h2, if_pos (.inl e7)])
        exact If.dec.2 ⟨fun _ => g3, fun hn => absurd e7 hn⟩
      · refine If.dec.2 ⟨fun e10 => go 3 (by unfold pointsF; rw [if_neg h1, if_neg h2, if_pos (.inr e10)]), fun e10 => ?_⟩
        have h3 : ¬ (v = 7 ∨ v = 10) := fun hh => hh.elim e7 e10
        exact If.dec.2 ⟨fun e8 => go 5 (by unfold pointsF; rw [if_neg h1, if_neg h2, if_neg h3, if_pos e8]), fun e8 => go 0 (by unfold pointsF; rw [if_neg h1, if_neg h2, if_neg h3, if_neg e8])⟩

end
end Go.Proofs.YtennbinbffdimaaGreat.Gate
end

section
/- Whether a message is known. -/
namespace Go.Proofs.YtennbinbffdimaaGreat.Gate
open Go Go.Vc
open Board (Vd Cf vds put_n bsz)
open Pool (It WL Mine has types_pos)
open Peers (Pe)

section
variable {R : Value → Heap → Prop} {h h' : Heap} {g : Nat} {a : Ad} {c : Cf} {V : List Vd} {s : St} {Fp : Nat → Nat → Prop}

theorem o_len {l : Go.Vc.Loc} : MethodAt Tryz.prog h T.p_orphans_Orphans (TV.ptr (some l)).val "Len" F.orphans_Orphans_Len (TV.ptr (some l)).val := meth_ptr ctx_ok (e := T.orphans_Orphans) (by kernel_rfl) (by kernel_rfl) types_pos (by kernel_rfl)
theorem o_has {l : Go.Vc.Loc} : MethodAt Tryz.prog h T.p_orphans_Orphans (TV.ptr (some l)).val "Has" F.orphans_Orphans_Has (TV.ptr (some l)).val := meth_ptr ctx_ok (e := T.orphans_Orphans) (by kernel_rfl) (by kernel_rfl) types_pos (by kernel_rfl)
theorem e_len {l : Go.Vc.Loc} : MethodAt Tryz.prog h T.p_early_Early (TV.ptr (some l)).val "Len" F.early_Early_Len (TV.ptr (some l)).val := meth_ptr ctx_ok (e := T.early_Early) (by kernel_rfl) (by kernel_rfl) types_pos (by kernel_rfl)
theorem e_has {l : Go.Vc.Loc} : MethodAt Tryz.prog h T.p_early_Early (TV.ptr (some l)).val "Has" F.early_Early_Has (TV.ptr (some l)).val := meth_ptr ctx_ok (e := T.early_Early) (by kernel_rfl) (by kernel_rfl) types_pos (by kernel_rfl)

theorem has_nil (r : Bs 32) : has r [] = false := rfl

/-- Whether a message is there, or waits. -/
def knownS (s : St) (kind : Int) (r : Bs 32) : Bool := if kind = 1 then decide (0 ≤ place r s.N) || has r s.kids else has r s.wait

theorem known_spec {m : Board.Ms} {r : Bs 32} (p : GateB h g a c V s Fp) (hr : ∀ h', Ext h h' → R (TV.bool (knownS s m.kind r)).val h') : CallsH Tryz.prog F.gate_Gate_known (TVs.vals [.ptr (some ⟨g, 0⟩), m.tv, .bytes 32 r]) h R := by
  apply gate_Gate_known_calls (some ⟨g, 0⟩) m.kind m.slot m.target m.member m.body m.bits m.tag
  unfold gate_Gate_known_vc
  refine newTV_in fun h1 v1 x1 s1 => newTV_in fun h2 v2 x2 s2 => ?_
  have x02 := x1.trans x2
  have p2 := p.ext x02
  have w1 := v1.ext x2
  obtain ⟨rr, A, tp, hS⟩ := p2.tree
  obtain ⟨kb, kA, kp, hK⟩ := p2.kids
  obtain ⟨wb, wA, wp, hW⟩ := p2.wait
  have len0 : ∀ {I : List It}, ¬ ((0 : Int) < (I.length : Int)) → I = [] := fun hn => List.eq_nil_of_length_eq_zero (by omega)
  refine ⟨_, p2.var.at1 rfl, ?_⟩
  intro J HJ
  refine ⟨m.kind, w1.at.1, If.dec.2 ⟨fun hk => ?_, fun hk => ?_⟩⟩
  · refine ⟨_, p2.var.at1 rfl, HJ _ h2 ?_⟩
    have he : knownS s m.kind r = (decide (0 ≤ place r s.N) || has r s.kids) := if_pos hk
    rw [he] at hr
    refine ⟨m.kind, w1.at.1, If.dec.2 ⟨fun _ => ?_, fun hn => absurd hk hn⟩⟩
    refine ⟨_, p2.var.at1 rfl, r, v2.bytes, p2.btree ⟨_, rfl, Ext.refl _, Place_spec tp fun h3 x3 => ⟨_, rfl, ?_⟩⟩⟩
    refine If.dec.2 ⟨fun h0 => ?_, fun h0 => ?_⟩
    · have := hr h3 (x02.trans x3)
      rw [decide_eq_true h0, Bool.true_or] at this
      exact this
    · rw [decide_eq_false h0, Bool.false_or] at hr
      refine ⟨_, _, _, _, rfl, o_len, Pool.olen_spec (kp.ext x3) ⟨_, rfl, ?_⟩⟩
      refine If.dec.2 ⟨fun _ => ⟨r, (v2.ext x3).bytes, _, _, _, _, rfl, o_has, Pool.ohas_spec (kp.ext x3) fun h4 x4 => ⟨_, rfl, hr h4 ((x02.trans x3).trans x4)⟩⟩, fun hl => ?_⟩
      have := hr h3 (x02.trans x3)
      rw [len0 hl, has_nil] at this
      exact this
  · have he : knownS s m.kind r = has r s.wait := if_neg hk
    rw [he] at hr
    refine HJ _ h2 ⟨m.kind, w1.at.1, If.dec.2 ⟨fun hn => absurd hn hk, fun _ => ?_⟩⟩
    refine ⟨_, _, _, _, rfl, e_len, Pool.elen_spec wp ⟨_, rfl, ?_⟩⟩
    refine If.dec.2 ⟨fun _ => ⟨r, v2.bytes, _, _, _, _, rfl, e_has, Pool.ehas_spec wp fun h4 x4 => ⟨_, rfl, hr h4 (x02.trans x4)⟩⟩, fun hl => ?_⟩
    have := hr h2 x02
    rw [len0 hl, has_nil] at this
    exact this

end
end Go.Proofs.YtennbinbffdimaaGreat.Gate
end

section
/- Members, plainly: as many as Committee says, each once; configurations that are read. -/
namespace Go.Proofs.YtennbinbffdimaaGreat.Board
open Go Go.Vc

/-! ### The plain law -/

noncomputable def whos (slot : Int) (n : Nat) : List Int := (sorted slot n).map Seat.who

theorem whos_perm (slot : Int) (n : Nat) : (whos slot n).Perm ((List.range n).map fun (i : Nat) => (i : Int)) := by
  have := (sorted_perm slot n).map Seat.who
  unfold sts at this
  rw [List.map_map] at this
  exact this

theorem whos_mem {slot : Int} {n : Nat} {x : Int} (h : x ∈ whos slot n) : 0 ≤ x ∧ x < n := by
  have := (whos_perm slot n).mem_iff.1 h
  obtain ⟨i, hi, rfl⟩ := List.mem_map.1 this
  have := List.mem_range.1 hi
  omega

theorem mem_eq {n : Nat} {com slot : Int} (h0 : 0 ≤ slot) (h1 : slot ≤ 1073741824) : mem n com slot = (whos slot n).take (min (max com 0) (n : Int)).toNat := by
  unfold mem whos
  rw [if_neg (by omega), List.map_take]

theorem mem_out {n : Nat} {com slot : Int} (h : slot < 0 ∨ 1073741824 < slot) : mem n com slot = [] := by
  unfold mem
  rw [if_pos h]

theorem idx_out : ∀ (l : List Int) (k x : Int), x ∉ l → idx l x k = -1
  | [], _, _, _ => rfl
  | y :: ys, k, x, h => by
    rw [idx, if_neg (fun e => h (by rw [e]; exact List.mem_cons_self ..)), idx_out ys _ x (fun hx => h (List.mem_cons_of_mem _ hx))]

/-! ### The program -/

section
variable {R : Value → Heap → Prop} {h : Heap} {c : Cf}

/-- A configuration is read. -/
theorem cf_at {b : Nat} (v : Var 24 h b c.tv) {K : Sl → Int → Int → Int → Int → Int → Int → Int → Int → Int → Int → Int → Prop} (hk : K c.vals c.ep c.com c.no c.orp c.ear c.quo c.pe c.by_ c.win c.ban c.dec) :
    ∃ (s : Sl), ∃ (n n_1 n_2 n_3 n_4 n_5 n_6 n_7 n_8 n_9 n_10 : Int), (at1 h b 0 (slVal s) ∧ at1 h b 1 (.int .i64 n) ∧ at1 h b 2 (.int .i64 n_1) ∧ at1 h b 3 (.int .i64 n_2) ∧ at1 h b 4 (.int .i64 n_3) ∧ at1 h b 5 (.int .i64 n_4) ∧ at1 h b 6 (.int .i64 n_5) ∧ at1 h b 7 (.int .i64 n_6) ∧
      at1 h b 8 (.int .i64 n_7) ∧ at1 h b 9 (.int .i64 n_8) ∧ at1 h b 10 (.int .i64 n_9) ∧ at1 h b 11 (.int .i64 n_10)) ∧ K s n n_1 n_2 n_3 n_4 n_5 n_6 n_7 n_8 n_9 n_10 :=
  ⟨c.vals, c.ep, c.com, c.no, c.orp, c.ear, c.quo, c.pe, c.by_, c.win, c.ban, c.dec, v.at, hk⟩

end
end Go.Proofs.YtennbinbffdimaaGreat.Board
end
