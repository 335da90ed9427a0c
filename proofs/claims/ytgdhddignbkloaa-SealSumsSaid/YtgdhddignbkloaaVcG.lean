/- Conditions for whole bodies: regions in the order of the text, branches, joins, loops, results. -/
import Derived.Test.YtgdhddignbkloaaVcG0
namespace Go.Vc
open Go

/-! ### Slots that a piece of code writes -/

def bit (d : Nat) : Nat := Nat.shiftLeft 1 d

def maskOps : List Oper → Nat
  | [] => 0
  | o :: os => match o.dst with
    | some d => Nat.lor (bit d) (maskOps os)
    | none => maskOps os

def maskCode : Code → Nat
  | .region _ ops _ => maskOps ops.toList
  | .seq a b => Nat.lor (maskCode a) (maskCode b)
  | .cond _ a b => Nat.lor (maskCode a) (maskCode b)
  | .block _ c => maskCode c
  | .loop c => maskCode c
  | _ => 0

structure Keep (m : Nat) (env env' : Env) : Prop where
  len : env'.length = env.length
  slot : ∀ i, m.testBit i = false → env'[i]? = env[i]?

theorem Keep.refl (m : Nat) (env : Env) : Keep m env env := ⟨rfl, fun _ _ => rfl⟩
theorem Keep.trans {m : Nat} {a b c : Env} (h : Keep m a b) (k : Keep m b c) : Keep m a c := ⟨k.len.trans h.len, fun i hi => (k.slot i hi).trans (h.slot i hi)⟩
theorem Keep.mono {m n : Nat} {a b : Env} (h : Keep m a b) (hs : ∀ i, n.testBit i = false → m.testBit i = false) : Keep n a b := ⟨h.len, fun i hi => h.slot i (hs i hi)⟩

theorem lor_left {m n : Nat} : ∀ i, (Nat.lor m n).testBit i = false → m.testBit i = false := fun i h => by
  have : (m ||| n).testBit i = false := h
  rw [Nat.testBit_or] at this
  simp only [Bool.or_eq_false_iff] at this
  exact this.1
theorem lor_right {m n : Nat} : ∀ i, (Nat.lor m n).testBit i = false → n.testBit i = false := fun i h => by
  have : (m ||| n).testBit i = false := h
  rw [Nat.testBit_or] at this
  simp only [Bool.or_eq_false_iff] at this
  exact this.2

theorem bit_ne {d i : Nat} (h : (bit d).testBit i = false) : d ≠ i := by
  rintro rfl
  have : (1 <<< d).testBit d = false := h
  simp at this

theorem keep_put (o : Option Tmp) (env : Env) (r : Option TV) {m : Nat} (hm : ∀ d, o = some d → ∀ i, m.testBit i = false → d ≠ i) : Keep m env (env.put o r) := by
  cases o with
  | none => exact Keep.refl _ _
  | some d =>
    refine ⟨by simp [Env.put], fun i hi => ?_⟩
    simp only [Env.put]
    rw [List.getElem?_set_ne (hm d rfl i hi)]

/-! ### A region in the order of the text -/

/-- One of two, by a test. -/
def If (b : Bool) (p q : Prop) : Prop := match b with
  | true => p
  | false => q

theorem If.split {b : Bool} {p q : Prop} (h1 : b = true → p) (h2 : b = false → q) : If b p q := by
  cases b
  · exact h2 rfl
  · exact h1 rfl

theorem If.iff {b : Bool} {p q : Prop} : If b p q ↔ (b = true → p) ∧ (b = false → q) := by
  cases b <;> simp [If]

theorem If.dec {c p q : Prop} [Decidable c] : If (decide c) p q ↔ (c → p) ∧ (¬ c → q) := by
  rw [If.iff]; simp

def wantedTV (all : List Oper) (o : Oper) (env : Env) : Option Bool :=
  match o.guard with
  | none => some true
  | some (j, want) => match all[j]? with
    | some oj => match oj.dst with
      | some d => match env.getD d none with
        | some (.bool true) => some want
        | some (.bool false) => some (!want)
        | some (.tup []) => some false
        | _ => none
      | none => none
    | none => none

def isGuard (i : Nat) : List Oper → Bool
  | [] => false
  | o :: os => match o.guard with
    | some (j, _) => match Nat.beq j i with
      | true => true
      | false => isGuard i os
    | none => isGuard i os

def splitG (used : Bool) (r : Option TV) (K : Option TV → Prop) : Prop :=
  match used, r with
  | true, some (.bool b) => If b (K (some (.bool true))) (K (some (.bool false)))
  | _, r => K r

def vcOps (C : Ctx) (all : List Oper) : List Oper → Nat → Env → Heap → (Env → Heap → Prop) → Prop
  | [], _, env, h, Q => Q env h
  | o :: rest, i, env, h, Q => match wantedTV all o env with
    | some true => vcOp C o env.ev h fun r h' => splitG (isGuard i rest) r fun r' => vcOps C all rest (i + 1) (env.put o.dst r') h' Q
    | some false => vcOps C all rest (i + 1) (env.put o.dst (some (.tup []))) h Q
    | none => False

section
variable {P : Program} {C : Ctx}

theorem splitG_sound {used : Bool} {r : Option TV} {K : Option TV → Prop} (h : splitG used r K) {v : Value} (hr : Rel r v) : ∃ r', Rel r' v ∧ K r' := by
  unfold splitG at h
  split at h
  · rename_i b
    obtain rfl := hr _ rfl
    cases b
    · exact ⟨_, .some rfl, h⟩
    · exact ⟨_, .some rfl, h⟩
  · exact ⟨r, hr, h⟩

theorem wanted_sound {all : List Oper} {o : Oper} {env : Env} {a : Act} (he : EnvOk env a) {b : Bool} (h : wantedTV all o env = some b) : Region.wanted o (yielded all.toArray a.tmps) = b := by
  unfold wantedTV at h
  unfold Region.wanted
  split at h
  · rename_i hg
    rw [hg]
    exact Option.some.inj h
  · rename_i j want hg
    rw [hg]
    dsimp only
    split at h
    · rename_i oj hj
      split at h
      · rename_i d hd
        have hslot : ∀ tv, env.getD d none = some tv → a.tmps[d]? = some tv.val := fun tv htv => by
          refine he.slot d tv ?_
          rw [List.getD_eq_getElem?_getD] at htv
          cases hh : env[d]? with
          | none => rw [hh] at htv; cases htv
          | some y => rw [hh] at htv; simp at htv; rw [htv]
        have hy : yielded all.toArray a.tmps j = match a.tmps[d]? with | some (.bool b) => some b | _ => none := by
          unfold yielded
          have : all.toArray[j]? = some oj := by simpa using hj
          rw [this]
          simp only [Option.bind_some, hd]
          cases a.tmps[d]? with
          | none => rfl
          | some v => cases v <;> rfl
        rw [hy]
        split at h
        · rename_i hv
          rw [hslot _ hv]
          obtain rfl := Option.some.inj h
          cases want <;> rfl
        · rename_i hv
          rw [hslot _ hv]
          obtain rfl := Option.some.inj h
          cases want <;> rfl
        · rename_i hv
          rw [hslot _ hv]
          obtain rfl := Option.some.inj h
          cases want <;> rfl
        · cases h
      · cases h
    · cases h

theorem vcOps_sound (hC : C.Ok) {all : List Oper} {QQ : Exit → Act → World → Prop} {env0 : Env} {w0 : World} {m : Nat} {Q : Env → Heap → Prop}
    (hQ : ∀ env a w, EnvOk env a → SameEnv w0 w → Keep m env0 env → Q env w.heap → QQ .normal a w) :
    ∀ (rest : List Oper) (i : Nat) (env : Env) (a : Act) (w : World), vcOps C all rest i env w.heap Q → EnvOk env a → SameEnv w0 w → Keep m env0 env → (∀ j, m.testBit j = false → (maskOps rest).testBit j = false) →
      wpList C.P all.toArray QQ rest a w
  | [], i, env, a, w, hv, he, hs, hk, _ => hQ env a w he hs hk hv
  | o :: rest, i, env, a, w, hv, he, hs, hk, hm => by
    have hm' : ∀ j, m.testBit j = false → (maskOps rest).testBit j = false := fun j hj => by
      have := hm j hj
      unfold maskOps at this
      split at this
      · exact lor_right j this
      · exact this
    have hd : ∀ d, o.dst = some d → ∀ j, m.testBit j = false → d ≠ j := fun d hdd j hj => by
      have := hm j hj
      unfold maskOps at this
      rw [hdd] at this
      exact bit_ne (lor_left j this)
    simp only [vcOps] at hv
    unfold wpList
    split at hv
    · rename_i hw
      rw [if_pos (wanted_sound he hw)]
      refine .inl ((vcOp_sound hC hv he).wp fun r v w' hr hrel hsame => ?_)
      obtain ⟨r', hrel', hr'⟩ := splitG_sound hr hrel
      exact vcOps_sound hC hQ rest (i + 1) _ _ w' hr' (he.put o.dst hrel') (hs.trans hsame) (hk.trans (keep_put o.dst env r' hd)) hm'
    · rename_i hw
      rw [if_neg (by rw [wanted_sound he hw]; simp)]
      exact vcOps_sound hC hQ rest (i + 1) _ _ w hv (he.put o.dst (.some rfl)) hs (hk.trans (keep_put o.dst env _ hd)) hm'
    · exact hv.elim

end

def conj : List Nat → (Nat → Prop) → Prop
  | [], _ => True
  | x :: xs, f => match xs with
    | [] => f x
    | _ :: _ => f x ∧ conj xs f

theorem conj_mem {f : Nat → Prop} : ∀ {l : List Nat}, conj l f → ∀ x ∈ l, f x
  | [], _, x, hx => by cases hx
  | y :: ys, h, x, hx => by
    unfold conj at h
    split at h
    · simp only [List.mem_singleton] at hx
      rw [hx]; exact h
    · rcases List.mem_cons.1 hx with rfl | hx
      · exact h.1
      · exact conj_mem h.2 x hx

/-- A region in which a store may come ahead of something that is read: what is read early is read at the beginning, and has to stand until the end. -/
def isStore (o : Op) : Bool := match o with
  | .store _ _ _ => true
  | _ => false

def storeEx (C : Ctx) (all : List Oper) : List Oper → Nat → Bool
  | [], _ => false
  | o :: os, j => match isStore o.op with
    | true => match exB C all j with
      | true => storeEx C all os (j + 1)
      | false => true
    | false => storeEx C all os (j + 1)

def baseOf (C : Ctx) (all : List Oper) (h : Heap) : Option Heap := match storeEx C all all 0 with
  | true => some h
  | false => none

theorem baseOf_base (C : Ctx) (all : List Oper) (h : Heap) : baseB (baseOf C all h) h = h := by
  unfold baseOf
  split <;> rfl

/-- Does a region read early, and do what may change things? -/
def looseR (C : Ctx) (all : List Oper) : Bool := match C.loose with
  | false => false
  | true => match (List.range all.length).any fun i => reads C all i with
    | false => false
    | true => (List.range all.length).any fun j => match all[j]? with
      | some o => match kindOf C o with
        | 2 => !exB C all j
        | _ => false
      | none => false

/-- What has to stand in a region. -/
def withBase (C : Ctx) (all : List Oper) (h : Heap) (K : Option Heap → Prop) : Prop := match looseR C all with
  | true => ∃ h0 : Heap, Ext h0 h ∧ K (some h0)
  | false => K (baseOf C all h)

theorem withBase_out {C : Ctx} {all : List Oper} {h : Heap} {K : Option Heap → Prop} (hv : withBase C all h K) : ∃ B, Ext (baseB B h) h ∧ K B := by
  unfold withBase at hv
  split at hv
  · obtain ⟨h0, e, k⟩ := hv
    exact ⟨some h0, e, k⟩
  · exact ⟨_, by rw [baseOf_base]; exact Ext.refl _, hv⟩

/-- Where an early operation looks. -/
def heapAt (B : Option Heap) (h : Heap) (o : Oper) : Heap := match B with
  | none => h
  | some h0 => match isLoad o.op with
    | true => h0
    | false => h

theorem heapAt_load {B : Option Heap} {h : Heap} {o : Oper} (hl : isLoad o.op = true) : heapAt B h o = baseB B h := by
  cases B with
  | none => rfl
  | some h0 => unfold heapAt; rw [hl]; rfl

theorem heapAt_not {B : Option Heap} {h : Heap} {o : Oper} (hl : isLoad o.op = false) : heapAt B h o = h := by
  cases B with
  | none => rfl
  | some h0 => unfold heapAt; rw [hl]

theorem extB_base {B : Option Heap} {h h' : Heap} (e : extB B h h') : Ext (baseB B h') h' := by
  cases B with
  | none => exact Ext.refl _
  | some h0 => exact e

/-- What was read at the beginning may be read then alone. -/
def okLoad (B : Option Heap) (mv : Bool) (o : Oper) : Bool := match B with
  | none => true
  | some _ => match mv with
    | false => true
    | true => !isLoad o.op

/-- A region whose order is drawn. -/
def drawGo (C : Ctx) (all : List Oper) (B : Option Heap) : Nat → Bool → List Bool → Env → Heap → (Env → Heap → Prop) → Prop
  | 0, _, l, env, h, Q => match readyL all l with
    | [] => Q env h
    | _ :: _ => False
  | n + 1, mv, l, env, h, Q => match readyL all l with
    | [] => Q env h
    | r :: rs => match firstEarly C all (r :: rs) with
      | some i => match all[i]? with
        | some o => match okLoad B mv o with
          | true => match wantedTV all o env with
            | some true => vcR C o env.ev (heapAt B h o) fun r => splitG (isGuard i all) r fun r' => drawGo C all B n mv (l.set i true) (env.put o.dst r') h Q
            | some false => drawGo C all B n mv (l.set i true) (env.put o.dst (some (.tup []))) h Q
            | none => False
          | false => False
        | none => False
      | none => conj (r :: rs) fun r => match all[r]? with
        | some o => match wantedTV all o env with
          | some true => match exB C all r with
            | true => vcOp C o env.ev h fun x h' => splitG (isGuard r all) x fun x' => drawGo C all B n true (l.set r true) (env.put o.dst x') h' Q
            | false => vcOp C o env.ev h fun x h' => extB B h h' ∧ splitG (isGuard r all) x fun x' => drawGo C all B n mv (l.set r true) (env.put o.dst x') h' Q
          | some false => drawGo C all B n mv (l.set r true) (env.put o.dst (some (.tup []))) h Q
          | none => False
        | none => False

section
variable {C : Ctx}

def noneB (all : List Oper) : List Bool := all.map fun _ => false

theorem firstEarly_mem {C : Ctx} {all : List Oper} : ∀ (l : List Nat) (i : Nat), firstEarly C all l = some i → i ∈ l ∧ early C all i = true
  | [], i, h => by cases h
  | x :: xs, i, h => by
    unfold firstEarly at h
    split at h
    · rename_i hx
      injection h with h
      subst h
      exact ⟨by simp, hx⟩
    · obtain ⟨h1, h2⟩ := firstEarly_mem xs i h
      exact ⟨by simp [h1], h2⟩

theorem early_apart {C : Ctx} {all : List Oper} (h : apartB all = true) {i : Nat} {oi : Oper} (he : early C all i = true) (hi : all[i]? = some oi) (l : Array Bool) (j : Nat) (oj : Oper) (hc : Closed all.toArray l)
    (hj : all.toArray[j]? = some oj) (hne : j ≠ i) (hri : i ∈ Region.ready .any all.toArray l) (hrj : j ∈ Region.ready .any all.toArray l) :
    oi.apart all.toArray oj = true ∧ (isLoad oi.op = true → exB C all j = false) := by
  have hj0 : all[j]? = some oj := by simpa using hj
  have hb : Nat.beq i j = false := by
    cases hh : Nat.beq i j with
    | false => rfl
    | true => exact absurd (Nat.eq_of_beq_eq_true hh).symm hne
  have di := ready_getD hri
  have dj := ready_getD hrj
  have n1 : waitsT all j i = false := by
    cases hw : waitsT all j i with
    | false => rfl
    | true => rw [waitsT_ready hc hw hrj] at di; cases di
  have n2 : waitsT all i j = false := by
    cases hw : waitsT all i j with
    | false => rfl
    | true => rw [waitsT_ready hc hw hri] at dj; cases dj
  have n3 : waits oj i = false := by
    cases hw : waits oj i with
    | false => rfl
    | true => rw [waits_ready hw hj hrj] at di; cases di
  have n4 : waits oi j = false := by
    cases hw : waits oi j with
    | false => rfl
    | true => rw [waits_ready hw (by simpa using hi) hri] at dj; cases dj
  refine ⟨?_, ?_⟩
  · unfold apartB at h
    have h1 := List.all_eq_true.1 (List.all_eq_true.1 h i (List.mem_range.2 (List.getElem?_eq_some_iff.1 hi).1)) j (List.mem_range.2 (List.getElem?_eq_some_iff.1 hj0).1)
    rw [hb, hi, hj0] at h1
    simpa [n1, n2, n3, n4] using h1
  · intro hld
    cases hx : exB C all j with
    | false => rfl
    | true =>
      unfold exB at hx
      have h1 := List.all_eq_true.1 hx i (List.mem_range.2 (List.getElem?_eq_some_iff.1 hi).1)
      have hrd : reads C all i = true := by
        unfold reads
        rw [hi]
        dsimp only
        rw [hld]
        exact he
      rw [hb, hrd, n1, n2] at h1
      cases h1

theorem mask_mem {m : Nat} : ∀ (all : List Oper), (∀ j, m.testBit j = false → (maskOps all).testBit j = false) → ∀ o ∈ all, ∀ d, o.dst = some d → ∀ j, m.testBit j = false → d ≠ j
  | [], _, o, ho, _, _, _, _ => by cases ho
  | x :: xs, hm, o, ho, d, hd, j, hj => by
    have h1 := hm j hj
    unfold maskOps at h1
    rcases List.mem_cons.1 ho with rfl | ho
    · rw [hd] at h1
      exact bit_ne (lor_left j h1)
    · refine mask_mem xs (fun j hj => ?_) o ho d hd j hj
      have h2 := hm j hj
      unfold maskOps at h2
      split at h2
      · exact lor_right j h2
      · exact h2

theorem set_toArray (l : List Bool) (i : Nat) : (l.set i true).toArray = l.toArray.setIfInBounds i true := by
  apply Array.toList_inj.1
  simp

theorem ok_base {B : Option Heap} {mv : Bool} {o : Oper} {h : Heap} (hk : okLoad B mv o = true) (hl : isLoad o.op = true) (hm : mv = false → Ext (baseB B h) h) : Ext (baseB B h) h := by
  cases B with
  | none => exact Ext.refl _
  | some h0 =>
    cases mv with
    | false => exact hm rfl
    | true =>
      unfold okLoad at hk
      dsimp only at hk
      rw [hl] at hk
      cases hk

theorem drawGo_sound (hC : C.Ok) {all : List Oper} (hap : apartB all = true) (hsel : Region.noSelect all.toArray = true) {QQ : Exit → Act → World → Prop} {env0 : Env} {w0 : World} {m : Nat} {Q : Env → Heap → Prop} {B : Option Heap}
    (hm : ∀ j, m.testBit j = false → (maskOps all).testBit j = false) (hp : ∀ c a w, ¬ QQ (.panic c) a w)
    (hQ : ∀ env a w, EnvOk env a → SameEnv w0 w → Keep m env0 env → Q env w.heap → QQ .normal a w) :
    ∀ (n : Nat) (mv : Bool) (l : List Bool) (env : Env) (a : Act) (w : World), drawGo C all B n mv l env w.heap Q → (mv = false → Ext (baseB B w.heap) w.heap) → EnvOk env a → SameEnv w0 w → Keep m env0 env → Closed all.toArray l.toArray →
      anyX C.P all.toArray QQ (exB C all) B n l.toArray a w
  | 0, mv, l, env, a, w, hv, hmv, he, hs, hk, _ => by
    simp only [drawGo] at hv
    split at hv
    · rename_i hr
      exact ⟨hr, hQ env a w he hs hk hv⟩
    · exact hv.elim
  | n + 1, mv, l, env, a, w, hv, hmv, he, hs, hk, hcl => by
    simp only [drawGo] at hv
    split at hv
    · rename_i hr
      have hr' : Region.ready .any all.toArray l.toArray = [] := hr
      exact ⟨fun _ => hQ env a w he hs hk hv, by rw [hr']; simp⟩
    · rename_i r rs hr
      have hr' : Region.ready .any all.toArray l.toArray = r :: rs := hr
      split at hv
      · rename_i i hfe
        obtain ⟨hmem, hearly⟩ := firstEarly_mem _ _ hfe
        split at hv
        · rename_i o hi
          have hi' : all.toArray[i]? = some o := by simpa using hi
          have ho : o ∈ all := List.mem_of_getElem? hi
          have hkd := mask_mem all hm o ho
          have hri : i ∈ Region.ready .any all.toArray l.toArray := by rw [hr']; exact hmem
          have step : ∀ (v : Value) (env' : Env), ((isLoad o.op = true → YieldsIf C.P all.toArray (fun w' => Ext (baseB B w.heap) w'.heap) o v a ∧ Ext (baseB B w.heap) w.heap) ∧ (isLoad o.op = false → YieldsIf C.P all.toArray (fun _ => True) o v a)) → drawGo C all B n mv (l.set i true) env' w.heap Q → EnvOk env' (a.put o.dst v) → Keep m env0 env' →
              anyX C.P all.toArray QQ (exB C all) B (n + 1) l.toArray a w := by
            intro v env' hy hd he' hk'
            have ih := drawGo_sound hC hap hsel hm hp hQ n mv (l.set i true) env' (a.put o.dst v) w hd hmv he' hs hk' (by rw [set_toArray]; exact hcl.set hri)
            rw [set_toArray] at ih
            cases hld : isLoad o.op with
            | true =>
              exact anyX_first hi' hsel (fun c a w h => absurd h (hp c _ w))
                (fun l j oj hc hj hne hri hrj => (early_apart hap hearly hi l j oj hc hj hne hri hrj).imp id (fun h => h hld)) n l.toArray a w hcl hri (hy.1 hld).1 (hy.1 hld).2 ih
            | false =>
              exact anyX_first0 hi' hsel (fun c a w h => absurd h (hp c _ w))
                (fun l j oj hc hj hne hri hrj => (early_apart hap hearly hi l j oj hc hj hne hri hrj).1) n l.toArray a w hcl hri (hy.2 hld) ih
          split at hv
          rotate_left
          · exact hv.elim
          rename_i hokl
          split at hv
          · rename_i hw
            cases hld : isLoad o.op with
            | true =>
              have hbw := ok_base hokl hld hmv
              rw [heapAt_load hld] at hv
              obtain ⟨x, v, h1, h2, h3⟩ := early_stable hC hv he
              obtain ⟨x', hrel', hx'⟩ := splitG_sound h1 h2
              exact step v _ ⟨fun _ => ⟨.inl ⟨wanted_sound he hw, fun w' hw' => h3 w' hw'⟩, hbw⟩, fun hf => (by rw [hld] at hf; cases hf)⟩ hx' (he.put o.dst hrel') (hk.trans (keep_put o.dst env x' hkd))
            | false =>
              rw [heapAt_not hld] at hv
              obtain ⟨x, v, h1, h2, h3⟩ := vcR_sound hC hv he
              obtain ⟨x', hrel', hx'⟩ := splitG_sound h1 h2
              exact step v _ ⟨fun hf => (by rw [hld] at hf; cases hf), fun _ => .inl ⟨wanted_sound he hw, fun w' _ => h3.2 hld w'⟩⟩ hx' (he.put o.dst hrel') (hk.trans (keep_put o.dst env x' hkd))
          · rename_i hw
            exact step undef _ ⟨fun hld => ⟨.inr ⟨wanted_sound he hw, rfl⟩, ok_base hokl hld hmv⟩, fun _ => .inr ⟨wanted_sound he hw, rfl⟩⟩ hv (he.put o.dst (.some rfl)) (hk.trans (keep_put o.dst env _ hkd))
          · exact hv.elim
        · exact hv.elim
      · refine ⟨fun h0 => (by rw [hr'] at h0; cases h0), fun j hj => ?_⟩
        have hcl' := hcl.set hj
        have hv := conj_mem hv j (by rw [← hr']; exact hj)
        split at hv
        · rename_i o hi
          have hi' : all.toArray[j]? = some o := by simpa using hi
          have ho : o ∈ all := List.mem_of_getElem? hi
          have hkd := mask_mem all hm o ho
          unfold wpOp
          rw [hi']
          dsimp only
          split at hv
          · rename_i hw
            rw [if_pos (wanted_sound he hw)]
            split at hv
            · rename_i hx
              refine .inl ((vcOp_sound hC hv he).wp fun x v w' hxx hrel hsame => ?_)
              obtain ⟨x', hrel', hx'⟩ := splitG_sound hxx hrel
              have ih := drawGo_sound hC hap hsel hm hp hQ n true (l.set j true) _ _ w' hx' (fun h => by cases h) (he.put o.dst hrel') (hs.trans hsame) (hk.trans (keep_put o.dst env x' hkd)) (by rw [set_toArray]; exact hcl')
              rw [set_toArray] at ih
              exact ⟨.inl hx, ih⟩
            · refine .inl ((vcOp_sound hC hv he).wp fun x v w' hxx hrel hsame => ?_)
              obtain ⟨hext, hxx⟩ := hxx
              obtain ⟨x', hrel', hx'⟩ := splitG_sound hxx hrel
              have ih := drawGo_sound hC hap hsel hm hp hQ n mv (l.set j true) _ _ w' hx' (fun _ => extB_base hext) (he.put o.dst hrel') (hs.trans hsame) (hk.trans (keep_put o.dst env x' hkd)) (by rw [set_toArray]; exact hcl')
              rw [set_toArray] at ih
              exact ⟨.inr (.inl (extB_iff.1 hext)), ih⟩
          · rename_i hw
            rw [if_neg (by rw [wanted_sound he hw]; simp)]
            have ih := drawGo_sound hC hap hsel hm hp hQ n mv (l.set j true) _ _ w hv hmv (he.put o.dst (.some rfl)) hs (hk.trans (keep_put o.dst env _ hkd)) (by rw [set_toArray]; exact hcl')
            rw [set_toArray] at ih
            exact ⟨.inr (.inr rfl), ih⟩
          · exact hv.elim
        · exact hv.elim

theorem closed_none (all : List Oper) : Closed all.toArray (noneB all).toArray := by
  intro i oi hi hd k hk
  have : (noneB all)[i]? = some false ∨ (noneB all)[i]? = none := by
    unfold noneB
    rw [List.getElem?_map]
    cases all[i]? <;> simp
  simp only [Array.getD_eq_getD_getElem?, List.getElem?_toArray] at hd
  rcases this with h1 | h1 <;> rw [h1] at hd <;> cases hd

end

/-! ### What is carried over a join or a loop's head -/

def TV.S : TV → Type
  | .int _ _ => Int
  | .bool _ => Bool
  | .str _ => List UInt8
  | .ptr _ => Option Loc
  | .slice _ => Sl
  | .map _ => Option Nat
  | .one _ => One
  | .bytes n _ => Bs n
  | .words _ n _ => Ws n
  | .agg _ => Unit
  | .tup _ => Unit
  | .fn _ _ _ => Unit

/-- The data of a value. -/
def TV.dat : (t : TV) → t.S
  | .int _ n => n
  | .bool b => b
  | .str s => s
  | .ptr p => p
  | .slice s => s
  | .map r => r
  | .one v => v
  | .bytes _ b => b
  | .words _ _ w => w
  | .agg _ => ()
  | .tup _ => ()
  | .fn _ _ _ => ()

/-- A value of the same shape with other data. -/
def TV.mk : (t : TV) → t.S → TV
  | .int k _, n => .int k n
  | .bool _, b => .bool b
  | .str _, s => .str s
  | .ptr _, p => .ptr p
  | .slice _, s => .slice s
  | .map _, r => .map r
  | .one _, v => .one v
  | .bytes n _, b => .bytes n b
  | .words k n _, w => .words k n w
  | .agg xs, _ => .agg xs
  | .tup xs, _ => .tup xs
  | .fn f a b, _ => .fn f a b

/-- The data of a value that has the shape of another one. -/
def TV.proj : (t : TV) → TV → Option t.S
  | .int k _, .int k' n => match k == k' with | true => some n | false => none
  | .bool _, .bool b => some b
  | .str _, .str s => some s
  | .ptr _, .ptr p => some p
  | .slice _, .slice s => some s
  | .map _, .map r => some r
  | .one _, .one v => some v
  | .bytes n _, .bytes m b => if h : m = n then some (h ▸ b) else none
  | .words k n _, .words k' m w => match k == k' with
    | true => if h : m = n then some (h ▸ w) else none
    | false => none
  | _, _ => none

theorem TV.proj_mk (t u : TV) (d : t.S) (h : t.proj u = some d) : t.mk d = u := by
  cases t <;> cases u <;> simp only [TV.proj, reduceCtorEq] at h
  case int.int k n k' n' =>
    split at h
    · rename_i hk
      have hk := beq_iff_eq.1 hk
      subst hk
      injection h with h
      subst h; rfl
    · cases h
  case bytes.bytes =>
    split at h
    · rename_i e; subst e; injection h with h; subst h; rfl
    · cases h
  case words.words =>
    split at h
    · rename_i hk
      have hk := beq_iff_eq.1 hk
      subst hk
      split at h
      · rename_i e; subst e; injection h with h; subst h; rfl
      · cases h
    · cases h
  all_goals
    injection h with h
    subst h
    rfl

abbrev Tl := List (Nat × TV)

def Tl.S : Tl → Type
  | [] => Unit
  | [x] => x.2.S
  | x :: y :: xs => x.2.S × Tl.S (y :: xs)

def Tl.dat : (T : Tl) → T.S
  | [] => ()
  | [x] => x.2.dat
  | x :: y :: xs => (x.2.dat, Tl.dat (y :: xs))

def Tl.put : (T : Tl) → T.S → Env → Env
  | [], _, env => env
  | [x], s, env => env.set x.1 (some (x.2.mk s))
  | x :: y :: xs, s, env => Tl.put (y :: xs) s.2 (env.set x.1 (some (x.2.mk s.1)))

def projAt (t : TV) (r : Option TV) : Option t.S :=
  match r with
  | some u => t.proj u
  | none => none

def Tl.proj : (T : Tl) → Env → Option T.S
  | [], _ => some ()
  | [x], env => projAt x.2 (env.getD x.1 none)
  | x :: y :: xs, env => match projAt x.2 (env.getD x.1 none), Tl.proj (y :: xs) env with
    | some a, some b => some (a, b)
    | _, _ => none

def forget (m : Nat) : Nat → Env → Env
  | _, [] => []
  | i, x :: xs => (match Nat.testBit m i with | true => none | false => x) :: forget m (i + 1) xs

def upd (env : Env) (m : Nat) (T : Tl) (s : T.S) : Env := T.put s (forget m 0 env)

def canCarry : TV → Bool
  | .fn _ _ _ => false
  | .tup _ => false
  | .agg _ => false
  | _ => true

def carried (m : Nat) : Nat → Env → Tl
  | _, [] => []
  | i, x :: xs => match Nat.testBit m i, x with
    | true, some t => match canCarry t with
      | true => (i, t) :: carried m (i + 1) xs
      | false => carried m (i + 1) xs
    | _, _ => carried m (i + 1) xs

theorem forget_get (m : Nat) : ∀ (env : Env) (k i : Nat), (forget m k env)[i]? = if m.testBit (k + i) then (env[i]?).map fun _ => none else env[i]?
  | [], k, i => by simp [forget]
  | x :: xs, k, 0 => by
    simp only [forget, List.getElem?_cons_zero, Nat.add_zero]
    cases m.testBit k <;> simp
  | x :: xs, k, i + 1 => by
    simp only [forget, List.getElem?_cons_succ]
    rw [forget_get m xs (k + 1) i, show k + 1 + i = k + (i + 1) by omega]

theorem forget_len (m : Nat) : ∀ (env : Env) (k : Nat), (forget m k env).length = env.length
  | [], k => rfl
  | x :: xs, k => by simp [forget, forget_len m xs (k + 1)]

theorem carried_bit (m : Nat) : ∀ (env : Env) (k : Nat) (x : Nat × TV), x ∈ carried m k env → m.testBit x.1 = true
  | [], k, x, h => by simp [carried] at h
  | y :: ys, k, x, h => by
    unfold carried at h
    split at h
    · rename_i hb
      split at h
      · rcases List.mem_cons.1 h with rfl | h
        · exact hb
        · exact carried_bit m ys (k + 1) x h
      · exact carried_bit m ys (k + 1) x h
    · exact carried_bit m ys (k + 1) x h

theorem projAt_some {t : TV} {env : Env} {i : Nat} {d : t.S} (h : projAt t (env.getD i none) = some d) : env[i]? = some (some (t.mk d)) := by
  unfold projAt at h
  split at h
  · rename_i u hu
    rw [TV.proj_mk t u d h]
    rw [List.getD_eq_getElem?_getD] at hu
    cases hh : env[i]? with
    | none => rw [hh] at hu; cases hu
    | some y => rw [hh] at hu; simp at hu; rw [hu]
  · cases h

theorem EnvOk.set {env : Env} {a : Act} (he : EnvOk env a) {i : Nat} {tv : TV} (h : a.tmps[i]? = some tv.val) : EnvOk (env.set i (some tv)) a := by
  refine ⟨he.defers, by simp [he.size], fun j u hj => ?_⟩
  rw [List.getElem?_set] at hj
  by_cases hij : i = j
  · subst hij
    rw [if_pos rfl] at hj
    split at hj
    · injection hj with hj; injection hj with hj; subst hj; exact h
    · cases hj
  · rw [if_neg hij] at hj
    exact he.slot j u hj

theorem put_ok {env' : Env} {a : Act} (he : EnvOk env' a) : ∀ (T : Tl) (s : T.S) (e0 : Env), EnvOk e0 a → T.proj env' = some s → EnvOk (T.put s e0) a
  | [], _, e0, h0, _ => h0
  | [x], s, e0, h0, hp => h0.set (he.slot _ _ (projAt_some hp))
  | x :: y :: xs, s, e0, h0, hp => by
    simp only [Tl.proj] at hp
    split at hp
    · rename_i d b h1 h2
      injection hp with hp
      subst hp
      exact put_ok he (y :: xs) b _ (h0.set (he.slot _ _ (projAt_some h1))) h2
    · cases hp

theorem put_keep {m : Nat} : ∀ (T : Tl) (s : T.S) (e0 : Env), (∀ x ∈ T, m.testBit x.1 = true) → Keep m e0 (T.put s e0)
  | [], _, e0, _ => Keep.refl _ _
  | [x], s, e0, h => ⟨by simp [Tl.put], fun i hi => by
      simp only [Tl.put]
      have hb := h x (by simp)
      rw [List.getElem?_set_ne (by rintro rfl; rw [hb] at hi; cases hi)]⟩
  | x :: y :: xs, s, e0, h => by
    have hb := h x (by simp)
    refine Keep.trans (b := e0.set x.1 (some (x.2.mk s.1))) ⟨by simp, fun i hi => ?_⟩ (put_keep (y :: xs) s.2 _ (fun z hz => h z (by simp [hz])))
    rw [List.getElem?_set_ne (by rintro rfl; rw [hb] at hi; cases hi)]

theorem forget_ok {m : Nat} {env env' : Env} {a : Act} (he : EnvOk env' a) (hk : Keep m env env') : EnvOk (forget m 0 env) a := by
  refine ⟨he.defers, by rw [forget_len, he.size, hk.len], fun i tv hi => ?_⟩
  rw [forget_get, Nat.zero_add] at hi
  cases hb : m.testBit i with
  | true => rw [hb] at hi; cases h0 : env[i]? <;> simp [h0] at hi
  | false =>
    rw [hb] at hi
    rw [if_neg (by simp)] at hi
    exact he.slot i tv (by rw [hk.slot i hb]; exact hi)

theorem upd_ok {m : Nat} {env env' : Env} {a : Act} {T : Tl} {s : T.S} (he : EnvOk env' a) (hk : Keep m env env') (hp : T.proj env' = some s) : EnvOk (upd env m T s) a :=
  put_ok he T s _ (forget_ok he hk) hp

theorem upd_keep {m : Nat} {env : Env} {T : Tl} {s : T.S} (hT : ∀ x ∈ T, m.testBit x.1 = true) : Keep m env (upd env m T s) :=
  Keep.trans ⟨forget_len m env 0, fun i hi => by rw [forget_get, Nat.zero_add, hi]; simp⟩ (put_keep T s _ hT)

/-! ### Code -/

def exitThen (K : Env → Heap → Prop) (Q : Exit → Env → Heap → Prop) : Exit → Env → Heap → Prop
  | .normal => K
  | e => Q e

def inBlk (id : Nat) (Q : Exit → Env → Heap → Prop) : Exit → Env → Heap → Prop
  | .exit id' => match Nat.beq id' id with
    | true => Q .normal
    | false => Q (.exit id')
  | e => Q e

def anyGuard : List Oper → Bool
  | [] => false
  | o :: os => match o.guard with
    | some _ => true
    | none => anyGuard os

def exits (id : Nat) : Code → Nat
  | .exit id' => match Nat.beq id' id with | true => 1 | false => 0
  | .seq a b => Nat.add (exits id a) (exits id b)
  | .cond _ a b => Nat.add (exits id a) (exits id b)
  | .block _ c => exits id c
  | .loop c => exits id c
  | _ => 0

def paths : Code → Nat
  | .region _ ops _ => match anyGuard ops.toList with | true => 2 | false => 1
  | .seq a b => Nat.mul (paths a) (paths b)
  | .cond _ a b => Nat.add (paths a) (paths b)
  | .block id c => Nat.add (paths c) (exits id c)
  | .loop _ => 0
  | .exit _ => 0
  | .ret => 0
  | _ => 1

def codeSize : Code → Nat
  | .region _ ops _ => ops.toList.length
  | .seq a b => Nat.add (codeSize a) (codeSize b)
  | .cond _ a b => Nat.add (codeSize a) (Nat.add (codeSize b) 1)
  | .block _ c => codeSize c
  | .loop c => Nat.add (codeSize c) 10
  | _ => 0

/-- Two operations of a region whose order is drawn make, write or call, and neither waits for the other. -/
def branchyOps (C : Ctx) (all : List Oper) : Bool :=
  (List.range all.length).any fun i => (List.range all.length).any fun j => match Nat.blt i j, all[i]?, all[j]? with
    | true, some oi, some oj => match Nat.ble 2 (kindOf C oi), Nat.ble 2 (kindOf C oj) with
      | true, true => !(waitsT all i j || waitsT all j i)
      | _, _ => false
    | _, _, _ => false

def branchy (C : Ctx) : Code → Bool
  | .region _ ops true => branchyOps C ops.toList
  | _ => false

def joins (C : Ctx) (a b : Code) : Bool := match Nat.ble 2 (paths a), branchy C a with
  | true, _ => Nat.ble 12 (codeSize b)
  | false, true => Nat.ble 3 (codeSize b)
  | false, false => false

def usesL (d : Nat) : List Operand → Bool
  | [] => false
  | .tmp t :: xs => Nat.beq t d || usesL d xs
  | _ :: xs => usesL d xs

def usesOps (d : Nat) : List Oper → Bool
  | [] => false
  | o :: os => usesL d o.op.operands.toList || (match o.guard with | some g => Nat.beq g.1 d | none => false) || usesOps d os

/-- Does code read a slot? -/
def usesCode (d : Nat) : Code → Bool
  | .region _ ops _ => usesOps d ops.toList
  | .seq a b => usesCode d a || usesCode d b
  | .cond (.tmp t) a b => Nat.beq t d || (usesCode d a || usesCode d b)
  | .cond _ a b => usesCode d a || usesCode d b
  | .block _ c => usesCode d c
  | .loop c => usesCode d c
  | .ret => true
  | _ => false

/-- Of what shape an operation's result is. -/
def resZ (C : Ctx) (o : Oper) : TV := match o.op with
  | .alloc _ => .ptr none
  | .box _ _ => .ptr none
  | _ => (C.ti o.type).z

def madeOps (C : Ctx) (m : Nat) (b : Code) (env : Env) : List Oper → Tl
  | [] => []
  | o :: os => match o.dst with
    | some d => match Nat.testBit m d, env.getD d none, usesCode d b, canCarry (resZ C o) with
      | true, none, true, true => (d, resZ C o) :: madeOps C m b env os
      | _, _, _, _ => madeOps C m b env os
    | none => madeOps C m b env os

/-- What a region with several orders makes for the code behind it. -/
def made (C : Ctx) (a b : Code) (env : Env) : Tl := match a with
  | .region id ops true => match branchyOps C ops.toList with
    | true => madeOps C (maskCode (.region id ops true)) b env ops.toList
    | false => []
  | _ => []

theorem madeOps_bit {C : Ctx} {m : Nat} {b : Code} {env : Env} : ∀ (os : List Oper), ∀ x ∈ madeOps C m b env os, m.testBit x.1 = true
  | [], x, hx => by cases hx
  | o :: os, x, hx => by
    unfold madeOps at hx
    split at hx
    · split at hx
      · rename_i hb _ _ _
        rcases List.mem_cons.1 hx with rfl | hx
        · exact hb
        · exact madeOps_bit os x hx
      · exact madeOps_bit os x hx
    · exact madeOps_bit os x hx

theorem made_bit {C : Ctx} {a b : Code} {env : Env} : ∀ x ∈ made C a b env, (maskCode a).testBit x.1 = true := by
  intro x hx
  unfold made at hx
  split at hx
  · split at hx
    · exact madeOps_bit _ x hx
    · cases hx
  · cases hx

/-- The slot that code tests first. -/
def headCond : Code → Option Nat
  | .cond (.tmp t) _ _ => some t
  | .seq a _ => headCond a
  | _ => none

def extra (m : Nat) (env : Env) : Option Nat → Tl
  | some t => match Nat.testBit m t, env.getD t none with
    | true, none => [(t, .bool false)]
    | _, _ => []
  | none => []

theorem extra_bit {m : Nat} {env : Env} {o : Option Nat} : ∀ x ∈ extra m env o, m.testBit x.1 = true := by
  intro x hx
  unfold extra at hx
  split at hx
  · split at hx
    · rename_i hb _
      simp only [List.mem_singleton] at hx
      subst hx
      exact hb
    · cases hx
  · cases hx

/-! ### What every way through code makes -/

def hasDst (d : Nat) : List Oper → Bool
  | [] => false
  | o :: os => (match o.dst, o.guard with | some t, none => Nat.beq t d | _, _ => false) || hasDst d os

def mustSet (d : Nat) : Code → Bool
  | .region _ ops _ => hasDst d ops.toList
  | .seq a b => mustSet d a || mustSet d b
  | .cond _ a b => (Nat.beq (paths a) 0 || mustSet d a) && (Nat.beq (paths b) 0 || mustSet d b)
  | _ => false

def opsOf : Code → List Oper
  | .region _ ops _ => ops.toList
  | .seq a b => opsOf a ++ opsOf b
  | .cond _ a b => opsOf a ++ opsOf b
  | _ => []

/-- Does code read a slot, but for what it hands back? -/
def reads2 (d : Nat) : Code → Bool
  | .region _ ops _ => usesOps d ops.toList
  | .seq a b => reads2 d a || reads2 d b
  | .cond (.tmp t) a b => Nat.beq t d || (reads2 d a || reads2 d b)
  | .cond _ a b => reads2 d a || reads2 d b
  | .block _ c => reads2 d c
  | .loop c => reads2 d c
  | _ => false

def seenIn (d : Nat) : List Nat → Bool
  | [] => false
  | t :: ts => Nat.beq t d || seenIn d ts

def setTl (C : Ctx) (m : Nat) (a b : Code) (env : Env) : List Nat → List Oper → Tl
  | _, [] => []
  | seen, o :: os => match o.dst with
    | some d => match Nat.testBit m d, env.getD d none, seenIn d seen, canCarry (resZ C o) with
      | true, none, false, true => match mustSet d a && reads2 d b with
        | true => (d, resZ C o) :: setTl C m a b env (d :: seen) os
        | false => setTl C m a b env (d :: seen) os
      | _, _, _, _ => setTl C m a b env seen os
    | none => setTl C m a b env seen os

theorem setTl_bit {C : Ctx} {m : Nat} {a b : Code} {env : Env} : ∀ (os : List Oper) (seen : List Nat), ∀ x ∈ setTl C m a b env seen os, m.testBit x.1 = true
  | [], _, x, hx => by cases hx
  | o :: os, seen, x, hx => by
    unfold setTl at hx
    split at hx
    · split at hx
      · rename_i hb _ _ _
        split at hx
        · rcases List.mem_cons.1 hx with rfl | hx
          · exact hb
          · exact setTl_bit os _ x hx
        · exact setTl_bit os _ x hx
      · exact setTl_bit os _ x hx
    · exact setTl_bit os _ x hx

/-- What all ways through code make for the code behind it. -/
def allMadeGo (C : Ctx) (a b : Code) (env : Env) : Tl := match headCond b with
  | some t => setTl C (maskCode a) a b env [t] (opsOf a)
  | none => setTl C (maskCode a) a b env [] (opsOf a)

def allMade (C : Ctx) (a b : Code) (env : Env) : Tl := match a with
  | .region id ops true => match branchyOps C ops.toList with
    | true => []
    | false => allMadeGo C (.region id ops true) b env
  | _ => allMadeGo C a b env

theorem allMadeGo_bit {C : Ctx} {a b : Code} {env : Env} : ∀ x ∈ allMadeGo C a b env, (maskCode a).testBit x.1 = true := by
  intro x hx
  unfold allMadeGo at hx
  split at hx
  · exact setTl_bit _ _ x hx
  · exact setTl_bit _ _ x hx

theorem allMade_bit {C : Ctx} {a b : Code} {env : Env} : ∀ x ∈ allMade C a b env, (maskCode a).testBit x.1 = true := by
  intro x hx
  unfold allMade at hx
  split at hx
  · split at hx
    · cases hx
    · exact allMadeGo_bit x hx
  · exact allMadeGo_bit x hx

def joinTl (C : Ctx) (a b : Code) (env : Env) : Tl := carried (maskCode a) 0 env ++ (extra (maskCode a) env (headCond b) ++ (made C a b env ++ allMade C a b env))

def Join {σ : Type} (rest : σ → Heap → Prop) (body : (σ → Heap → Prop) → Prop) : Prop := ∀ J : σ → Heap → Prop, (∀ s h, rest s h → J s h) → body J

/-- A loop: what holds at each round's head, and what gets less. -/
def Loop {σ : Type} (s0 : σ) (h0 : Heap) (round : σ → Heap → (σ → Heap → Prop) → Prop) : Prop :=
  ∃ (I : σ → Heap → Prop) (μ : σ → Heap → Nat), I s0 h0 ∧ ∀ s h, I s h → round s h fun s' h' => I s' h' ∧ μ s' h' < μ s h

def back (T : Tl) (K : T.S → Heap → Prop) (env : Env) (h : Heap) : Prop :=
  match T.proj env with
  | some s => K s h
  | none => False

def vc (C : Ctx) : Code → (Exit → Env → Heap → Prop) → Env → Heap → Prop
  | .skip, Q, env, h => Q .normal env h
  | .region _ ops draw, Q, env, h => match draw with
    | false => vcOps C ops.toList ops.toList 0 env h (Q .normal)
    | true => match apartB ops.toList, Region.noSelect ops.toList.toArray with
      | true, true => withBase C ops.toList h fun B => drawGo C ops.toList B ops.toList.length false (noneB ops.toList) env h (Q .normal)
      | _, _ => False
  | .seq a b, Q, env, h => match joins C a b with
    | false => vc C a (exitThen (fun env' h' => vc C b Q env' h') Q) env h
    | true => Join (σ := (joinTl C a b env).S) (fun s h' => vc C b Q (upd env (maskCode a) (joinTl C a b env) s) h') fun J => vc C a (exitThen (back (joinTl C a b env) J) Q) env h
  | .cond c a b, Q, env, h => match env.ev c with
    | some (.bool x) => If x (vc C a Q env h) (vc C b Q env h)
    | _ => False
  | .block id c, Q, env, h => vc C c (inBlk id Q) env h
  | .loop c, Q, env, h => Loop (σ := (carried (maskCode c) 0 env).S) (Tl.dat _) h fun s h' K => vc C c (exitThen (back (carried (maskCode c) 0 env) K) Q) (upd env (maskCode c) (carried (maskCode c) 0 env) s) h'
  | .exit id, Q, env, h => Q (.exit id) env h
  | .ret, Q, env, h => Q .ret env h
  | .label _, Q, env, h => Q .normal env h
  | _, _, _, _ => False

end Go.Vc
