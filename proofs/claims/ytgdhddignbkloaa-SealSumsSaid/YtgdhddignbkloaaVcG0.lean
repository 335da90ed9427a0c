/- A region that draws its order: operations that only reckon or read are taken first; those that make, write or call wait for one another. -/
import Derived.Test.YtgdhddignbkloaaVcF
import Derived.OrdersHeld
namespace Go.Vc
open Go

/-- What stood stands. -/
structure Ext (h h' : Heap) : Prop where
  size : h.size ≤ h'.size
  same : ∀ b, b < h.size → h'[b]? = h[b]?

theorem Ext.refl (h : Heap) : Ext h h := ⟨Nat.le_refl _, fun _ _ => rfl⟩
theorem Ext.trans {a b c : Heap} (h : Ext a b) (k : Ext b c) : Ext a c := ⟨Nat.le_trans h.size k.size, fun i hi => (k.same i (Nat.lt_of_lt_of_le hi h.size)).trans (h.same i hi)⟩
theorem Ext.cel {h h' : Heap} (e : Ext h h') {b o : Nat} (hb : b < h.size) : cel h' b o = cel h b o := by unfold Vc.cel; rw [e.same b hb]
theorem Ext.frz {h h' : Heap} (e : Ext h h') {b o : Nat} (hb : b < h.size) : frz h' b o = frz h b o := by unfold Vc.frz; rw [e.same b hb]
theorem Ext.push (h : Heap) (x : Obj) : Ext h (h.push x) := ⟨by simp, fun b hb => by rw [Array.getElem?_push, if_neg (by omega)]⟩

theorem cel_lt {h : Heap} {b o : Nat} {v : Value} (hc : cel h b o = some v) : b < h.size := by
  unfold cel at hc
  split at hc
  · rename_i hb
    exact (Array.getElem?_eq_some_iff.1 hb).1
  · cases hc

theorem TV.at_ext {h h' : Heap} (e : Ext h h') {b o : Nat} {t : TV} (ha : t.at h b o) : t.at h' b o := by
  rw [TV.at_iff] at ha ⊢
  intro j hj
  have h1 := ha j hj
  have hl : j < t.cells.length := by rw [TV.cells_length]; exact hj
  rw [List.getElem?_eq_getElem hl] at h1 ⊢
  rw [e.cel (cel_lt h1), h1]

/-- What must stand: what stood before the step, or at the region's beginning. -/
def baseB (B : Option Heap) (h : Heap) : Heap := match B with
  | none => h
  | some h0 => h0
def extB (B : Option Heap) (h h' : Heap) : Prop := match B with
  | none => Ext h h'
  | some h0 => Ext h0 h'
theorem extB_iff {B : Option Heap} {h h' : Heap} : extB B h h' ↔ Ext (baseB B h) h' := by cases B <;> exact Iff.rfl

section
variable {P : Program} {ops : Array Oper} {Q : Exit → Act → World → Prop} {ex : Nat → Bool} {B : Option Heap}

/-- Whatever order: each operation that is not excused leaves what stood. -/
def anyX (P : Program) (ops : Array Oper) (Q : Exit → Act → World → Prop) (ex : Nat → Bool) (B : Option Heap) : Nat → Array Bool → Act → World → Prop
  | 0, l, a, w => Region.ready .any ops l = [] ∧ Q .normal a w
  | n + 1, l, a, w => (Region.ready .any ops l = [] → Q .normal a w) ∧
    ∀ i ∈ Region.ready .any ops l, wpOp P ops Q i (fun a' w' => (ex i = true ∨ Ext (baseB B w.heap) w'.heap ∨ w'.heap = w.heap) ∧ anyX P ops Q ex B n (l.setIfInBounds i true) a' w') a w

theorem any_of_anyX : ∀ (n : Nat) (l : Array Bool) (a : Act) (w : World), anyX P ops Q ex B n l a w → wpAny P .any ops Q n l a w
  | 0, _, _, _, h => h
  | n + 1, _, _, _, h => ⟨h.1, fun i hi => wpOp_mono (fun _ _ g => any_of_anyX n _ _ _ g.2) (h.2 i hi)⟩

def waits (oj : Oper) (i : Nat) : Bool := oj.after.toList.any fun e => Region.binds .any e && Nat.beq e.on i

theorem waits_ready {oj : Oper} {i j : Nat} {l : Array Bool} (hw : waits oj i = true) (hj : ops[j]? = some oj) (hr : j ∈ Region.ready .any ops l) : l.getD i false = true := by
  obtain ⟨_, o, ho, hall⟩ := mem_ready.1 hr
  rw [hj] at ho
  injection ho with ho
  subst ho
  unfold waits at hw
  obtain ⟨e, he, hb⟩ := List.any_eq_true.1 hw
  simp only [Bool.and_eq_true] at hb
  have := hall e (by simpa using he) hb.1
  rwa [Nat.eq_of_beq_eq_true hb.2] at this

/-- What is done has all that it waits for done. -/
def Closed (ops : Array Oper) (l : Array Bool) : Prop := ∀ (i : Nat) (oi : Oper), ops[i]? = some oi → l.getD i false = true → ∀ k, waits oi k = true → l.getD k false = true

theorem getD_set {l : Array Bool} {i k : Nat} (h : l.getD k false = true) : (l.setIfInBounds i true).getD k false = true := by
  have hk : k < l.size := by
    rcases Nat.lt_or_ge k l.size with h1 | h1
    · exact h1
    · simp [Array.getElem?_eq_none h1] at h
  simp only [Array.getD_eq_getD_getElem?, Array.getElem?_setIfInBounds] at h ⊢
  split
  · split <;> simp_all
  · exact h

theorem Closed.set {l : Array Bool} {j : Nat} (hc : Closed ops l) (hr : j ∈ Region.ready .any ops l) : Closed ops (l.setIfInBounds j true) := by
  intro i oi hi hd k hk
  refine getD_set ?_
  by_cases hij : i = j
  · subst hij
    exact waits_ready hk hi hr
  · refine hc i oi hi ?_ k hk
    simp only [Array.getD_eq_getD_getElem?, Array.getElem?_setIfInBounds, if_neg (Ne.symm hij)] at hd
    simpa [Array.getD_eq_getD_getElem?] using hd

/-- What an operation waits for, itself or through others, as bits. -/
def ancOf (ms : List Nat) : List Edge → Nat
  | [] => 0
  | e :: es => match Region.binds .any e with
    | true => Nat.lor (ancOf ms es) (Nat.lor (Nat.pow 2 e.on) (ms.getD e.on 0))
    | false => ancOf ms es

def ancGo : List Oper → List Nat → List Nat
  | [], ms => ms
  | o :: os, ms => ancGo os (ms ++ [ancOf ms o.after.toList])

/-- Does i wait for k, itself or through others? -/
def waitsT (all : List Oper) (i k : Nat) : Bool := Nat.testBit ((ancGo all []).getD i 0) k

def PM (ops : Array Oper) (m : Nat) (o : Oper) : Prop := ∀ l, Closed ops l → (∀ k, waits o k = true → l.getD k false = true) → ∀ k, Nat.testBit m k = true → l.getD k false = true

theorem ancOf_sound {ops : Array Oper} {ms : List Nat} (hm : ∀ (i m : Nat), ms[i]? = some m → ∃ o, ops[i]? = some o ∧ PM ops m o) {l : Array Bool} (hc : Closed ops l) : ∀ (es : List Edge), (∀ e ∈ es, Region.binds .any e = true → l.getD e.on false = true) →
    ∀ k, Nat.testBit (ancOf ms es) k = true → l.getD k false = true
  | [], _, k, hk => by simp [ancOf] at hk
  | e :: es, h, k, hk => by
    unfold ancOf at hk
    split at hk
    · rename_i hb
      have he := h e (List.mem_cons_self ..) hb
      have hk' : (ancOf ms es ||| (2 ^ e.on ||| ms.getD e.on 0)).testBit k = true := hk
      rw [Nat.testBit_or, Nat.testBit_or, Bool.or_eq_true_iff, Bool.or_eq_true_iff] at hk'
      rcases hk' with h1 | h1 | h1
      · exact ancOf_sound hm hc es (fun e he => h e (List.mem_cons_of_mem _ he)) k h1
      · rw [Nat.testBit_two_pow] at h1
        have : e.on = k := by simpa using h1
        rw [← this]
        exact he
      · cases hx : ms[e.on]? with
        | none => simp [List.getD, hx] at h1
        | some m =>
          obtain ⟨o', ho', pm⟩ := hm _ _ hx
          simp only [List.getD, hx, Option.getD_some] at h1
          exact pm l hc (fun k hk => hc e.on o' ho' he k hk) k h1
    · exact ancOf_sound hm hc es (fun e he => h e (List.mem_cons_of_mem _ he)) k hk

theorem ancGo_sound {all : List Oper} : ∀ (os pre : List Oper) (ms : List Nat), all = pre ++ os → ms.length = pre.length → (∀ (i m : Nat), ms[i]? = some m → ∃ o, all.toArray[i]? = some o ∧ PM all.toArray m o) →
    ∀ (i m : Nat), (ancGo os ms)[i]? = some m → ∃ o, all.toArray[i]? = some o ∧ PM all.toArray m o
  | [], _, _, _, _, hm => hm
  | o :: os, pre, ms, ha, hl, hm => by
    refine ancGo_sound os (pre ++ [o]) (ms ++ [ancOf ms o.after.toList]) (by rw [ha]; simp) (by simp [hl]) fun i m hi => ?_
    rw [List.getElem?_append] at hi
    split at hi
    · exact hm i m hi
    · rename_i hlt
      have h0 : i - ms.length = 0 := by
        rcases Nat.eq_zero_or_pos (i - ms.length) with h | h
        · exact h
        · rw [List.getElem?_eq_none (by simp; omega)] at hi; cases hi
      rw [h0] at hi
      simp only [List.getElem?_cons_zero, Option.some.injEq] at hi
      subst hi
      have hi2 : i = pre.length := by omega
      refine ⟨o, by rw [ha, hi2]; simp, fun l hc hw k hk => ancOf_sound hm hc o.after.toList (fun e he hb => hw e.on ?_) k hk⟩
      unfold waits
      exact List.any_eq_true.2 ⟨e, he, by simp [hb]⟩

theorem waitsT_ready {all : List Oper} {l : Array Bool} (hc : Closed all.toArray l) {i k : Nat} (h : waitsT all i k = true) (hr : i ∈ Region.ready .any all.toArray l) : l.getD k false = true := by
  unfold waitsT at h
  cases hx : (ancGo all [])[i]? with
  | none => simp [List.getD, hx] at h
  | some m =>
    obtain ⟨o, ho, pm⟩ := ancGo_sound all [] [] rfl rfl (by simp) i m hx
    simp only [List.getD, hx, Option.getD_some] at h
    exact pm l hc (fun k hk => waits_ready hk ho hr) k h

theorem ready_getD {l : Array Bool} {i : Nat} (h : i ∈ Region.ready .any ops l) : l.getD i false = false := by
  have hiu := (mem_ready.1 h).1
  rcases Nat.lt_or_ge i l.size with h1 | h1
  · simp [h1] at hiu ⊢; exact hiu
  · simp [Array.getElem?_eq_none h1]

theorem YieldsIf.ext {oi : Oper} {v : Value} {a : Act} {h h' : Heap} (hy : YieldsIf P ops (fun w => Ext h w.heap) oi v a) (e : Ext h h') : YieldsIf P ops (fun w => Ext h' w.heap) oi v a :=
  hy.imp (fun ⟨h1, h2⟩ => ⟨h1, fun w hw => h2 w (e.trans hw)⟩) id

theorem base_step {oi : Oper} {v : Value} {a : Act} {h h' : Heap} (hy : YieldsIf P ops (fun w => Ext (baseB B h) w.heap) oi v a) (e : Ext (baseB B h) h') : YieldsIf P ops (fun w => Ext (baseB B h') w.heap) oi v a ∧ Ext (baseB B h') h' := by
  cases B with
  | none => exact ⟨YieldsIf.ext hy e, Ext.refl _⟩
  | some h0 => exact ⟨hy, e⟩

/-- An operation that may come up, and yields the same as long as what stood stands, may be taken first. -/
theorem anyX_first {i : Nat} {oi : Oper} {v : Value} (hi : ops[i]? = some oi) (hsel : Region.noSelect ops = true)
    (hQ : ∀ c a w, Q (.panic c) (a.put oi.dst v) w → Q (.panic c) a w)
    (hap : ∀ l j oj, Closed ops l → ops[j]? = some oj → j ≠ i → i ∈ Region.ready .any ops l → j ∈ Region.ready .any ops l → oi.apart ops oj = true ∧ ex j = false) :
    ∀ (n : Nat) (l : Array Bool) (a : Act) (w : World), Closed ops l → i ∈ Region.ready .any ops l → YieldsIf P ops (fun w' => Ext (baseB B w.heap) w'.heap) oi v a → Ext (baseB B w.heap) w.heap →
      anyX P ops Q ex B n (l.setIfInBounds i true) (a.put oi.dst v) w → anyX P ops Q ex B (n + 1) l a w := by
  intro n
  induction n with
  | zero =>
    intro l a w hcl hr hy hbs H
    refine ⟨fun h0 => (by rw [h0] at hr; cases hr), fun j hj => ?_⟩
    by_cases hji : j = i
    · subst hji
      exact hy.wpOp hi hbs ⟨.inr (.inr rfl), H⟩
    · have hr' := ready_mono hj hji
      rw [H.1] at hr'
      cases hr'
  | succ n ih =>
    intro l a w hcl hr hy hbs H
    refine ⟨fun h0 => (by rw [h0] at hr; cases hr), fun j hj => ?_⟩
    by_cases hji : j = i
    · subst hji
      exact hy.wpOp hi hbs ⟨.inr (.inr rfl), H⟩
    · obtain ⟨hju, oj, hoj, hall⟩ := mem_ready.1 hj
      obtain ⟨hap', hexj⟩ := hap l j oj hcl hoj hji hr hj
      have h1 := H.2 j (ready_mono hj hji)
      have h2 := wpOp_putIf hoj hap' (fun cs b => Region.noSelect_spec hsel i oi cs b hi) (fun cs b => Region.noSelect_spec hsel j oj cs b hoj) hQ hy h1
      refine wpOp_mono (fun a' w' h3 => ?_) h2
      have hS' : Ext (baseB B w.heap) w'.heap := by
        rcases h3.2.1 with h4 | h4 | h4
        · rw [hexj] at h4; cases h4
        · exact h4
        · rw [h4]; exact hbs
      refine ⟨.inr (.inl hS'), ih (l.setIfInBounds j true) a' w' (hcl.set hj) (ready_mono hr (Ne.symm hji)) (base_step h3.1 hS').1 (base_step h3.1 hS').2 ?_⟩
      rw [Array.setIfInBounds_comm _ _ hji]
      exact h3.2.2

/-- An operation that may come up, and yields the same whatever stands, may be taken first. -/
theorem anyX_first0 {i : Nat} {oi : Oper} {v : Value} (hi : ops[i]? = some oi) (hsel : Region.noSelect ops = true)
    (hQ : ∀ c a w, Q (.panic c) (a.put oi.dst v) w → Q (.panic c) a w)
    (hap : ∀ l j oj, Closed ops l → ops[j]? = some oj → j ≠ i → i ∈ Region.ready .any ops l → j ∈ Region.ready .any ops l → oi.apart ops oj = true) :
    ∀ (n : Nat) (l : Array Bool) (a : Act) (w : World), Closed ops l → i ∈ Region.ready .any ops l → YieldsIf P ops (fun _ => True) oi v a →
      anyX P ops Q ex B n (l.setIfInBounds i true) (a.put oi.dst v) w → anyX P ops Q ex B (n + 1) l a w := by
  intro n
  induction n with
  | zero =>
    intro l a w hcl hr hy H
    refine ⟨fun h0 => (by rw [h0] at hr; cases hr), fun j hj => ?_⟩
    by_cases hji : j = i
    · subst hji
      exact hy.wpOp hi trivial ⟨.inr (.inr rfl), H⟩
    · have hr' := ready_mono hj hji
      rw [H.1] at hr'
      cases hr'
  | succ n ih =>
    intro l a w hcl hr hy H
    refine ⟨fun h0 => (by rw [h0] at hr; cases hr), fun j hj => ?_⟩
    by_cases hji : j = i
    · subst hji
      exact hy.wpOp hi trivial ⟨.inr (.inr rfl), H⟩
    · obtain ⟨hju, oj, hoj, hall⟩ := mem_ready.1 hj
      have hap' := hap l j oj hcl hoj hji hr hj
      have h1 := H.2 j (ready_mono hj hji)
      have h2 := wpOp_putIf hoj hap' (fun cs b => Region.noSelect_spec hsel i oi cs b hi) (fun cs b => Region.noSelect_spec hsel j oj cs b hoj) hQ hy h1
      refine wpOp_mono (fun a' w' h3 => ?_) h2
      refine ⟨h3.2.1, ih (l.setIfInBounds j true) a' w' (hcl.set hj) (ready_mono hr (Ne.symm hji)) h3.1 ?_⟩
      rw [Array.setIfInBounds_comm _ _ hji]
      exact h3.2.2

/-! ### The order that is walked -/

/-- 0: reckons; 1: a load; 2: makes, writes, calls, or is not known here. -/
def kindOf (C : Ctx) (o : Oper) : Nat :=
  match o.op with
  | .move _ | .assign _ | .pick _ _ _ | .build _ _ | .nilCheck _ | .binOp _ _ _ _ _ | .unOp _ _ _ | .fieldAddr _ _ _ | .field _ _ _ | .indexAddr _ _ _ | .index _ _ _ | .extract _ _ | .slice _ _ _ _ _ | .makeFunc _ _ _ | .makeInterface _ _ | .typeAssert _ _ _ _ => 0
  | .load _ _ => 1
  | .lookup _ _ _ _ => 1
  | .convert s d _ => match (C.ti s).d, (C.ti d).d with
    | some .string, some (.slice _) => 2
    | _, _ => 0
  | .call c => match c.callee with
    | .builtin .len => match c.argTypes.toList with
      | [t] => match (C.ti t).d with
        | some (.map _ _) => 1
        | _ => 0
      | _ => 0
    | .builtin .min | .builtin .max | .builtin .cap => 0
    | _ => 2
  | _ => 2

/-- Whether an operation hangs on what the region itself has made. -/
def lateAt (C : Ctx) (all : List Oper) : Nat → Nat → Bool
  | 0, _ => true
  | n + 1, i => match all[i]? with
    | some o => o.after.toList.any fun e => match e.ground, all[e.on]? with
      | .data, some oe => match kindOf C oe with
        | 2 => true
        | _ => lateAt C all n e.on
      | _, _ => false
    | none => true

/-- Taken first as soon as it may come up. -/
def early (C : Ctx) (all : List Oper) (i : Nat) : Bool :=
  match all[i]? with
  | some o => match kindOf C o with
    | 0 => true
    | 1 => !lateAt C all 40 i
    | _ => false
  | none => false

/-- Taken first, and it looks at memory. -/
def reads (C : Ctx) (all : List Oper) (i : Nat) : Bool :=
  match all[i]? with
  | some o => match isLoad o.op with
    | true => early C all i
    | false => false
  | none => false

/-- Excused: whatever looks at memory and is taken early waits for this, or this for it. -/
def exB (C : Ctx) (all : List Oper) (j : Nat) : Bool :=
  (List.range all.length).all fun i => match Nat.beq i j with
    | true => true
    | false => match reads C all i with
      | true => waitsT all j i || waitsT all i j
      | false => true

def apartB (all : List Oper) : Bool :=
  (List.range all.length).all fun i => (List.range all.length).all fun j => match Nat.beq i j with
    | true => true
    | false => match all[i]?, all[j]? with
      | some oi, some oj => waits oj i || (waits oi j || (oi.apart all.toArray oj || (waitsT all j i || waitsT all i j)))
      | _, _ => false

def readyL (all : List Oper) (l : List Bool) : List Nat := Region.ready .any all.toArray l.toArray

def firstEarly (C : Ctx) (all : List Oper) : List Nat → Option Nat
  | [] => none
  | i :: is => match early C all i with
    | true => some i
    | false => firstEarly C all is

end

section
variable {C : Ctx}

theorem early_stable (hC : C.Ok) {o : Oper} {env : Env} {a : Act} {h0 : Heap} {K : Option TV → Prop} (hv : vcR C o env.ev h0 K) (he : EnvOk env a) :
    ∃ r v, K r ∧ Rel r v ∧ ∀ w : World, Ext h0 w.heap → (execOp a.eval o).run C.P w = .ok (.value v) w := by
  cases hl : isLoad o.op with
  | false =>
    obtain ⟨r, v, h1, h2, h3⟩ := vcR_sound hC hv he
    exact ⟨r, v, h1, h2, fun w _ => h3.2 hl w⟩
  | true =>
    cases ho : o.op with
    | load t x =>
      unfold vcR at hv
      rw [ho] at hv
      dsimp only at hv
      split at hv
      · rename_i p hx
        obtain ⟨l, rfl, hv⟩ := elim_some hv
        unfold vcLoad at hv
        split at hv
        · rename_i hn
          obtain ⟨tv, hs, ha, hk⟩ := ex_iff _ _ hv
          refine ⟨some tv, tv.val, hk, .some rfl, fun w hw => ?_⟩
          have h1 := load_run hC hn hs (TV.at_ext hw ha)
          have h2 := he.known hx
          simp [execOp, ho, h2, TV.val, h1]
        · exact hv.elim
      · exact hv.elim
    | convert s d x =>
      unfold vcR at hv
      rw [ho] at hv
      dsimp only at hv
      obtain ⟨r, v, h1, h2, h3⟩ := vcConv_sound hC hv (he.rel x)
      exact ⟨r, v, h1, h2, fun w hw => by simp [execOp, ho, h3 w (fun b o v hb => by rw [hw.cel (cel_lt hb), hb])]⟩
    | lookup t m k ok =>
      unfold vcR at hv
      rw [ho] at hv
      dsimp only at hv
      obtain ⟨r, v, h1, h2, h3⟩ := vcLookup_sound hC hv (he.rel m) (he.rel k)
      exact ⟨r, v, h1, h2, fun w hw => by simp [execOp, ho, h3 w (fun b o hb => by rw [hw.same b (Array.getElem?_eq_some_iff.1 hb).1, hb])]⟩
    | call c =>
      unfold vcR at hv
      rw [ho] at hv
      dsimp only at hv
      split at hv
      · rename_i b hb
        obtain ⟨r, v, h1, h2, h3⟩ := vcCallR_sound hC (ty := o.type) (vs := c.args.map a.eval) hv (by simpa using he.relL c.args.toList)
        refine ⟨r, v, h1, h2, fun w hw => ?_⟩
        have := fun cs => h3 cs w (fun b o hb => by rw [hw.same b (Array.getElem?_eq_some_iff.1 hb).1, hb])
        simp [execOp, ho, resolve, hb, invoke, this]
      · exact hv.elim
    | _ => rw [ho] at hl; cases hl

end
end Go.Vc
