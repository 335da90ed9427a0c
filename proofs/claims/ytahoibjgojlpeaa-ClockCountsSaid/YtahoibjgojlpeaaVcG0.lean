/- A region that draws its order: operations that only reckon or read are taken first; those that make, write or call wait for one another. -/
import Derived.Test.YtahoibjgojlpeaaVcF
import Derived.OrdersHeld
namespace Go.Vc
open Go

/-- What stood stands. -/
structure Ext (h h' : Heap) : Prop where
  size : h.size ≤ h'.size
  same : ∀ b, b < h.size → h'[b]? = h[b]?

theorem Ext.refl (h : Heap) : Ext h h := ⟨Nat.le_refl _, fun _ _ => rfl⟩
theorem Ext.trans {a b c : Heap} (h : Ext a b) (k : Ext b c) : Ext a c := ⟨Nat.le_trans h.size k.size, fun i hi => (k.same i (Nat.lt_of_lt_of_le hi h.size)).trans (h.same i hi)⟩
theorem Ext.cel {h h' : Heap} (e : Ext h h') {b o : Nat} (hb : b < h.size) : cel h' b o = cel h b o := by unfold Vc.cel; rw [e.same b hb]
theorem Ext.frz {h h' : Heap} (e : Ext h h') {b o : Nat} (hb : b < h.size) : frz h' b o = frz h b o := by unfold Vc.frz; rw [e.same b hb]
theorem Ext.push (h : Heap) (x : Obj) : Ext h (h.push x) := ⟨by simp, fun b hb => by rw [Array.getElem?_push, if_neg (by omega)]⟩

theorem cel_lt {h : Heap} {b o : Nat} {v : Value} (hc : cel h b o = some v) : b < h.size := by
  unfold cel at hc
  split at hc
  · rename_i hb
    exact (Array.getElem?_eq_some_iff.1 hb).1
  · cases hc

theorem TV.at_ext {h h' : Heap} (e : Ext h h') {b o : Nat} {t : TV} (ha : t.at h b o) : t.at h' b o := by
  rw [TV.at_iff] at ha ⊢
  intro j hj
  have h1 := ha j hj
  have hl : j < t.cells.length := by rw [TV.cells_length]; exact hj
  rw [List.getElem?_eq_getElem hl] at h1 ⊢
  rw [e.cel (cel_lt h1), h1]

section
variable {P : Program} {ops : Array Oper} {Q : Exit → Act → World → Prop} {S : World → Prop} {ex : Nat → Bool}

/-- Whatever order: behind each operation that is not excused, S holds. -/
def anyX (P : Program) (ops : Array Oper) (Q : Exit → Act → World → Prop) (S : World → Prop) (ex : Nat → Bool) : Nat → Array Bool → Act → World → Prop
  | 0, l, a, w => Region.ready .any ops l = [] ∧ Q .normal a w
  | n + 1, l, a, w => (Region.ready .any ops l = [] → Q .normal a w) ∧
    ∀ i ∈ Region.ready .any ops l, wpOp P ops Q i (fun a' w' => (ex i = true ∨ S w') ∧ anyX P ops Q S ex n (l.setIfInBounds i true) a' w') a w

theorem any_of_anyX : ∀ (n : Nat) (l : Array Bool) (a : Act) (w : World), anyX P ops Q S ex n l a w → wpAny P .any ops Q n l a w
  | 0, _, _, _, h => h
  | n + 1, _, _, _, h => ⟨h.1, fun i hi => wpOp_mono (fun _ _ g => any_of_anyX n _ _ _ g.2) (h.2 i hi)⟩

def waits (oj : Oper) (i : Nat) : Bool := oj.after.toList.any fun e => Region.binds .any e && Nat.beq e.on i

theorem waits_ready {oj : Oper} {i j : Nat} {l : Array Bool} (hw : waits oj i = true) (hj : ops[j]? = some oj) (hr : j ∈ Region.ready .any ops l) : l.getD i false = true := by
  obtain ⟨_, o, ho, hall⟩ := mem_ready.1 hr
  rw [hj] at ho
  injection ho with ho
  subst ho
  unfold waits at hw
  obtain ⟨e, he, hb⟩ := List.any_eq_true.1 hw
  simp only [Bool.and_eq_true] at hb
  have := hall e (by simpa using he) hb.1
  rwa [Nat.eq_of_beq_eq_true hb.2] at this

/-- An operation that may come up, and yields the same wherever S holds, may be taken first. -/
theorem anyX_first {i : Nat} {oi : Oper} {v : Value} (hi : ops[i]? = some oi) (hsel : Region.noSelect ops = true)
    (hQ : ∀ c a w, Q (.panic c) (a.put oi.dst v) w → Q (.panic c) a w)
    (hex : ∀ j oj, ops[j]? = some oj → j ≠ i → ex j = true → waits oj i = true)
    (hap : ∀ j oj, ops[j]? = some oj → j ≠ i → waits oj i = true ∨ waits oi j = true ∨ oi.apart ops oj = true) :
    ∀ (n : Nat) (l : Array Bool) (a : Act) (w : World), i ∈ Region.ready .any ops l → YieldsIf P ops S oi v a → S w →
      anyX P ops Q S ex n (l.setIfInBounds i true) (a.put oi.dst v) w → anyX P ops Q S ex (n + 1) l a w := by
  intro n
  induction n with
  | zero =>
    intro l a w hr hy hS H
    refine ⟨fun h0 => (by rw [h0] at hr; cases hr), fun j hj => ?_⟩
    by_cases hji : j = i
    · subst hji
      exact hy.wpOp hi hS ⟨.inr hS, H⟩
    · have hr' := ready_mono hj hji
      rw [H.1] at hr'
      cases hr'
  | succ n ih =>
    intro l a w hr hy hS H
    refine ⟨fun h0 => (by rw [h0] at hr; cases hr), fun j hj => ?_⟩
    by_cases hji : j = i
    · subst hji
      exact hy.wpOp hi hS ⟨.inr hS, H⟩
    · obtain ⟨hju, oj, hoj, hall⟩ := mem_ready.1 hj
      have hiu := (mem_ready.1 hr).1
      have hiu' : l.getD i false = false := by
        rcases Nat.lt_or_ge i l.size with h1 | h1
        · simp [h1] at hiu ⊢; exact hiu
        · simp [Array.getElem?_eq_none h1]
      have hju' : l.getD j false = false := by
        rcases Nat.lt_or_ge j l.size with h1 | h1
        · simp [h1] at hju ⊢; exact hju
        · simp [Array.getElem?_eq_none h1]
      have hnw : waits oj i = false := by
        cases hw : waits oj i with
        | false => rfl
        | true => rw [waits_ready hw hoj hj] at hiu'; cases hiu'
      have hnw' : waits oi j = false := by
        cases hw : waits oi j with
        | false => rfl
        | true => rw [waits_ready hw hi hr] at hju'; cases hju'
      have hap' : oi.apart ops oj = true := by
        rcases hap j oj hoj hji with h1 | h1 | h1
        · rw [hnw] at h1; cases h1
        · rw [hnw'] at h1; cases h1
        · exact h1
      have hexj : ex j = false := by
        cases he : ex j with
        | false => rfl
        | true => rw [hex j oj hoj hji he] at hnw; cases hnw
      have h1 := H.2 j (ready_mono hj hji)
      have h2 := wpOp_putIf hoj hap' (fun cs b => Region.noSelect_spec hsel i oi cs b hi) (fun cs b => Region.noSelect_spec hsel j oj cs b hoj) hQ hy h1
      refine wpOp_mono (fun a' w' h3 => ?_) h2
      have hS' : S w' := by
        rcases h3.2.1 with h4 | h4
        · rw [hexj] at h4; cases h4
        · exact h4
      refine ⟨.inr hS', ih (l.setIfInBounds j true) a' w' (ready_mono hr (Ne.symm hji)) h3.1 hS' ?_⟩
      rw [Array.setIfInBounds_comm _ _ hji]
      exact h3.2.2

/-! ### The order that is walked -/

/-- 0: reckons; 1: a load; 2: makes, writes, calls, or is not known here. -/
def kindOf (o : Oper) : Nat :=
  match o.op with
  | .move _ | .assign _ | .pick _ _ _ | .build _ _ | .nilCheck _ | .binOp _ _ _ _ _ | .unOp _ _ _ | .convert _ _ _ | .fieldAddr _ _ _ | .field _ _ _ | .indexAddr _ _ _ | .index _ _ _ | .extract _ _ | .slice _ _ _ _ _ | .makeFunc _ _ _ => 0
  | .load _ _ => 1
  | .call c => match c.callee with
    | .builtin .len | .builtin .min | .builtin .max => 0
    | _ => 2
  | _ => 2

/-- Whether an operation hangs on what the region itself has made. -/
def lateAt (all : List Oper) : Nat → Nat → Bool
  | 0, _ => true
  | n + 1, i => match all[i]? with
    | some o => o.after.toList.any fun e => match e.ground, all[e.on]? with
      | .data, some oe => match kindOf oe with
        | 2 => true
        | _ => lateAt all n e.on
      | _, _ => false
    | none => true

/-- Taken first as soon as it may come up. -/
def early (all : List Oper) (i : Nat) : Bool :=
  match all[i]? with
  | some o => match kindOf o with
    | 0 => true
    | 1 => !lateAt all 40 i
    | _ => false
  | none => false

def exB (all : List Oper) (j : Nat) : Bool :=
  match all[j]? with
  | some oj => (List.range all.length).all fun i => match Nat.beq i j with
    | true => true
    | false => match early all i with
      | true => waits oj i
      | false => true
  | none => false

def apartB (all : List Oper) : Bool :=
  (List.range all.length).all fun i => (List.range all.length).all fun j => match Nat.beq i j with
    | true => true
    | false => match all[i]?, all[j]? with
      | some oi, some oj => waits oj i || (waits oi j || oi.apart all.toArray oj)
      | _, _ => false

def readyL (all : List Oper) (l : List Bool) : List Nat := Region.ready .any all.toArray l.toArray

def firstEarly (all : List Oper) : List Nat → Option Nat
  | [] => none
  | i :: is => match early all i with
    | true => some i
    | false => firstEarly all is

end

section
variable {C : Ctx}

theorem early_stable (hC : C.Ok) {o : Oper} {env : Env} {a : Act} {h0 : Heap} {K : Option TV → Prop} (hv : vcR C o env.ev h0 K) (he : EnvOk env a) :
    ∃ r v, K r ∧ Rel r v ∧ ∀ w : World, Ext h0 w.heap → (execOp a.eval o).run C.P w = .ok (.value v) w := by
  cases hl : isLoad o.op with
  | false =>
    obtain ⟨r, v, h1, h2, h3⟩ := vcR_sound hC hv he
    exact ⟨r, v, h1, h2, fun w _ => h3.2 hl w⟩
  | true =>
    cases ho : o.op with
    | load t x =>
      unfold vcR at hv
      rw [ho] at hv
      dsimp only at hv
      split at hv
      · rename_i p hx
        obtain ⟨l, rfl, hv⟩ := elim_some hv
        unfold vcLoad at hv
        split at hv
        · rename_i hn
          obtain ⟨tv, hs, ha, hk⟩ := ex_iff _ _ hv
          refine ⟨some tv, tv.val, hk, .some rfl, fun w hw => ?_⟩
          have h1 := load_run hC hn hs (TV.at_ext hw ha)
          have h2 := he.known hx
          simp [execOp, ho, h2, TV.val, h1]
        · exact hv.elim
      · exact hv.elim
    | _ => rw [ho] at hl; cases hl

end
end Go.Vc
