/- The operations that leave the world alone: one statement for all. -/
import Derived.Test.YtahoibjgojlpeaaVcC
namespace Go.Vc
open Go

section
variable {P : Program} {C : Ctx} {h : Heap} {K : Option TV → Prop}

def RelL : List (Option TV) → List Value → Prop
  | [], [] => True
  | r :: rs, v :: vs => Rel r v ∧ RelL rs vs
  | _, _ => False

theorem bsize (s : List UInt8) : (⟨s.toArray⟩ : ByteArray).size = s.length := List.size_toArray

theorem vals_get : ∀ (xs : List TV) (i : Nat) (v : TV), xs[i]? = some v → (TVs.vals xs)[i]? = some v.val
  | [], i, v, h => by simp at h
  | y :: ys, 0, v, h => by simp only [List.getElem?_cons_zero, Option.some.injEq] at h; subst h; rfl
  | y :: ys, i + 1, v, h => by simp only [List.getElem?_cons_succ] at h; simpa [TVs.vals] using vals_get ys i v h

theorem EnvOk.relL {env : Env} {a : Act} (h : EnvOk env a) : ∀ l : List Operand, RelL (l.map env.ev) (l.map a.eval)
  | [] => trivial
  | x :: l => ⟨h.rel x, h.relL l⟩

theorem allKnown_vals : ∀ (rs : List (Option TV)) (vs : List Value) (ts : List TV), allKnown rs = some ts → RelL rs vs → vs = TVs.vals ts
  | [], [], ts, h, _ => by simp only [allKnown, Option.some.injEq] at h; subst h; rfl
  | some x :: rs, v :: vs, ts, h, hr => by
    simp only [allKnown] at h
    split at h
    · rename_i ys hy
      simp only [Option.some.injEq] at h
      subst h
      obtain rfl := hr.1 _ rfl
      rw [allKnown_vals rs vs ys hy hr.2]
      rfl
    · cases h
  | none :: rs, v :: vs, ts, h, hr => by simp [allKnown] at h

theorem vcBuiltinR_sound (hC : C.Ok) {b : Builtin} {ts : Array TypeId} {ty : TypeId} {xs : List (Option TV)} {vs : Array Value} (hv : vcBuiltinR C b ts.toList xs K) (hr : RelL xs vs.toList) :
    ∃ r v, K r ∧ Rel r v ∧ ∀ (cs : Array Bool) (w : World), (builtin b ts ty cs vs).run C.P w = .ok (.value v) w := by
  obtain ⟨ts⟩ := ts
  obtain ⟨vs⟩ := vs
  change vcBuiltinR C b ts xs K at hv
  change RelL xs vs at hr
  unfold vcBuiltinR at hv
  split at hv
  · obtain ⟨v, rfl⟩ : ∃ v, vs = [v] := by
      cases vs with
      | nil => exact hr.elim
      | cons v vs => cases vs with
        | nil => exact ⟨v, rfl⟩
        | cons _ _ => exact hr.2.elim
    obtain rfl := hr.1 _ rfl
    split at hv
    · rename_i hd
      refine ⟨_, _, hv, .some rfl, fun _ w => ?_⟩
      unfold builtin Builtin.len_
      simp [run_underlying (hC.d hd), TV.val, slVal, goInt]
    · exact hv.elim
  · obtain ⟨v, rfl⟩ : ∃ v, vs = [v] := by
      cases vs with
      | nil => exact hr.elim
      | cons v vs => cases vs with
        | nil => exact ⟨v, rfl⟩
        | cons _ _ => exact hr.2.elim
    obtain rfl := hr.1 _ rfl
    split at hv
    · rename_i hd
      refine ⟨_, _, hv, .some rfl, fun _ w => ?_⟩
      unfold builtin Builtin.len_
      simp [run_underlying (hC.d hd), TV.val, goInt, bsize]
    · exact hv.elim
  · obtain ⟨v, rfl⟩ : ∃ v, vs = [v] := by
      cases vs with
      | nil => exact hr.elim
      | cons v vs => cases vs with
        | nil => exact ⟨v, rfl⟩
        | cons _ _ => exact hr.2.elim
    split at hv
    · rename_i hd
      refine ⟨_, _, hv, .some rfl, fun _ w => ?_⟩
      unfold builtin Builtin.len_
      simp [run_underlying (hC.d hd), TV.val, goInt]
    · exact hv.elim
  · obtain ⟨v, u, rfl⟩ : ∃ v u, vs = [v, u] := by
      cases vs with
      | nil => exact hr.elim
      | cons v vs => cases vs with
        | nil => exact hr.2.elim
        | cons u vs => cases vs with
          | nil => exact ⟨v, u, rfl⟩
          | cons _ _ => exact hr.2.2.elim
    obtain rfl := hr.1 _ rfl
    obtain rfl := hr.2.1 _ rfl
    split at hv
    · refine ⟨_, _, hv, .some rfl, fun _ w => ?_⟩
      simp [builtin, Builtin.min_, Builtin.min2, TV.val, mn]
    · exact hv.elim
  · obtain ⟨v, u, rfl⟩ : ∃ v u, vs = [v, u] := by
      cases vs with
      | nil => exact hr.elim
      | cons v vs => cases vs with
        | nil => exact hr.2.elim
        | cons u vs => cases vs with
          | nil => exact ⟨v, u, rfl⟩
          | cons _ _ => exact hr.2.2.elim
    obtain rfl := hr.1 _ rfl
    obtain rfl := hr.2.1 _ rfl
    split at hv
    · refine ⟨_, _, hv, .some rfl, fun _ w => ?_⟩
      simp [builtin, Builtin.max_, Builtin.max2, TV.val, mx]
    · exact hv.elim
  · exact hv.elim

theorem relParts_map {env : Env} {a : Act} (he : EnvOk env a) : ∀ l : List (Nat × Operand), RelParts (l.map fun p => (p.1, env.ev p.2)) (l.map fun p => (p.1, a.eval p.2))
  | [] => trivial
  | p :: l => ⟨rfl, he.rel p.2, relParts_map he l⟩

theorem relO_map {env : Env} {a : Act} (he : EnvOk env a) : ∀ l : Option Operand, RelO (l.map env.ev) (l.map a.eval)
  | none => trivial
  | some x => he.rel x

/-- What comes of an operation that leaves the world alone. -/
def GivesOp (P : Program) (o : Oper) (a : Act) (h : Heap) (v : Value) : Prop := ∀ w : World, w.heap = h → (execOp a.eval o).run P w = .ok (.value v) w

def isLoad : Op → Bool
  | .load _ _ => true
  | .convert _ _ _ => true
  | _ => false

/-- The same, in whatever world where the operation is no load. -/
def GivesOpA (P : Program) (o : Oper) (a : Act) (h : Heap) (v : Value) : Prop := GivesOp P o a h v ∧ (isLoad o.op = false → ∀ w : World, (execOp a.eval o).run P w = .ok (.value v) w)

theorem givesOp_load {o : Oper} {a : Act} {s : Sem Value} {v : Value} (hl : isLoad o.op = true) (hg : Gives P s h v) (he : execOp a.eval o = (do pure (.value (← s)))) : GivesOpA P o a h v := by
  refine ⟨fun w hw => ?_, fun h0 => by rw [hl] at h0; cases h0⟩
  rw [he]
  simp [hg w hw]

theorem givesOp_of {o : Oper} {a : Act} {s : Sem Value} {v : Value} (hg : GivesA P s v) (he : execOp a.eval o = (do pure (.value (← s)))) : GivesOpA P o a h v := by
  have : ∀ w : World, (execOp a.eval o).run P w = .ok (.value v) w := fun w => by
    rw [he]
    simp [hg w]
  exact ⟨fun w _ => this w, fun _ => this⟩

theorem givesOp_all {o : Oper} {a : Act} {v : Value} (hg : ∀ w : World, (execOp a.eval o).run P w = .ok (.value v) w) : GivesOpA P o a h v := ⟨fun w _ => hg w, fun _ => hg⟩

theorem vcR_sound (hC : C.Ok) {o : Oper} {env : Env} {a : Act} (hv : vcR C o env.ev h K) (he : EnvOk env a) : ∃ r v, K r ∧ Rel r v ∧ GivesOpA C.P o a h v := by
  unfold vcR at hv
  split at hv
  · rename_i x ho
    exact ⟨_, _, hv, he.rel x, givesOp_all fun w => by simp [execOp, ho]⟩
  · rename_i x ho
    exact ⟨_, _, hv, he.rel x, givesOp_all fun w => by simp [execOp, ho]⟩
  · rename_i c x y ho
    split at hv
    · rename_i hc
      refine ⟨_, _, hv, he.rel x, givesOp_all fun w => ?_⟩
      have := he.known hc
      simp [execOp, ho, this, TV.val, asBool]
    · rename_i hc
      refine ⟨_, _, hv, he.rel y, givesOp_all fun w => ?_⟩
      have := he.known hc
      simp [execOp, ho, this, TV.val, asBool]
    · exact hv.elim
  · rename_i t parts ho
    obtain ⟨r, v, h1, h2, h3⟩ := vcBuild_sound hC (parts := parts.map fun p => (p.1, a.eval p.2)) hv (by simpa using relParts_map he parts.toList)
    exact ⟨r, v, h1, h2, givesOp_of h3 (by simp [execOp, ho])⟩
  · rename_i t x ho
    split at hv
    · rename_i p hx
      obtain ⟨l, rfl, hv⟩ := elim_some hv
      obtain ⟨r, v, h1, h2, h3⟩ := vcLoad_sound hC hv
      refine ⟨r, v, h1, h2, givesOp_load (by rw [ho]; rfl) h3 ?_⟩
      have := he.known hx
      simp [execOp, ho, this, TV.val]
    · exact hv.elim
  · rename_i x ho
    split at hv
    · rename_i p hx
      obtain ⟨l, rfl, hv⟩ := elim_some hv
      refine ⟨_, _, hv, .some rfl, givesOp_all fun w => ?_⟩
      have := he.known hx
      simp [execOp, ho, this, TV.val]
    · rename_i g x1 x2 hx
      refine ⟨_, _, hv, .some rfl, givesOp_all fun w => ?_⟩
      have := he.known hx
      simp [execOp, ho, this, TV.val]
    · exact hv.elim
  · rename_i op t x y ty ho
    obtain ⟨r, v, h1, h2, h3⟩ := vcBin_sound hC hv (he.rel x) (he.rel y) x y
    exact ⟨r, v, h1, h2, givesOp_of h3 (by simp [execOp, ho])⟩
  · rename_i op t x ho
    obtain ⟨r, v, h1, h2, h3⟩ := vcUn_sound (P := C.P) hv (he.rel x)
    exact ⟨r, v, h1, h2, givesOp_of h3 (by simp [execOp, ho])⟩
  · rename_i s d x ho
    obtain ⟨r, v, h1, h2, h3⟩ := vcConv_sound hC hv (he.rel x)
    exact ⟨r, v, h1, h2, givesOp_load (by rw [ho]; rfl) (fun w hw => h3 w (by rw [hw]; exact fun _ _ _ h => h)) (by simp [execOp, ho])⟩
  · rename_i t x f ho
    obtain ⟨r, v, h1, h2, h3⟩ := vcFieldAddr_sound hC hv (he.rel x)
    exact ⟨r, v, h1, h2, givesOp_of h3 (by simp [execOp, ho])⟩
  · rename_i t x f ho
    obtain ⟨r, v, h1, h2, h3⟩ := vcField_sound hC hv (he.rel x)
    exact ⟨r, v, h1, h2, givesOp_of h3 (by simp [execOp, ho])⟩
  · rename_i t x i ho
    obtain ⟨r, v, h1, h2, h3⟩ := vcIndexAddr_sound hC hv (he.rel x) (he.rel i)
    exact ⟨r, v, h1, h2, givesOp_of h3 (by simp [execOp, ho])⟩
  · rename_i t x i ho
    obtain ⟨r, v, h1, h2, h3⟩ := vcIndex_sound hC hv (he.rel x) (he.rel i)
    exact ⟨r, v, h1, h2, givesOp_of h3 (by simp [execOp, ho])⟩
  · rename_i x i ho
    split at hv
    · rename_i xs hx
      split at hv
      · rename_i v hi
        refine ⟨_, _, hv, .some rfl, givesOp_all fun w => ?_⟩
        have h1 := he.known hx
        have h2 : (TVs.vals xs)[i]? = some v.val := by
          exact vals_get xs i v hi
        simp [execOp, ho, h1, TV.val, Instr.extract, h2]
      · exact hv.elim
    · exact hv.elim
  · rename_i t x lo hi ho
    obtain ⟨r, v, h1, h2, h3⟩ := vcSlice_sound hC hv (he.rel x) (relO_map he lo) (relO_map he hi)
    exact ⟨r, v, h1, h2, givesOp_of h3 (by simp [execOp, ho])⟩
  · rename_i f first cap ho
    split at hv
    · rename_i xs ys h1 h2
      refine ⟨_, _, hv, .some rfl, givesOp_all fun w => ?_⟩
      have e1 := allKnown_vals _ _ _ h1 (he.relL first.toList)
      have e2 := allKnown_vals _ _ _ h2 (he.relL cap.toList)
      have e1' : first.map a.eval = (TVs.vals xs).toArray := by apply Array.toList_inj.1; simpa using e1
      have e2' : cap.map a.eval = (TVs.vals ys).toArray := by apply Array.toList_inj.1; simpa using e2
      simp [execOp, ho, Instr.makeFunc, e1', e2', TV.val]
    · exact hv.elim
  · rename_i c ho
    split at hv
    · rename_i b hb
      obtain ⟨r, v, h1, h2, h3⟩ := vcBuiltinR_sound hC (ty := o.type) (vs := c.args.map a.eval) hv (by simpa using he.relL c.args.toList)
      refine ⟨r, v, h1, h2, givesOp_all fun w => ?_⟩
      have := fun cs => h3 cs w
      simp [execOp, ho, resolve, hb, invoke, this]
    · exact hv.elim
  · exact hv.elim

end
end Go.Vc
