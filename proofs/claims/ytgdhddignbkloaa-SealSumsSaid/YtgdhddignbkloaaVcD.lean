/- The operations that leave the world alone: one statement for all. -/
import Derived.Test.YtgdhddignbkloaaVcC
namespace Go.Vc
open Go

section
variable {P : Program} {C : Ctx} {h : Heap} {K : Option TV → Prop}

def RelL : List (Option TV) → List Value → Prop
  | [], [] => True
  | r :: rs, v :: vs => Rel r v ∧ RelL rs vs
  | _, _ => False

theorem bsize (s : List UInt8) : (⟨s.toArray⟩ : ByteArray).size = s.length := List.size_toArray

theorem vals_get : ∀ (xs : List TV) (i : Nat) (v : TV), xs[i]? = some v → (TVs.vals xs)[i]? = some v.val
  | [], i, v, h => by simp at h
  | y :: ys, 0, v, h => by simp only [List.getElem?_cons_zero, Option.some.injEq] at h; subst h; rfl
  | y :: ys, i + 1, v, h => by simp only [List.getElem?_cons_succ] at h; simpa [TVs.vals] using vals_get ys i v h

theorem EnvOk.relL {env : Env} {a : Act} (h : EnvOk env a) : ∀ l : List Operand, RelL (l.map env.ev) (l.map a.eval)
  | [] => trivial
  | x :: l => ⟨h.rel x, h.relL l⟩

theorem allKnown_vals : ∀ (rs : List (Option TV)) (vs : List Value) (ts : List TV), allKnown rs = some ts → RelL rs vs → vs = TVs.vals ts
  | [], [], ts, h, _ => by simp only [allKnown, Option.some.injEq] at h; subst h; rfl
  | some x :: rs, v :: vs, ts, h, hr => by
    simp only [allKnown] at h
    split at h
    · rename_i ys hy
      simp only [Option.some.injEq] at h
      subst h
      obtain rfl := hr.1 _ rfl
      rw [allKnown_vals rs vs ys hy hr.2]
      rfl
    · cases h
  | none :: rs, v :: vs, ts, h, hr => by simp [allKnown] at h

theorem vcBuiltinR_sound (hC : C.Ok) {b : Builtin} {ts : Array TypeId} {ty : TypeId} {xs : List (Option TV)} {vs : Array Value} (hv : vcBuiltinR C b ts.toList xs K) (hr : RelL xs vs.toList) :
    ∃ r v, K r ∧ Rel r v ∧ ∀ (cs : Array Bool) (w : World), (builtin b ts ty cs vs).run C.P w = .ok (.value v) w := by
  obtain ⟨ts⟩ := ts
  obtain ⟨vs⟩ := vs
  change vcBuiltinR C b ts xs K at hv
  change RelL xs vs at hr
  unfold vcBuiltinR at hv
  split at hv
  · obtain ⟨v, rfl⟩ : ∃ v, vs = [v] := by
      cases vs with
      | nil => exact hr.elim
      | cons v vs => cases vs with
        | nil => exact ⟨v, rfl⟩
        | cons _ _ => exact hr.2.elim
    obtain rfl := hr.1 _ rfl
    split at hv
    · rename_i hd
      refine ⟨_, _, hv, .some rfl, fun _ w => ?_⟩
      unfold builtin Builtin.len_
      simp [run_underlying (hC.d hd), TV.val, slVal, goInt]
    · exact hv.elim
  · obtain ⟨v, rfl⟩ : ∃ v, vs = [v] := by
      cases vs with
      | nil => exact hr.elim
      | cons v vs => cases vs with
        | nil => exact ⟨v, rfl⟩
        | cons _ _ => exact hr.2.elim
    obtain rfl := hr.1 _ rfl
    split at hv
    · rename_i hd
      refine ⟨_, _, hv, .some rfl, fun _ w => ?_⟩
      unfold builtin Builtin.len_
      simp [run_underlying (hC.d hd), TV.val, goInt, bsize]
    · exact hv.elim
  · obtain ⟨v, rfl⟩ : ∃ v, vs = [v] := by
      cases vs with
      | nil => exact hr.elim
      | cons v vs => cases vs with
        | nil => exact ⟨v, rfl⟩
        | cons _ _ => exact hr.2.elim
    split at hv
    · rename_i hd
      refine ⟨_, _, hv, .some rfl, fun _ w => ?_⟩
      unfold builtin Builtin.len_
      simp [run_underlying (hC.d hd), TV.val, goInt]
    · exact hv.elim
  · obtain ⟨v, rfl⟩ : ∃ v, vs = [v] := by
      cases vs with
      | nil => exact hr.elim
      | cons v vs => cases vs with
        | nil => exact ⟨v, rfl⟩
        | cons _ _ => exact hr.2.elim
    obtain rfl := hr.1 _ rfl
    split at hv
    · rename_i hd
      refine ⟨_, _, hv, .some rfl, fun _ w => ?_⟩
      unfold builtin Builtin.cap_
      simp [run_underlying (hC.d hd), TV.val, slVal, goInt]
    · exact hv.elim
  · obtain ⟨v, u, rfl⟩ : ∃ v u, vs = [v, u] := by
      cases vs with
      | nil => exact hr.elim
      | cons v vs => cases vs with
        | nil => exact hr.2.elim
        | cons u vs => cases vs with
          | nil => exact ⟨v, u, rfl⟩
          | cons _ _ => exact hr.2.2.elim
    obtain rfl := hr.1 _ rfl
    obtain rfl := hr.2.1 _ rfl
    split at hv
    · refine ⟨_, _, hv, .some rfl, fun _ w => ?_⟩
      simp [builtin, Builtin.min_, Builtin.min2, TV.val, mn]
    · exact hv.elim
  · obtain ⟨v, u, rfl⟩ : ∃ v u, vs = [v, u] := by
      cases vs with
      | nil => exact hr.elim
      | cons v vs => cases vs with
        | nil => exact hr.2.elim
        | cons u vs => cases vs with
          | nil => exact ⟨v, u, rfl⟩
          | cons _ _ => exact hr.2.2.elim
    obtain rfl := hr.1 _ rfl
    obtain rfl := hr.2.1 _ rfl
    split at hv
    · refine ⟨_, _, hv, .some rfl, fun _ w => ?_⟩
      simp [builtin, Builtin.max_, Builtin.max2, TV.val, mx]
    · exact hv.elim
  · exact hv.elim

/-! ### Maps -/

theorem str_val_inj {a b : List UInt8} : (Value.string ⟨a.toArray⟩ = Value.string ⟨b.toArray⟩) ↔ a = b := by
  constructor
  · intro h
    injection h with h
    injection h with h
    exact List.toArray_inj h
  · rintro rfl; rfl

theorem keyLike_isKey {d : TypeDesc} {k : TV} (h : keyLike d k = true) : MapKept.IsKey d k.val := by
  cases d <;> cases k <;> simp_all [keyLike, MapKept.IsKey, TV.val]

theorem keyEq_iff {d : TypeDesc} {a b : TV} (ha : keyLike d a = true) (hb : keyLike d b = true) : keyEq a b = true ↔ b.val = a.val := by
  cases d <;> cases a <;> simp [keyLike] at ha <;> cases b <;> simp [keyLike] at hb
  · subst ha; subst hb
    simp only [keyEq, decide_eq_true_eq, TV.val, Value.int.injEq, true_and]
    exact eq_comm
  · simp only [keyEq, decide_eq_true_eq, TV.val]
    rw [str_val_inj]
    exact eq_comm

def entsOf (es : List (TV × TV × Nat)) : List MapEntry := es.map fun e => ({ key := e.1.val, val := e.2.1.val, born := e.2.2 } : MapEntry)

/-- Where a key is found. -/
theorem find_now {d : TypeDesc} {k : TV} (hk : keyLike d k = true) : ∀ (es : List (TV × TV × Nat)) (i : Nat), AllLike d es →
    (Instr.findNow d k.val (entsOf es) i = some none ∧ findE k es = none ∧ (∀ v c, putE k v c es = es ++ [(k, v, c)]) ∧ dropE k es = es) ∨
    ∃ (j : Nat) (e : TV × TV × Nat), Instr.findNow d k.val (entsOf es) i = some (some (i + j, e.2.1.val)) ∧ es[j]? = some e ∧ e.1.val = k.val ∧ findE k es = some e.2.1 ∧ (∀ v c, putE k v c es = es.set j (e.1, v, e.2.2)) ∧ dropE k es = es.eraseIdx j
  | [], i, _ => .inl ⟨rfl, rfl, fun _ _ => rfl, rfl⟩
  | e :: es, i, h => by
    have he := h e (List.mem_cons_self ..)
    have hes : AllLike d es := fun x hx => h x (List.mem_cons_of_mem _ hx)
    have hiff := keyEq_iff hk he
    obtain ⟨r, hr, hri⟩ := MapKept.sameNow_of_keys (keyLike_isKey hk) (keyLike_isKey he)
    have hent : entsOf (e :: es) = { key := e.1.val, val := e.2.1.val, born := e.2.2 } :: entsOf es := rfl
    by_cases hq : keyEq k e.1 = true
    · right
      have hv := hiff.1 hq
      have hr1 : r = true := hri.2 hv.symm
      refine ⟨0, e, ?_, rfl, hv, ?_, fun v c => ?_, ?_⟩
      · rw [hent]; simp [Instr.findNow, hr, hr1]
      · simp [findE, hq]
      · simp [putE, hq]
      · simp [dropE, hq]
    · have hr0 : r = false := by
        cases r with
        | false => rfl
        | true => exact absurd (hiff.2 (hri.1 rfl).symm) hq
      rcases find_now hk es (i + 1) hes with ⟨h1, h2, h3, h4⟩ | ⟨j, e', h1, h2, h3, h4, h5, h6⟩
      · left
        refine ⟨by rw [hent]; simp [Instr.findNow, hr, hr0, h1], by simp [findE, hq, h2], fun v c => by simp [putE, hq, h3], by simp [dropE, hq, h4]⟩
      · right
        refine ⟨j + 1, e', by rw [hent]; simp [Instr.findNow, hr, hr0, h1]; omega, by simpa using h2, h3, by simp [findE, hq, h4], fun v c => by simp [putE, hq, h5], by simp [dropE, hq, h6]⟩

theorem run_findE {w : World} {kt : TypeId} {d : TypeDesc} {k : TV} {es : List (TV × TV × Nat)} (hd : P.underlying kt = some d) (hk : keyLike d k = true) (hl : AllLike d es) :
    ∃ a, (Instr.findKey kt k.val (entsOf es)).run P w = .ok a w ∧ a.map (·.2) = (findE k es).map TV.val := by
  rcases find_now hk es 0 hl with ⟨h1, h2, _⟩ | ⟨j, e, h1, _, _, h4, _⟩
  · exact ⟨_, MapKept.run_findKey hd h1, by rw [h2]; rfl⟩
  · exact ⟨_, MapKept.run_findKey hd h1, by rw [h4]; rfl⟩

theorem run_zero (hC : C.Ok) {t : TypeId} (h : notTuple (C.ti t).d = true) (w : World) : (zeroValue t).run C.P w = .ok (C.ti t).z.val w := by
  obtain ⟨hs, ht⟩ : (C.ti t).d.isSome = true ∧ isTup (C.ti t).d = false := by
    cases hd : (C.ti t).d with
    | none => rw [hd] at h; cases h
    | some d => rw [hd] at h; cases d <;> first | exact ⟨rfl, rfl⟩ | cases h
  obtain ⟨i, hi, hz⟩ := hC.zero t (Ctx.ti_lt hs) hs
  have hz : i.zero = some (C.ti t).z.val := by
    rcases hz with h1 | h1
    · rw [ht] at h1; cases h1
    · exact h1
  simp [zeroValue, typeInfo, hi, hz]

/-- Reading a map, in whatever world where it stands. -/
theorem vcLookup_sound (hC : C.Ok) {t : TypeId} {m k : Option TV} {M X : Value} {ok : Bool} (hv : vcLookup C t m k ok h K) (hm : Rel m M) (hk : Rel k X) :
    ∃ r v, K r ∧ Rel r v ∧ ∀ w : World, (∀ (b : Nat) (o : Obj), h[b]? = some o → w.heap[b]? = some o) → (Instr.lookup t M X ok).run C.P w = .ok v w := by
  unfold vcLookup at hv
  split at hv
  · rename_i kt et p kv hd
    obtain rfl := hm _ rfl
    obtain rfl := hk _ rfl
    split at hv
    · rename_i d hkd hn
      split at hv
      · rename_i hlike
        obtain ⟨es, hl, hx, hst⟩ : ∃ es, AllLike d es ∧ (Ex (C.ti et).sh fun tv => orE (findE kv es) (C.ti et).z = tv ∧ K (some (lookRes ok tv (hasE kv es)))) ∧ ((p = none ∧ es = []) ∨ ∃ b c, p = some b ∧ h[b]? = some (mapO es c)) := by
          cases p with
          | none => exact ⟨[], hv.1, hv.2, .inl ⟨rfl, rfl⟩⟩
          | some b =>
            obtain ⟨es, c, hb, hl, hx⟩ := hv
            exact ⟨es, hl, hx, .inr ⟨b, c, rfl, hb⟩⟩
        obtain ⟨tv, _, he, hK⟩ := ex_iff _ _ hx
        unfold orE at he
        unfold hasE at hK
        refine ⟨_, (lookRes ok tv (findE kv es).isSome).val, hK, .some rfl, fun w hw => ?_⟩
        obtain ⟨a, ha, hav⟩ := run_findE (w := w) (hC.d hkd) hlike hl
        have hck := fun e => MapKept.run_checkKey (P := C.P) (w := w) (hC.d hkd) (keyLike_isKey hlike) e 9999
        have hrest : ∀ (M : Value), (∀ es', es' = (entsOf es).toArray → M = .map none ∧ es' = #[] ∨ ∃ b c, M = .map (some b) ∧ w.heap[b]? = some (.map es' c)) → (Instr.lookup t M kv.val ok).run C.P w = .ok (lookRes ok tv (findE kv es).isSome).val w := by
          intro M hM
          unfold Instr.lookup
          rcases hM _ rfl with ⟨rfl, h0⟩ | ⟨b, c, rfl, hb⟩
          · have h00 : entsOf es = [] := by simpa using h0
            rw [h00] at ha
            cases a with
            | none =>
              have hf : findE kv es = none := by
                cases hf : findE kv es with
                | none => rfl
                | some x => rw [hf] at hav; cases hav
              rw [hf] at he ⊢
              simp only [Option.getD_none] at he
              subst he
              cases ok <;> simp [run_underlying (hC.d hd), hck, ha, run_zero hC hn, lookRes, TV.val, TVs.vals]
            | some a =>
              have he0 : es = [] := by simpa [entsOf] using h00
              rw [he0] at hav
              cases hav
          · cases a with
            | none =>
              have hf : findE kv es = none := by
                cases hf : findE kv es with
                | none => rfl
                | some x => rw [hf] at hav; cases hav
              rw [hf] at he ⊢
              simp only [Option.getD_none] at he
              subst he
              cases ok <;> simp [run_underlying (hC.d hd), MapKept.run_getObj_map hb, hck, ha, run_zero hC hn, lookRes, TV.val, TVs.vals]
            | some a =>
              obtain ⟨x, hx, hxv⟩ : ∃ x, findE kv es = some x ∧ a.2 = x.val := by
                cases hf : findE kv es with
                | none => rw [hf] at hav; cases hav
                | some x => rw [hf] at hav; exact ⟨x, rfl, by simpa using hav⟩
              rw [hx] at he ⊢
              simp only [Option.getD_some] at he
              subst he
              obtain ⟨a1, a2⟩ := a
              simp only at hxv
              subst hxv
              cases ok <;> simp [run_underlying (hC.d hd), MapKept.run_getObj_map hb, hck, ha, lookRes, TV.val, TVs.vals]
        refine hrest _ fun es' hes => ?_
        rcases hst with ⟨rfl, rfl⟩ | ⟨b, c, rfl, hb⟩
        · left
          exact ⟨rfl, hes⟩
        · right
          refine ⟨b, c, rfl, ?_⟩
          rw [hes]
          exact hw b _ hb
      · exact hv.elim
    · exact hv.elim
  · exact hv.elim

theorem vcMapLen_sound (hC : C.Ok) {ts : Array TypeId} {ty : TypeId} {p : Option Nat} (hv : vcMapLen C ts.toList p h K) :
    ∃ r v, K r ∧ Rel r v ∧ ∀ (cs : Array Bool) (w : World), (∀ (b : Nat) (o : Obj), h[b]? = some o → w.heap[b]? = some o) → (builtin .len ts ty cs #[(TV.map p).val]).run C.P w = .ok (.value v) w := by
  obtain ⟨ts⟩ := ts
  change vcMapLen C ts p h K at hv
  unfold vcMapLen at hv
  split at hv
  · split at hv
    · rename_i hd
      cases p with
      | none =>
        refine ⟨_, _, hv, .some rfl, fun _ w _ => ?_⟩
        unfold builtin Builtin.len_
        simp [run_underlying (hC.d hd), TV.val, goInt]
      | some b =>
        obtain ⟨es, c, hb, hv⟩ := hv
        refine ⟨_, _, hv, .some rfl, fun _ w hw => ?_⟩
        have hb' := hw b _ hb
        unfold mapO at hb'
        unfold builtin Builtin.len_
        simp [run_underlying (hC.d hd), TV.val, goInt, MapKept.run_getObj_map hb']
    · exact hv.elim
  · exact hv.elim

theorem vcPack_sound (hC : C.Ok) {t : TypeId} {x : Option TV} {X : Value} (hv : vcPack C t x K) (hx : Rel x X) : ∃ r v, K r ∧ Rel r v ∧ GivesA C.P (Instr.makeInterface t X) v := by
  unfold vcPack at hv
  split at hv
  · exact hv.elim
  · rename_i d tv hni hd
    obtain rfl := hx _ rfl
    refine ⟨_, _, hv, .some rfl, fun w => ?_⟩
    unfold Instr.makeInterface
    simp only [Sem.run_bind, run_underlying (hC.d hd), Result.andThen_ok]
    cases d <;> first | exact absurd hd (hni _) | rfl
  · exact hv.elim

theorem vcUnpack_sound (hC : C.Ok) {t s : TypeId} {x : Option TV} {X : Value} {ok : Bool} (hv : vcUnpack C x t ok K) (hx : Rel x X) : ∃ r v, K r ∧ Rel r v ∧ GivesA C.P (Instr.typeAssert X s t ok) v := by
  unfold vcUnpack at hv
  split at hv
  · exact hv.elim
  · rename_i d o hni hd
    obtain rfl := hx _ rfl
    obtain ⟨tv, _, ho, hk⟩ := ex_iff _ _ hv
    refine ⟨_, (match ok with | true => TV.tup [tv, .bool true] | false => tv).val, hk, ?_, fun w => ?_⟩
    · cases ok <;> exact .some rfl
    · have hov : (TV.one o).val = .iface t tv.val := ho
      unfold Instr.typeAssert
      rw [hov]
      simp only [Sem.run_bind, run_underlying (hC.d hd), Result.andThen_ok]
      cases d <;> first | exact absurd hd (hni _) | (cases ok <;> simp [TV.val, TVs.vals])
  · exact hv.elim

theorem vcExtract_sound {t : TypeId} {x : TV} (hv : vcExtract C t x K) : ∃ r, K r ∧ Rel r x.val := by
  unfold vcExtract at hv
  split at hv
  · rename_i a
    split at hv
    · exact ⟨_, hv, .some rfl⟩
    · obtain ⟨tv, _, h1, h2⟩ := ex_iff _ _ hv
      exact ⟨_, h2, .some h1.symm⟩
  · exact ⟨_, hv, .some rfl⟩

theorem relParts_map {env : Env} {a : Act} (he : EnvOk env a) : ∀ l : List (Nat × Operand), RelParts (l.map fun p => (p.1, env.ev p.2)) (l.map fun p => (p.1, a.eval p.2))
  | [] => trivial
  | p :: l => ⟨rfl, he.rel p.2, relParts_map he l⟩

theorem vcCallR_sound (hC : C.Ok) {b : Builtin} {ts : Array TypeId} {ty : TypeId} {xs : List (Option TV)} {vs : Array Value}
    (hv : match b, xs with | .len, [some (.map p)] => vcMapLen C ts.toList p h K | _, _ => vcBuiltinR C b ts.toList xs K) (hr : RelL xs vs.toList) :
    ∃ r v, K r ∧ Rel r v ∧ ∀ (cs : Array Bool) (w : World), (∀ (b : Nat) (o : Obj), h[b]? = some o → w.heap[b]? = some o) → (builtin b ts ty cs vs).run C.P w = .ok (.value v) w := by
  split at hv
  · rename_i p
    obtain ⟨v, rfl⟩ : ∃ v, vs = #[v] := by
      obtain ⟨vs⟩ := vs
      cases vs with
      | nil => exact hr.elim
      | cons v vs => cases vs with
        | nil => exact ⟨v, rfl⟩
        | cons _ _ => exact hr.2.elim
    obtain rfl := hr.1 _ rfl
    exact vcMapLen_sound hC hv
  · obtain ⟨r, v, h1, h2, h3⟩ := vcBuiltinR_sound hC (ty := ty) (vs := vs) hv hr
    exact ⟨r, v, h1, h2, fun cs w _ => h3 cs w⟩

theorem relO_map {env : Env} {a : Act} (he : EnvOk env a) : ∀ l : Option Operand, RelO (l.map env.ev) (l.map a.eval)
  | none => trivial
  | some x => he.rel x

/-- What comes of an operation that leaves the world alone. -/
def GivesOp (P : Program) (o : Oper) (a : Act) (h : Heap) (v : Value) : Prop := ∀ w : World, w.heap = h → (execOp a.eval o).run P w = .ok (.value v) w

def isLoad : Op → Bool
  | .load _ _ => true
  | .convert _ _ _ => true
  | .lookup _ _ _ _ => true
  | .call _ => true
  | _ => false

/-- The same, in whatever world where the operation is no load. -/
def GivesOpA (P : Program) (o : Oper) (a : Act) (h : Heap) (v : Value) : Prop := GivesOp P o a h v ∧ (isLoad o.op = false → ∀ w : World, (execOp a.eval o).run P w = .ok (.value v) w)

theorem givesOp_load {o : Oper} {a : Act} {s : Sem Value} {v : Value} (hl : isLoad o.op = true) (hg : Gives P s h v) (he : execOp a.eval o = (do pure (.value (← s)))) : GivesOpA P o a h v := by
  refine ⟨fun w hw => ?_, fun h0 => by rw [hl] at h0; cases h0⟩
  rw [he]
  simp [hg w hw]

theorem givesOp_of {o : Oper} {a : Act} {s : Sem Value} {v : Value} (hg : GivesA P s v) (he : execOp a.eval o = (do pure (.value (← s)))) : GivesOpA P o a h v := by
  have : ∀ w : World, (execOp a.eval o).run P w = .ok (.value v) w := fun w => by
    rw [he]
    simp [hg w]
  exact ⟨fun w _ => this w, fun _ => this⟩

theorem givesOp_all {o : Oper} {a : Act} {v : Value} (hg : ∀ w : World, (execOp a.eval o).run P w = .ok (.value v) w) : GivesOpA P o a h v := ⟨fun w _ => hg w, fun _ => hg⟩

theorem vcR_sound (hC : C.Ok) {o : Oper} {env : Env} {a : Act} (hv : vcR C o env.ev h K) (he : EnvOk env a) : ∃ r v, K r ∧ Rel r v ∧ GivesOpA C.P o a h v := by
  unfold vcR at hv
  split at hv
  · rename_i x ho
    exact ⟨_, _, hv, he.rel x, givesOp_all fun w => by simp [execOp, ho]⟩
  · rename_i x ho
    exact ⟨_, _, hv, he.rel x, givesOp_all fun w => by simp [execOp, ho]⟩
  · rename_i c x y ho
    split at hv
    · rename_i hc
      refine ⟨_, _, hv, he.rel x, givesOp_all fun w => ?_⟩
      have := he.known hc
      simp [execOp, ho, this, TV.val, asBool]
    · rename_i hc
      refine ⟨_, _, hv, he.rel y, givesOp_all fun w => ?_⟩
      have := he.known hc
      simp [execOp, ho, this, TV.val, asBool]
    · exact hv.elim
  · rename_i t parts ho
    obtain ⟨r, v, h1, h2, h3⟩ := vcBuild_sound hC (parts := parts.map fun p => (p.1, a.eval p.2)) hv (by simpa using relParts_map he parts.toList)
    exact ⟨r, v, h1, h2, givesOp_of h3 (by simp [execOp, ho])⟩
  · rename_i t x ho
    split at hv
    · rename_i p hx
      obtain ⟨l, rfl, hv⟩ := elim_some hv
      obtain ⟨r, v, h1, h2, h3⟩ := vcLoad_sound hC hv
      refine ⟨r, v, h1, h2, givesOp_load (by rw [ho]; rfl) h3 ?_⟩
      have := he.known hx
      simp [execOp, ho, this, TV.val]
    · exact hv.elim
  · rename_i x ho
    split at hv
    · rename_i p hx
      obtain ⟨l, rfl, hv⟩ := elim_some hv
      refine ⟨_, _, hv, .some rfl, givesOp_all fun w => ?_⟩
      have := he.known hx
      simp [execOp, ho, this, TV.val]
    · rename_i g x1 x2 hx
      refine ⟨_, _, hv, .some rfl, givesOp_all fun w => ?_⟩
      have := he.known hx
      simp [execOp, ho, this, TV.val]
    · exact hv.elim
  · rename_i op t x y ty ho
    obtain ⟨r, v, h1, h2, h3⟩ := vcBinA_sound hC hv (he.rel x) (he.rel y) x y
    exact ⟨r, v, h1, h2, givesOp_of h3 (by simp [execOp, ho])⟩
  · rename_i op t x ho
    obtain ⟨r, v, h1, h2, h3⟩ := vcUn_sound (P := C.P) hv (he.rel x)
    exact ⟨r, v, h1, h2, givesOp_of h3 (by simp [execOp, ho])⟩
  · rename_i s d x ho
    obtain ⟨r, v, h1, h2, h3⟩ := vcConv_sound hC hv (he.rel x)
    exact ⟨r, v, h1, h2, givesOp_load (by rw [ho]; rfl) (fun w hw => h3 w (by rw [hw]; exact fun _ _ _ h => h)) (by simp [execOp, ho])⟩
  · rename_i t x f ho
    obtain ⟨r, v, h1, h2, h3⟩ := vcFieldAddr_sound hC hv (he.rel x)
    exact ⟨r, v, h1, h2, givesOp_of h3 (by simp [execOp, ho])⟩
  · rename_i t x f ho
    obtain ⟨r, v, h1, h2, h3⟩ := vcField_sound hC hv (he.rel x)
    exact ⟨r, v, h1, h2, givesOp_of h3 (by simp [execOp, ho])⟩
  · rename_i t x i ho
    obtain ⟨r, v, h1, h2, h3⟩ := vcIndexAddr_sound hC hv (he.rel x) (he.rel i)
    exact ⟨r, v, h1, h2, givesOp_of h3 (by simp [execOp, ho])⟩
  · rename_i t x i ho
    obtain ⟨r, v, h1, h2, h3⟩ := vcIndex_sound hC hv (he.rel x) (he.rel i)
    exact ⟨r, v, h1, h2, givesOp_of h3 (by simp [execOp, ho])⟩
  · rename_i x i ho
    split at hv
    · rename_i xs hx
      split at hv
      · rename_i v hi
        obtain ⟨r, hv, hr⟩ := vcExtract_sound hv
        refine ⟨_, _, hv, hr, givesOp_all fun w => ?_⟩
        have h1 := he.known hx
        have h2 : (TVs.vals xs)[i]? = some v.val := by
          exact vals_get xs i v hi
        simp [execOp, ho, h1, TV.val, Instr.extract, h2]
      · exact hv.elim
    · exact hv.elim
  · rename_i t m k ok ho
    obtain ⟨r, v, h1, h2, h3⟩ := vcLookup_sound hC hv (he.rel m) (he.rel k)
    exact ⟨r, v, h1, h2, givesOp_load (by rw [ho]; rfl) (fun w hw => h3 w (by rw [hw]; exact fun _ _ h => h)) (by simp [execOp, ho])⟩
  · rename_i t x ho
    obtain ⟨r, v, h1, h2, h3⟩ := vcPack_sound hC hv (he.rel x)
    exact ⟨r, v, h1, h2, givesOp_of h3 (by simp [execOp, ho])⟩
  · rename_i x s t ok ho
    obtain ⟨r, v, h1, h2, h3⟩ := vcUnpack_sound (s := s) hC hv (he.rel x)
    exact ⟨r, v, h1, h2, givesOp_of h3 (by simp [execOp, ho])⟩
  · rename_i t x lo hi ho
    obtain ⟨r, v, h1, h2, h3⟩ := vcSlice_sound hC hv (he.rel x) (relO_map he lo) (relO_map he hi)
    exact ⟨r, v, h1, h2, givesOp_of h3 (by simp [execOp, ho])⟩
  · rename_i t x lo hi m ho
    obtain ⟨r, v, h1, h2, h3⟩ := vcSlice3_sound hC hv (he.rel x) (relO_map he lo) (relO_map he hi) (he.rel m)
    exact ⟨r, v, h1, h2, givesOp_of h3 (by simp [execOp, ho])⟩
  · rename_i f first cap ho
    split at hv
    · rename_i xs ys h1 h2
      refine ⟨_, _, hv, .some rfl, givesOp_all fun w => ?_⟩
      have e1 := allKnown_vals _ _ _ h1 (he.relL first.toList)
      have e2 := allKnown_vals _ _ _ h2 (he.relL cap.toList)
      have e1' : first.map a.eval = (TVs.vals xs).toArray := by apply Array.toList_inj.1; simpa using e1
      have e2' : cap.map a.eval = (TVs.vals ys).toArray := by apply Array.toList_inj.1; simpa using e2
      simp [execOp, ho, Instr.makeFunc, e1', e2', TV.val]
    · exact hv.elim
  · rename_i c ho
    split at hv
    · rename_i b hb
      obtain ⟨r, v, h1, h2, h3⟩ := vcCallR_sound hC (ty := o.type) (vs := c.args.map a.eval) hv (by simpa using he.relL c.args.toList)
      refine ⟨r, v, h1, h2, fun w hw => ?_, fun hx => by rw [ho] at hx; cases hx⟩
      have := fun cs => h3 cs w (by rw [hw]; exact fun _ _ h => h)
      simp [execOp, ho, resolve, hb, invoke, this]
    · exact hv.elim
  · exact hv.elim

end
end Go.Vc
