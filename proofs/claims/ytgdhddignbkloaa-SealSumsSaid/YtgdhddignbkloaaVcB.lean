/- Conditions for the operations that only reckon or read: each comes with the proof that the model's operation does what it says. -/
import Derived.Test.YtgdhddignbkloaaVcA
namespace Go.Vc
open Go

/-! ### What the table of types says -/

structure TI where
  d : Option TypeDesc
  sh : Sh
  z : TV
  size : Nat
  bytes : Nat
  offs : Bool
  eqg : Bool
  held : Bool

def One.of (v : Value) : One := if h : isOne v = true then ⟨v, h⟩ else ⟨.nilIface, rfl⟩

def shOf (P : Program) : Nat → TypeId → Sh
  | 0, _ => .one
  | d + 1, t => match P.underlying t with
    | some .bool => .bool
    | some (.int k) => .int k
    | some .string => .str
    | some (.pointer _) => .ptr
    | some (.slice _) => .slice
    | some (.map _ _) => .map
    | some (.struct fs) => .agg (fs.toList.map fun f => shOf P d f.type)
    | some (.array n e) => match P.underlying e with
      | some (.int .u8) => .bytes n
      | some (.int k) => .words k n
      | _ => .agg (List.replicate n (shOf P d e))
    | some (.tuple ts) => .tup (ts.toList.map (shOf P d))
    | _ => .one

def zOf (P : Program) : Nat → TypeId → TV
  | 0, _ => .bool false
  | d + 1, t => match P.underlying t with
    | some .bool => .bool false
    | some (.int k) => .int k 0
    | some .string => .str []
    | some (.pointer _) => .ptr none
    | some (.slice _) => .slice Sl.nil
    | some (.map _ _) => .map none
    | some (.struct fs) => .agg (fs.toList.map fun f => zOf P d f.type)
    | some (.array n e) => match P.underlying e with
      | some (.int .u8) => .bytes n (Bs.zero n)
      | some (.int k) => .words k n (Ws.zero n)
      | _ => .agg (List.replicate n (zOf P d e))
    | some (.tuple ts) => .tup (ts.toList.map (zOf P d))
    | _ => .one (One.of (((P.info? t).bind (·.zero)).getD .nilIface))

def isAggD : Option TypeDesc → Bool
  | some (.struct _) | some (.array _ _) => true
  | _ => false

def offsOk (P : Program) : List Sh → List Field → Nat → Bool
  | [], [], _ => true
  | s :: ss, f :: fs, n => f.offset == n && s.size == P.cellsOf f.type && (match s with | .bytes _ | .words _ _ | .agg _ => true | _ => false) == isAggD (P.underlying f.type) && (P.underlying f.type).isSome && offsOk P ss fs (n + s.size)
  | _, _, _ => false

def TI.of (P : Program) (t : TypeId) : TI :=
  { d := P.underlying t, sh := shOf P 20 t, z := zOf P 20 t, size := P.cellsOf t, bytes := P.bytesOf t
    offs := match P.underlying t, shOf P 20 t with
      | some (.struct fs), .agg ss => offsOk P ss fs.toList 0
      | _, _ => false
    eqg := P.eqGuardType P.depth t
    held := P.stoodInHeld t }

def isTup : Option TypeDesc → Bool
  | some (.tuple _) => true
  | _ => false

structure Ctx where
  P : Program
  tab : List TI
  ent : List Bool
  /-- Regions in which a call writes where it likes: what is read early is read of what stands all the time. -/
  loose : Bool := false

def Ctx.ti (C : Ctx) (t : TypeId) : TI := C.tab.getD t ⟨none, .one, .bool false, 0, 0, false, true, true⟩

/-- What has to be shown once of a program. -/
structure Ctx.Ok (C : Ctx) : Prop where
  tab : ∀ t, t < C.tab.length → C.ti t = TI.of C.P t
  zero : ∀ t, t < C.tab.length → (C.ti t).d.isSome = true → ∃ i, C.P.info? t = some i ∧ (isTup (C.ti t).d = true ∨ i.zero = some (C.ti t).z.val)
  size : ∀ t, t < C.tab.length → isTup (C.ti t).d = true ∨ (C.ti t).sh.size = (C.ti t).size ∧ (C.ti t).z.size = (C.ti t).size
  ent : ∀ f, C.ent.getD f false = true → ∃ fn, C.P.funcs[f]? = some fn ∧ fn.body.isSome = true ∧ (fn.name == "runtime.NumGoroutine") = false
  mixed : C.P.follows .mixedOrders = true

theorem Ctx.ti_lt {C : Ctx} {t : TypeId} (h : (C.ti t).d.isSome = true) : t < C.tab.length := by
  rcases Nat.lt_or_ge t C.tab.length with h' | h'
  · exact h'
  · simp [Ctx.ti, h'] at h

theorem Ctx.Ok.d {C : Ctx} (hC : C.Ok) {t : TypeId} {d : TypeDesc} (h : (C.ti t).d = some d) : C.P.underlying t = some d := by
  have hl := Ctx.ti_lt (C := C) (t := t) (by simp [h])
  rw [← h, hC.tab t hl]; rfl

theorem Ctx.Ok.info {C : Ctx} (hC : C.Ok) {t : TypeId} {d : TypeDesc} (h : (C.ti t).d = some d) : ∃ i, C.P.info? t = some i ∧ i.size = (C.ti t).size ∧ i.bytes = (C.ti t).bytes := by
  have hl := Ctx.ti_lt (C := C) (t := t) (by simp [h])
  obtain ⟨i, hi, _⟩ := hC.zero t hl (by simp [h])
  refine ⟨i, hi, ?_, ?_⟩
  · rw [hC.tab t hl]; simp [TI.of, Program.cellsOf, hi]
  · rw [hC.tab t hl]; simp [TI.of, Program.bytesOf, hi]

/-! ### Environments -/

abbrev Env := List (Option TV)

structure EnvOk (env : Env) (a : Act) : Prop where
  defers : a.defers = []
  size : a.tmps.size = env.length
  slot : ∀ (i : Nat) (tv : TV), env[i]? = some (some tv) → a.tmps[i]? = some tv.val

/-- What a constant is. -/
def TV.const : Value → Option TV
  | .int k n => some (.int k n)
  | .bool b => some (.bool b)
  | .string s => some (.str s.data.toList)
  | .pointer none => some (.ptr none)
  | .slice none 0 0 => some (.slice Sl.nil)
  | .map none => some (.map none)
  | .nilFunc => some (.one ⟨.nilFunc, rfl⟩)
  | .nilIface => some (.one ⟨.nilIface, rfl⟩)
  | _ => none

def Env.ev (env : Env) : Operand → Option TV
  | .tmp t => env.getD t none
  | .const v => TV.const v
  | .global g => some (.ptr (some ⟨g, 0⟩))
  | .func f => some (.fn (.func f) [] [])

def Env.put (env : Env) (d : Option Tmp) (r : Option TV) : Env :=
  match d with
  | some d => env.set d r
  | none => env

/-- A known value is the value. -/
def Rel (r : Option TV) (v : Value) : Prop := ∀ tv, r = some tv → v = tv.val

theorem Rel.none (v : Value) : Rel .none v := fun _ h => by cases h
theorem Rel.some {tv : TV} {v : Value} (h : v = tv.val) : Rel (some tv) v := fun _ e => by cases e; exact h

theorem TV.const_val {v : Value} {tv : TV} (h : TV.const v = some tv) : v = tv.val := by
  unfold TV.const at h
  split at h <;> simp at h <;> subst h <;> simp [TV.val, slVal, Sl.nil]

theorem EnvOk.rel {env : Env} {a : Act} (h : EnvOk env a) (x : Operand) : Rel (env.ev x) (a.eval x) := by
  intro tv hx
  cases x with
  | tmp t =>
    simp only [Env.ev] at hx
    have hx' : env[t]? = some (some tv) := by
      rw [List.getD_eq_getElem?_getD] at hx
      cases he : env[t]? with
      | none => rw [he] at hx; cases hx
      | some y => rw [he] at hx; simp at hx; rw [hx]
    have := h.slot t tv hx'
    simp [Act.eval, this]
  | const v => exact TV.const_val hx
  | global g => simp only [Env.ev, Option.some.injEq] at hx; subst hx; rfl
  | func f => simp only [Env.ev, Option.some.injEq] at hx; subst hx; rfl

theorem EnvOk.known {env : Env} {a : Act} (h : EnvOk env a) {x : Operand} {tv : TV} (hx : env.ev x = some tv) : a.eval x = tv.val := h.rel x tv hx

theorem EnvOk.put {env : Env} {a : Act} (h : EnvOk env a) (d : Option Tmp) {r : Option TV} {v : Value} (hr : Rel r v) : EnvOk (env.put d r) (a.put d v) := by
  cases d with
  | none => exact h
  | some d =>
    refine ⟨h.defers, by simp [Act.put, Env.put, h.size], fun i tv hi => ?_⟩
    simp only [Env.put, List.getElem?_set] at hi
    simp only [Act.put, Array.getElem?_setIfInBounds]
    by_cases hdi : d = i
    · subst hdi
      simp only [if_true] at hi ⊢
      by_cases hl : d < env.length
      · rw [if_pos hl] at hi
        rw [if_pos (by rw [h.size]; exact hl)]
        simp only [Option.some.injEq] at hi
        rw [hr tv hi]
      · rw [if_neg hl] at hi; cases hi
    · rw [if_neg hdi] at hi ⊢
      exact h.slot i tv hi

/-! ### Comparisons and arithmetic -/

def vcInt (op : BinOp) (k : IntKind) (a b : Int) (K : Option TV → Prop) : Prop :=
  match op with
  | .add => K (some (.int k (k.wrap (a + b))))
  | .sub => K (some (.int k (k.wrap (a - b))))
  | .mul => K (some (.int k (k.wrap (a * b))))
  | .quo => b ≠ 0 ∧ K (some (.int k (k.wrap (a.tdiv b))))
  | .rem => b ≠ 0 ∧ K (some (.int k (a.tmod b)))
  | .and => K (some (.int k (k.wrap (BitVec.ofInt k.bits a &&& BitVec.ofInt k.bits b).toNat)))
  | .or => K (some (.int k (k.wrap (BitVec.ofInt k.bits a ||| BitVec.ofInt k.bits b).toNat)))
  | .xor => K (some (.int k (k.wrap (BitVec.ofInt k.bits a ^^^ BitVec.ofInt k.bits b).toNat)))
  | .andNot => K (some (.int k (k.wrap (BitVec.ofInt k.bits a &&& ~~~ BitVec.ofInt k.bits b).toNat)))
  | .eql => K (some (.bool (decide (a = b))))
  | .neq => K (some (.bool (!decide (a = b))))
  | .lss => K (some (.bool (decide (a < b))))
  | .leq => K (some (.bool (decide (a ≤ b))))
  | .gtr => K (some (.bool (decide (b < a))))
  | .geq => K (some (.bool (decide (b ≤ a))))
  | .shl | .shr => False

def vcShift (op : BinOp) (k : IntKind) (a b : Int) (K : Option TV → Prop) : Prop :=
  match op with
  | .shl => 0 ≤ b ∧ K (some (.int k (k.wrap (a * 2 ^ (min b.toNat k.bits)))))
  | .shr => 0 ≤ b ∧ K (some (.int k (a.fdiv (2 ^ (min b.toNat k.bits)))))
  | _ => False

def vcStr (op : BinOp) (a b : List UInt8) (K : Option TV → Prop) : Prop :=
  match op with
  | .add => ((a.length + b.length : Nat) : Int) ≤ 9223372036854775807 ∧ K (some (.str (a ++ b)))
  | .eql => K (some (.bool (decide (a = b))))
  | .neq => K (some (.bool (!decide (a = b))))
  | .lss => K (some (.bool (Op.bytesLess a b)))
  | .leq => K (some (.bool (Op.bytesLess a b || decide (a = b))))
  | .gtr => K (some (.bool (!(Op.bytesLess a b || decide (a = b)))))
  | .geq => K (some (.bool (!Op.bytesLess a b)))
  | _ => False

def vcEq (op : BinOp) (e : Bool) (K : Option TV → Prop) : Prop :=
  match op with
  | .eql => K (some (.bool e))
  | .neq => K (some (.bool (!e)))
  | _ => False

mutual
/-- Whether two values of one plain shape are the same. -/
def TV.eqb : TV → TV → Option Bool
  | .int k a, .int k' b => match k == k' with | true => some (decide (a = b)) | false => none
  | .bool a, .bool b => some (a == b)
  | .str a, .str b => some (decide (a = b))
  | .bytes n a, .bytes m b => match n == m with | true => some (decide (a.l = b.l)) | false => none
  | .words k n a, .words k' m b => match k == k' && n == m with | true => some (decide (a.l = b.l)) | false => none
  | .agg xs, .agg ys => TVs.eqb xs ys
  | _, _ => none
def TVs.eqb : List TV → List TV → Option Bool
  | [], [] => some true
  | [x], [y] => TV.eqb x y
  | x :: xs, y :: ys => match TV.eqb x y, TVs.eqb xs ys with
    | some a, some b => some (a && b)
    | _, _ => none
  | _, _ => none
end

def vcBin (C : Ctx) (op : BinOp) (t : TypeId) (x y : Option TV) (K : Option TV → Prop) : Prop :=
  match x, y with
  | some (.int k a), some (.int k' b) => match op with
    | .shl => vcShift .shl k a b K
    | .shr => vcShift .shr k a b K
    | op => match k == k' with
      | true => vcInt op k a b K
      | false => False
  | some (.str a), some (.str b) => vcStr op a b K
  | some (.bool a), some (.bool b) => match (C.ti t).d with
    | some .bool => vcEq op (a == b) K
    | _ => False
  | some (.ptr a), some (.ptr none) => match (C.ti t).d with
    | some (.pointer _) => vcEq op a.isNone K
    | _ => False
  | some (.ptr none), some (.ptr b) => match (C.ti t).d with
    | some (.pointer _) => vcEq op b.isNone K
    | _ => False
  | some (.slice s), some (.slice ⟨none, 0, 0⟩) => match (C.ti t).d with
    | some (.slice _) => vcEq op s.a.isNone K
    | _ => False
  | some (.map r), some (.map none) => match (C.ti t).d with
    | some (.map _ _) => vcEq op r.isNone K
    | _ => False
  | some (.bytes n a), some (.bytes m b) => match (C.ti t).d, (C.ti t).eqg, n == m with
    | some (.array n' e), false, true => match (C.ti e).d, n' == n with
      | some (.int .u8), true => vcEq op (decide (a.l = b.l)) K
      | _, _ => False
    | _, _, _ => False
  | _, _ => False

section
variable {P : Program}

/-- What an operation that leaves the world alone comes to. -/
def Gives (P : Program) (s : Sem Value) (h : Heap) (v : Value) : Prop := ∀ w : World, w.heap = h → s.run P w = .ok v w

/-- The same in whatever world. -/
def GivesA (P : Program) (s : Sem Value) (v : Value) : Prop := ∀ w : World, s.run P w = .ok v w

theorem beq_dec (a b : Int) : (a == b) = decide (a = b) := by by_cases e : a = b <;> simp [e]

theorem vcInt_sound {op : BinOp} {k : IntKind} {a b : Int} {K : Option TV → Prop} {t : TypeId} (hv : vcInt op k a b K) :
    ∃ r v, K r ∧ Rel r v ∧ GivesA P (binOp op t (.int k a) (.int k b)) v := by
  cases op <;> simp only [vcInt] at hv
  case quo => exact ⟨_, _, hv.2, .some rfl, fun w => by simp [binOp, Op.intDiv, hv.1, TV.val]⟩
  case rem => exact ⟨_, _, hv.2, .some rfl, fun w => by simp [binOp, Op.intDiv, hv.1, TV.val]⟩
  case and => exact ⟨_, _, hv, .some rfl, fun w => by simp [binOp, Op.intBits, TV.val]⟩
  case or => exact ⟨_, _, hv, .some rfl, fun w => by simp [binOp, Op.intBits, TV.val]⟩
  case xor => exact ⟨_, _, hv, .some rfl, fun w => by simp [binOp, Op.intBits, TV.val]⟩
  case andNot => exact ⟨_, _, hv, .some rfl, fun w => by simp [binOp, Op.intBits, TV.val]⟩
  case eql => exact ⟨_, _, hv, .some rfl, fun w => by simp [binOp, Op.intCmp, TV.val, beq_dec]⟩
  case neq => exact ⟨_, _, hv, .some rfl, fun w => by simp [binOp, Op.intCmp, TV.val, bne, beq_dec]⟩
  all_goals exact ⟨_, _, hv, .some rfl, fun w => by simp [binOp, Op.intArith, Op.intCmp, TV.val]⟩

theorem vcShift_sound {op : BinOp} {k yk : IntKind} {a b : Int} {K : Option TV → Prop} {t : TypeId} (hv : vcShift op k a b K) :
    ∃ r v, K r ∧ Rel r v ∧ GivesA P (binOp op t (.int k a) (.int yk b)) v := by
  cases op <;> simp only [vcShift] at hv
  case shl => exact ⟨_, _, hv.2, .some rfl, fun w => by simp [binOp, Op.shift, show ¬ b < 0 by omega, TV.val]⟩
  case shr => exact ⟨_, _, hv.2, .some rfl, fun w => by simp [binOp, Op.shift, show ¬ b < 0 by omega, TV.val]⟩

theorem toList_str (a : List UInt8) : (⟨a.toArray⟩ : ByteArray).toList = a := by
  rw [ByteArray.toList_eq]

theorem beq_list (a b : List UInt8) : (a == b) = decide (a = b) := by by_cases e : a = b <;> simp [e]

theorem vcStr_sound {op : BinOp} {a b : List UInt8} {K : Option TV → Prop} {t : TypeId} (hv : vcStr op a b K) :
    ∃ r v, K r ∧ Rel r v ∧ GivesA P (binOp op t (.string ⟨a.toArray⟩) (.string ⟨b.toArray⟩)) v := by
  cases op <;> simp only [vcStr] at hv
  case add =>
    refine ⟨_, _, hv.2, .some rfl, fun w => ?_⟩
    have h1 := hv.1
    simp only [binOp]
    rw [run_string_add_sum w]
    · simp [TV.val]; rfl
    · simp [ByteArray.size]; omega
  all_goals exact ⟨_, _, hv, .some rfl, fun w => by simp [binOp, Op.stringOp, TV.val, beq_list]⟩

theorem isAgg_run {t : TypeId} {d : TypeDesc} (hu : P.underlying t = some d) (w : World) : (isAgg t).run P w = .ok (isAggD (some d)) w := by
  unfold isAgg
  simp only [Sem.run_bind, run_underlying hu, Result.andThen_ok]
  cases d <;> rfl

theorem part_byte {e : TypeId} (he : P.underlying e = some (.int .u8)) (cs : Array Value) (i : Nat) (v : Value) (hv : cs[i]? = some v) (w : World) : (part e cs i).run P w = .ok v w := by
  unfold part
  simp only [Sem.run_bind, isAgg_run he, Result.andThen_ok, isAggD, hv]
  rfl

theorem equalIn_byte {e : TypeId} (he : P.underlying e = some (.int .u8)) (d : Nat) (a b : Int) (w : World) : (Op.equalIn (d + 1) e (.int .u8 a) (.int .u8 b)).run P w = .ok (decide (a = b)) w := by
  simp only [Op.equalIn, Sem.run_bind, run_underlying he, Result.andThen_ok]
  simp [beq_dec]

theorem eqItems_bytes {e : TypeId} (he : P.underlying e = some (.int .u8)) (hc : P.cellsOf e = 1) (d : Nat) {n : Nat} (a b : Bs n) (w : World) : ∀ (m j : Nat), j + m = n →
    (Op.eqItems (d + 1) e (P.cellsOf e) (a.l.map fun c => Value.int .u8 (c.toNat : Int)).toArray (b.l.map fun c => Value.int .u8 (c.toNat : Int)).toArray (List.range' j m)).run P w = .ok (decide (a.l.drop j = b.l.drop j)) w
  | 0, j, hj => by
    have ha := a.h
    have hb := b.h
    rw [List.drop_of_length_le (by omega), List.drop_of_length_le (by omega)]
    simp [Op.eqItems]
  | m + 1, j, hj => by
    have ha := a.h
    have hb := b.h
    have hja : j < a.l.length := by omega
    have hjb : j < b.l.length := by omega
    simp only [List.range'_succ, Op.eqItems, hc, Nat.mul_one, Sem.run_bind]
    rw [part_byte he _ j (.int .u8 (a.l[j].toNat : Int)) (by simp [hja])]
    simp only [Result.andThen_ok]
    rw [part_byte he _ j (.int .u8 (b.l[j].toNat : Int)) (by simp [hjb])]
    simp only [Result.andThen_ok]
    rw [equalIn_byte he]
    simp only [Result.andThen_ok]
    have ih := eqItems_bytes he hc d a b w m (j + 1) (by omega)
    rw [hc] at ih
    have hd : (a.l.drop j = b.l.drop j) ↔ (a.l[j] = b.l[j] ∧ a.l.drop (j + 1) = b.l.drop (j + 1)) := by
      rw [List.drop_eq_getElem_cons hja, List.drop_eq_getElem_cons hjb, List.cons.injEq]
    by_cases e : a.l[j] = b.l[j]
    · rw [e]
      simp only [decide_true, Bool.not_true, Bool.false_eq_true, if_false]
      rw [ih]
      congr 1
      exact decide_eq_decide.2 ⟨fun h => hd.2 ⟨e, h⟩, fun h => (hd.1 h).2⟩
    · have h1 : ¬ ((a.l[j].toNat : Int) = b.l[j].toNat) := by
        intro h
        apply e
        apply UInt8.toNat_inj.1
        omega
      have h2 : ¬ (a.l.drop j = b.l.drop j) := fun h => e (hd.1 h).1
      rw [decide_eq_false h1, decide_eq_false h2]
      simp

theorem equal_bytes {t e : TypeId} {n : Nat} (ht : P.underlying t = some (.array n e)) (he : P.underlying e = some (.int .u8)) {i : TypeInfo} (hi : P.info? e = some i) (hc : P.cellsOf e = 1) (a b : Bs n) (w : World) :
    (Op.equal t (.agg (a.l.map fun c => Value.int .u8 (c.toNat : Int)).toArray) (.agg (b.l.map fun c => Value.int .u8 (c.toNat : Int)).toArray)).run P w = .ok (decide (a.l = b.l)) w := by
  unfold Op.equal Op.maxDepth
  rw [run_equalIn_array w 9999 _ _ ht hi, List.range_eq_range', eqItems_bytes he hc 9998 a b w n 0 (by omega)]
  simp

theorem vcEq_sound {op : BinOp} {e : Bool} {K : Option TV → Prop} {t : TypeId} {X Y : Value} (hv : vcEq op e K)
    (h1 : binOp .eql t X Y = (do pure (.bool (← Op.equal t X Y)))) (h2 : binOp .neq t X Y = (do pure (.bool (!(← Op.equal t X Y)))))
    (he : ∀ w : World, (Op.equal t X Y).run P w = .ok e w) :
    ∃ r v, K r ∧ Rel r v ∧ GivesA P (binOp op t X Y) v := by
  cases op <;> simp only [vcEq] at hv
  case eql => exact ⟨_, .bool e, hv, .some rfl, fun w => by rw [h1]; simp [he w]⟩
  case neq => exact ⟨_, .bool (!e), hv, .some rfl, fun w => by rw [h2]; simp [he w]⟩

theorem eqIn_bool {t : TypeId} (hu : P.underlying t = some .bool) (d : Nat) (a b : Bool) (w : World) : (Op.equalIn (d + 1) t (.bool a) (.bool b)).run P w = .ok (a == b) w := by
  simp only [Op.equalIn, Sem.run_bind, run_underlying hu, Result.andThen_ok]; rfl
theorem eqIn_ptrL {t e : TypeId} (hu : P.underlying t = some (.pointer e)) (d : Nat) (a : Option Addr) (w : World) : (Op.equalIn (d + 1) t (.pointer a) (.pointer none)).run P w = .ok a.isNone w := by
  simp only [Op.equalIn, Sem.run_bind, run_underlying hu, Result.andThen_ok]; cases a <;> rfl
theorem eqIn_ptrR {t e : TypeId} (hu : P.underlying t = some (.pointer e)) (d : Nat) (a : Option Addr) (w : World) : (Op.equalIn (d + 1) t (.pointer none) (.pointer a)).run P w = .ok a.isNone w := by
  simp only [Op.equalIn, Sem.run_bind, run_underlying hu, Result.andThen_ok]; rfl
theorem eqIn_slice {t e : TypeId} (hu : P.underlying t = some (.slice e)) (d : Nat) (a : Option Addr) (l c : Nat) (w : World) : (Op.equalIn (d + 1) t (.slice a l c) (.slice none 0 0)).run P w = .ok a.isNone w := by
  simp only [Op.equalIn, Sem.run_bind, run_underlying hu, Result.andThen_ok]; cases a <;> rfl
theorem eqIn_map {t k e : TypeId} (hu : P.underlying t = some (.map k e)) (d : Nat) (a : Option Nat) (w : World) : (Op.equalIn (d + 1) t (.map a) (.map none)).run P w = .ok a.isNone w := by
  simp only [Op.equalIn, Sem.run_bind, run_underlying hu, Result.andThen_ok]; cases a <;> rfl

theorem gives_pure {s : Sem Value} {g : Sem Unit} {v : Value} (hg : g = pure ()) (hs : GivesA P s v) : GivesA P (do g; s) v := by
  intro w
  subst hg
  simpa using hs w

theorem vcBin_sound {C : Ctx} (hC : C.Ok) {op : BinOp} {t : TypeId} {x y : Option TV} {K : Option TV → Prop} (hv : vcBin C op t x y K) {X Y : Value} (hx : Rel x X) (hy : Rel y Y) (ox oy : Operand) :
    ∃ r v, K r ∧ Rel r v ∧ GivesA C.P (do eqGuard op t ox oy X Y; binOp op t X Y) v := by
  unfold vcBin at hv
  split at hv
  · rename_i k a k' b
    obtain rfl := hx _ rfl
    obtain rfl := hy _ rfl
    simp only [TV.val]
    have key : ∃ r v, K r ∧ Rel r v ∧ GivesA C.P (binOp op t (.int k a) (.int k' b)) v := by
      split at hv
      · exact vcShift_sound hv
      · exact vcShift_sound hv
      · split at hv
        · rename_i hk
          have hk := beq_iff_eq.1 hk
          subst hk
          exact vcInt_sound hv
        · exact hv.elim
    obtain ⟨r, v, h1, h2, h3⟩ := key
    exact ⟨r, v, h1, h2, gives_pure (eqGuard_at_int ..) h3⟩
  · obtain rfl := hx _ rfl
    obtain rfl := hy _ rfl
    obtain ⟨r, v, h1, h2, h3⟩ := vcStr_sound (P := C.P) (t := t) hv
    exact ⟨r, v, h1, h2, gives_pure (eqGuard_at_string ..) h3⟩
  · obtain rfl := hx _ rfl
    obtain rfl := hy _ rfl
    split at hv
    · rename_i hd
      have hu := hC.d hd
      obtain ⟨r, v, h1, h2, h3⟩ := vcEq_sound (P := C.P) (t := t) (X := (TV.bool _).val) (Y := (TV.bool _).val) hv rfl rfl (fun w => eqIn_bool hu 9999 _ _ w)
      exact ⟨r, v, h1, h2, gives_pure (eqGuard_at_bool ..) h3⟩
    · exact hv.elim
  · obtain rfl := hx _ rfl
    obtain rfl := hy _ rfl
    split at hv
    · rename_i a _ _ hd
      have hu := hC.d hd
      obtain ⟨r, v, h1, h2, h3⟩ := vcEq_sound (P := C.P) (t := t) (X := (TV.ptr a).val) (Y := (TV.ptr none).val) hv rfl rfl (fun w => by rw [← Option.isNone_map (f := Loc.addr)]; exact eqIn_ptrL hu 9999 _ w)
      exact ⟨r, v, h1, h2, gives_pure (eqGuard_at_pointer ..) h3⟩
    · exact hv.elim
  · obtain rfl := hx _ rfl
    obtain rfl := hy _ rfl
    split at hv
    · rename_i b _ _ _ hd
      have hu := hC.d hd
      obtain ⟨r, v, h1, h2, h3⟩ := vcEq_sound (P := C.P) (t := t) (X := (TV.ptr none).val) (Y := (TV.ptr b).val) hv rfl rfl (fun w => by rw [← Option.isNone_map (f := Loc.addr)]; exact eqIn_ptrR hu 9999 _ w)
      exact ⟨r, v, h1, h2, gives_pure (eqGuard_at_pointer ..) h3⟩
    · exact hv.elim
  · obtain rfl := hx _ rfl
    obtain rfl := hy _ rfl
    split at hv
    · rename_i s _ _ hd
      have hu := hC.d hd
      obtain ⟨r, v, h1, h2, h3⟩ := vcEq_sound (P := C.P) (t := t) (X := (TV.slice s).val) (Y := (TV.slice ⟨none, 0, 0⟩).val) hv rfl rfl (fun w => by rw [← Option.isNone_map (f := Loc.addr)]; exact eqIn_slice hu 9999 _ _ _ w)
      exact ⟨r, v, h1, h2, gives_pure (eqGuard_at_slice ..) h3⟩
    · exact hv.elim
  · obtain rfl := hx _ rfl
    obtain rfl := hy _ rfl
    split at hv
    · rename_i r0 _ _ _ hd
      have hu := hC.d hd
      obtain ⟨r, v, h1, h2, h3⟩ := vcEq_sound (P := C.P) (t := t) (X := (TV.map r0).val) (Y := (TV.map none).val) hv rfl rfl (fun w => eqIn_map hu 9999 _ w)
      exact ⟨r, v, h1, h2, gives_pure (eqGuard_at_map ..) h3⟩
    · exact hv.elim
  · rename_i n a m b
    obtain rfl := hx _ rfl
    obtain rfl := hy _ rfl
    split at hv
    · rename_i n' e hd heq hnm
      have hnm := beq_iff_eq.1 hnm
      subst hnm
      split at hv
      · rename_i he hnn
        have hnn := beq_iff_eq.1 hnn
        subst hnn
        have hu := hC.d hd
        have hue := hC.d he
        obtain ⟨i, hi, hsz, _⟩ := hC.info he
        have hl := Ctx.ti_lt (C := C) (t := e) (by simp [he])
        have hc : C.P.cellsOf e = 1 := by
          rcases hC.size e hl with h1 | ⟨h1, _⟩
          · simp [he, isTup] at h1
          · have h2 : (C.ti e).sh = .int .u8 := by rw [hC.tab e hl]; simp [TI.of, shOf, hue]
            rw [h2] at h1
            have h3 : (C.ti e).size = C.P.cellsOf e := by rw [hC.tab e hl]; rfl
            rw [← h3, ← h1]; rfl
        obtain ⟨r, v, h1, h2, h3⟩ := vcEq_sound (P := C.P) (t := t) (X := (TV.bytes _ a).val) (Y := (TV.bytes _ b).val) hv rfl rfl (fun w => by simp only [TV.val]; exact equal_bytes hu hue hi hc a b w)
        refine ⟨r, v, h1, h2, ?_⟩
        intro w
        have hlt := Ctx.ti_lt (C := C) (t := t) (by simp [hd])
        have hg : C.P.eqGuardType C.P.depth t = false := by rw [← heq, hC.tab t hlt]; rfl
        have hgr : (eqGuard op t ox oy (TV.bytes n' a).val (TV.bytes n' b).val).run C.P w = .ok () w := by
          unfold eqGuard
          cases op <;> simp [TV.val, hg]
        rw [Sem.run_bind, hgr]
        exact h3 w
      · exact hv.elim
    · exact hv.elim
  · exact hv.elim

end

end Go.Vc
