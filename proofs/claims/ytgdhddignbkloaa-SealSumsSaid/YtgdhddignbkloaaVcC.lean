/- Conditions for the operations that only reckon or read, continued: structs, loads, places, slices, lengths. -/
import Derived.Test.YtgdhddignbkloaaVcB
import Derived.Laws.IdiomStrings
import Derived.Laws.StructEq
import Derived.Laws.BytesArg
namespace Go.Vc
open Go

def vcUn (op : UnOp) (x : Option TV) (K : Option TV → Prop) : Prop :=
  match op, x with
  | .not, some (.bool b) => K (some (.bool (!b)))
  | .neg, some (.int k n) => K (some (.int k (k.wrap (0 - n))))
  | .xor, some (.int k n) => K (some (.int k (k.wrap (BitVec.ofInt k.bits (if k.signed then -1 else k.max) ^^^ BitVec.ofInt k.bits n).toNat)))
  | _, _ => False

/-- Parts laid into a struct's fields. -/
def setParts : List TV → List (Nat × Option TV) → Option (List TV)
  | zs, [] => some zs
  | zs, (i, some v) :: rest => match zs[i]? with
    | some z => match v.size == z.size with
      | true => setParts (zs.set i v) rest
      | false => none
    | none => none
  | _, (_, none) :: _ => none

def putWord : TV → Nat → TV → Option TV
  | .words k n w, i, .int k' x => match k == k', Nat.blt i n with
    | true, true => some (.words k n (w.set i x))
    | _, _ => none
  | _, _, _ => none

def setWords : TV → List (Nat × Option TV) → Option TV
  | z, [] => some z
  | z, (i, some v) :: rest => match putWord z i v with
    | some z' => setWords z' rest
    | none => none
  | _, (_, none) :: _ => none

def vcBuild (C : Ctx) (t : TypeId) (parts : List (Nat × Option TV)) (K : Option TV → Prop) : Prop :=
  match (C.ti t).d, (C.ti t).z with
  | some (.struct _), .agg zs => match (C.ti t).offs, setParts zs parts with
    | true, some xs => K (some (.agg xs))
    | _, _ => False
  | some (.array _ e), z => match (C.ti e).d with
    | some d => match parts, d with
      | [], _ => K (some z)
      | p :: ps, .int _ => match setWords z (p :: ps) with
        | some z' => K (some z')
        | none => False
      | _, _ => False
    | none => False
  | _, _ => False

def notTuple : Option TypeDesc → Bool
  | some (.tuple _) => false
  | none => false
  | _ => true

def vcLoad (C : Ctx) (t : TypeId) (l : Loc) (h : Heap) (K : Option TV → Prop) : Prop :=
  match notTuple (C.ti t).d with
  | true => Ex (C.ti t).sh fun tv => tv.at h l.b l.o ∧ K (some tv)
  | false => False

/-- The bytes of a slice. -/
def strAt (h : Heap) (s : Sl) (bs : List UInt8) : Prop :=
  bs.length = s.len ∧ ((s.a = none ∧ bs = []) ∨ ∃ l, s.a = some l ∧ ∀ j (hj : j < bs.length), cel h l.b (l.o + j) = some (.int .u8 (bs[j].toNat : Int)))

def vcConv (C : Ctx) (s d : TypeId) (x : Option TV) (h : Heap) (K : Option TV → Prop) : Prop :=
  match (C.ti s).d, (C.ti d).d, x with
  | some (.int _), some (.int k), some (.int _ n) => K (some (.int k (k.wrap n)))
  | some .string, some .string, some (.str s) => K (some (.str s))
  | some (.slice e), some .string, some (.slice s) => match (C.ti e).d with
    | some (.int .u8) => ∃ bs, strAt h s bs ∧ K (some (.str bs))
    | _ => False
  | _, _, _ => False

def vcFieldAddr (C : Ctx) (t : TypeId) (x : Option TV) (f : Nat) (K : Option TV → Prop) : Prop :=
  match x, (C.ti t).d with
  | some (.ptr p), some (.struct fs) => match fs.toList[f]? with
    | some fd => match (C.ti fd.type).d.isSome, Nat.beq (C.ti fd.type).size 0 with
      | true, false => Nn p fun l => K (some (.ptr (some ⟨l.b, l.o + fd.offset⟩)))
      | _, _ => False
    | none => False
  | _, _ => False

def vcField (C : Ctx) (t : TypeId) (x : Option TV) (f : Nat) (K : Option TV → Prop) : Prop :=
  match x, (C.ti t).d, (C.ti t).sh, (C.ti t).offs with
  | some (.agg xs), some (.struct _), .agg ss, true => match TVs.has xs ss, xs[f]? with
    | true, some v => K (some v)
    | _, _ => False
  | _, _, _, _ => False

def vcIndexAddr (C : Ctx) (t : TypeId) (x i : Option TV) (K : Option TV → Prop) : Prop :=
  match x, i, (C.ti t).d with
  | some (.slice s), some (.int _ n), some (.slice e) => match (C.ti e).d.isSome with
    | true => 0 ≤ n ∧ n < (s.len : Int) ∧ Nn s.a fun l => K (some (.ptr (some ⟨l.b, l.o + n.toNat * (C.ti e).size⟩)))
    | false => False
  | some (.ptr p), some (.int _ n), some (.array m e) => match (C.ti e).d.isSome with
    | true => 0 ≤ n ∧ n < (m : Int) ∧ Nn p fun l => K (some (.ptr (some ⟨l.b, l.o + n.toNat * (C.ti e).size⟩)))
    | false => False
  | _, _, _ => False

def vcIndex (C : Ctx) (t : TypeId) (x i : Option TV) (K : Option TV → Prop) : Prop :=
  match x, i, (C.ti t).d with
  | some (.str s), some (.int _ n), some .string => 0 ≤ n ∧ n < (s.length : Int) ∧ K (some (.int .u8 ((s.getD n.toNat 0).toNat : Int)))
  | some (.bytes m b), some (.int _ n), some (.array m' e) => match (C.ti e).d, m == m' with
    | some (.int .u8), true => 0 ≤ n ∧ n < (m : Int) ∧ K (some (.int .u8 ((b.l.getD n.toNat 0).toNat : Int)))
    | _, _ => False
  | some (.words k m b), some (.int _ n), some (.array m' e) => match (C.ti e).d, m == m' with
    | some (.int k'), true => match k == k' with
      | true => 0 ≤ n ∧ n < (m : Int) ∧ K (some (.int k (b.l.getD n.toNat 0)))
      | false => False
    | _, _ => False
  | _, _, _ => False

/-- Bounds of a slice expression: l ≤ h ≤ top. -/
def vcBounds (len top : Nat) (lo hi : Option (Option TV)) (K : Nat → Nat → Prop) : Prop :=
  match lo, hi with
  | none, none => K 0 len
  | some (some (.int _ l)), none => 0 ≤ l ∧ l ≤ (len : Int) ∧ K l.toNat len
  | none, some (some (.int _ u)) => 0 ≤ u ∧ u ≤ (top : Int) ∧ K 0 u.toNat
  | some (some (.int _ l)), some (some (.int _ u)) => 0 ≤ u ∧ u ≤ (top : Int) ∧ 0 ≤ l ∧ l ≤ u ∧ K l.toNat u.toNat
  | _, _ => False

def cutSl (s : Sl) (l u size : Nat) : Sl := ⟨if s.cap = l then s.a else s.a.map fun p => ⟨p.b, p.o + l * size⟩, u - l, s.cap - l⟩

def vcSlice (C : Ctx) (t : TypeId) (x : Option TV) (lo hi : Option (Option TV)) (K : Option TV → Prop) : Prop :=
  match x, (C.ti t).d with
  | some (.str s), some .string => vcBounds s.length s.length lo hi fun l u => K (some (.str ((s.drop l).take (u - l))))
  | some (.slice s), some (.slice e) => match (C.ti e).d.isSome with
    | true => vcBounds s.len s.cap lo hi fun l u => K (some (.slice (cutSl s l u (C.ti e).size)))
    | false => False
  | some (.ptr p), some (.array n e) => match (C.ti e).d.isSome with
    | true => Nn p fun q => vcBounds n n lo hi fun l u => K (some (.slice (cutSl ⟨some q, n, n⟩ l u (C.ti e).size)))
    | false => False
  | _, _ => False

/-- s[l:u:m]. -/
def vcSlice3 (C : Ctx) (t : TypeId) (x : Option TV) (lo hi : Option (Option TV)) (mx : Option TV) (K : Option TV → Prop) : Prop :=
  match x, (C.ti t).d, hi, mx with
  | some (.slice s), some (.slice e), some (some (.int _ u)), some (.int _ m) => match (C.ti e).d.isSome with
    | true => 0 ≤ m ∧ m ≤ (s.cap : Int) ∧ 0 ≤ u ∧ u ≤ m ∧ match lo with
      | none => K (some (.slice (cutSl ⟨s.a, s.len, m.toNat⟩ 0 u.toNat (C.ti e).size)))
      | some (some (.int _ l)) => 0 ≤ l ∧ l ≤ u ∧ K (some (.slice (cutSl ⟨s.a, s.len, m.toNat⟩ l.toNat u.toNat (C.ti e).size)))
      | some _ => False
    | false => False
  | _, _, _, _ => False

def mn (a b : Int) : Int := if b < a then b else a
def mx (a b : Int) : Int := if a < b then b else a

def allKnown : List (Option TV) → Option (List TV)
  | [] => some []
  | some x :: xs => match allKnown xs with
    | some ys => some (x :: ys)
    | none => none
  | none :: _ => none

def vcBuiltinR (C : Ctx) (b : Builtin) (ts : List TypeId) (xs : List (Option TV)) (K : Option TV → Prop) : Prop :=
  match b, ts, xs with
  | .len, [t], [some (.slice s)] => match (C.ti t).d with
    | some (.slice _) => K (some (.int .i64 (s.len : Int)))
    | _ => False
  | .len, [t], [some (.str s)] => match (C.ti t).d with
    | some .string => K (some (.int .i64 (s.length : Int)))
    | _ => False
  | .len, [t], [_] => match (C.ti t).d with
    | some (.array n _) => K (some (.int .i64 (n : Int)))
    | _ => False
  | .cap, [t], [some (.slice s)] => match (C.ti t).d with
    | some (.slice _) => K (some (.int .i64 (s.cap : Int)))
    | _ => False
  | .min, _, [some (.int k a), some (.int k' b)] => match k == k' with
    | true => K (some (.int k (mn a b)))
    | false => False
  | .max, _, [some (.int k a), some (.int k' b)] => match k == k' with
    | true => K (some (.int k (mx a b)))
    | false => False
  | _, _, _ => False

/-! ### Interface values -/

/-- A value is packed with its type. -/
def vcPack (C : Ctx) (t : TypeId) (x : Option TV) (K : Option TV → Prop) : Prop :=
  match (C.ti t).d, x with
  | some (.interface _), _ => False
  | some _, some tv => K (some (.one ⟨.iface t tv.val, rfl⟩))
  | _, _ => False

/-- What is packed is taken out again. -/
def vcUnpack (C : Ctx) (x : Option TV) (t : TypeId) (ok : Bool) (K : Option TV → Prop) : Prop :=
  match (C.ti t).d, x with
  | some (.interface _), _ => False
  | some _, some (.one o) => Ex (C.ti t).sh fun tv => o.v = .iface t tv.val ∧ K (some (match ok with | true => .tup [tv, .bool true] | false => tv))
  | _, _ => False

/-! ### Maps -/

/-- A map in memory: keys, values, births, in the order of their coming; the clock. -/
def mapO (es : List (TV × TV × Nat)) (c : Nat) : Obj := .map (es.map fun e => ({ key := e.1.val, val := e.2.1.val, born := e.2.2 } : MapEntry)).toArray c

def keyLike : TypeDesc → TV → Bool
  | .int k, .int k' _ => k' == k
  | .string, .str _ => true
  | _, _ => false

def keyEq : TV → TV → Bool
  | .int _ a, .int _ b => decide (a = b)
  | .str a, .str b => decide (a = b)
  | _, _ => false

def findE (k : TV) : List (TV × TV × Nat) → Option TV
  | [] => none
  | e :: es => if keyEq k e.1 = true then some e.2.1 else findE k es

def orE (o : Option TV) (z : TV) : TV := o.getD z
def hasE (k : TV) (es : List (TV × TV × Nat)) : Bool := (findE k es).isSome

def putE (k v : TV) (c : Nat) : List (TV × TV × Nat) → List (TV × TV × Nat)
  | [] => [(k, v, c)]
  | e :: es => if keyEq k e.1 = true then (e.1, v, e.2.2) :: es else e :: putE k v c es

def dropE (k : TV) : List (TV × TV × Nat) → List (TV × TV × Nat)
  | [] => []
  | e :: es => if keyEq k e.1 = true then es else e :: dropE k es

def clockE (k : TV) (c : Nat) (es : List (TV × TV × Nat)) : Nat := match findE k es with
  | some _ => c
  | none => c + 1

/-- What a map is, the nil one too. -/
def MapAt (h : Heap) (p : Option Nat) (F : List (TV × TV × Nat) → Nat → Prop) : Prop := match p with
  | none => F [] 0
  | some r => ∃ es c, h[r]? = some (mapO es c) ∧ F es c

def AllLike (d : TypeDesc) (es : List (TV × TV × Nat)) : Prop := ∀ e ∈ es, keyLike d e.1 = true

def lookRes (ok : Bool) (tv : TV) (s : Bool) : TV := match ok with
  | true => .tup [tv, .bool s]
  | false => tv

def vcLookup (C : Ctx) (t : TypeId) (m k : Option TV) (ok : Bool) (h : Heap) (K : Option TV → Prop) : Prop :=
  match (C.ti t).d, m, k with
  | some (.map kt et), some (.map p), some kv => match (C.ti kt).d, notTuple (C.ti et).d with
    | some d, true => match keyLike d kv with
      | true => MapAt h p fun es _ => AllLike d es ∧ Ex (C.ti et).sh fun tv => orE (findE kv es) (C.ti et).z = tv ∧ K (some (lookRes ok tv (hasE kv es)))
      | false => False
    | _, _ => False
  | _, _, _ => False

def vcMapLen (C : Ctx) (ts : List TypeId) (p : Option Nat) (h : Heap) (K : Option TV → Prop) : Prop :=
  match ts with
  | [t] => match (C.ti t).d with
    | some (.map _ _) => MapAt h p fun es _ => K (some (.int .i64 (es.length : Int)))
    | _ => False
  | _ => False

/-- A result known by its type alone. -/
def vcExtract (C : Ctx) (t : TypeId) (x : TV) (K : Option TV → Prop) : Prop := match x with
  | .one a => match (C.ti t).sh with
    | .one => K (some (.one a))
    | s => Ex s fun tv => tv.val = a.v ∧ K (some tv)
  | v => K (some v)

/-! ### Structs that are compared -/

def eqLeaf (C : Ctx) (t : TypeId) (x y : TV) : Option Bool :=
  match x, y with
  | .int k a, .int k' b => match (C.ti t).d, k == k' with
    | some (.int _), true => some (decide (a = b))
    | _, _ => none
  | .str a, .str b => match (C.ti t).d with
    | some .string => some (decide (a = b))
    | _ => none
  | .bool a, .bool b => match (C.ti t).d with
    | some .bool => some (a == b)
    | _ => none
  | .bytes n a, .bytes m b => match (C.ti t).d, n == m with
    | some (.array n' e), true => match (C.ti e).d, n' == n with
      | some (.int .u8), true => some (decide (a.l = b.l))
      | _, _ => none
    | _, _ => none
  | _, _ => none

def andO : Option Bool → Option Bool → Option Bool
  | some a, some b => some (a && b)
  | _, _ => none

def eqAgg (C : Ctx) : List Field → List TV → List TV → Option Bool
  | [], [], [] => some true
  | f :: fs, x :: xs, y :: ys => match f.name == "_" with
    | true => none
    | false => andO (eqLeaf C f.type x y) (eqAgg C fs xs ys)
  | _, _, _ => none

def vcBinA (C : Ctx) (op : BinOp) (t : TypeId) (x y : Option TV) (K : Option TV → Prop) : Prop :=
  match x, y with
  | some (.agg xs), some (.agg ys) => match (C.ti t).d, (C.ti t).sh, (C.ti t).offs, (C.ti t).eqg, (C.ti t).held with
    | some (.struct fs), .agg ss, true, false, false => match TVs.has xs ss, TVs.has ys ss, eqAgg C fs.toList xs ys with
      | true, true, some b => vcEq op b K
      | _, _, _ => False
    | _, _, _, _, _ => False
  | _, _ => vcBin C op t x y K

/-- Operations that leave the world alone. -/
def vcR (C : Ctx) (o : Oper) (ρ : Operand → Option TV) (h : Heap) (K : Option TV → Prop) : Prop :=
  match o.op with
  | .move x => K (ρ x)
  | .assign x => K (ρ x)
  | .pick c a b => match ρ c with
    | some (.bool true) => K (ρ a)
    | some (.bool false) => K (ρ b)
    | _ => False
  | .build t parts => vcBuild C t (parts.toList.map fun p => (p.1, ρ p.2)) K
  | .load t a => match ρ a with
    | some (.ptr p) => Nn p fun l => vcLoad C t l h K
    | _ => False
  | .nilCheck x => match ρ x with
    | some (.ptr p) => Nn p fun l => K (some (.ptr (some l)))
    | some (.fn (.func g) a b) => K (some (.fn (.func g) a b))
    | _ => False
  | .binOp op t x y _ => vcBinA C op t (ρ x) (ρ y) K
  | .unOp op _ x => vcUn op (ρ x) K
  | .convert s d x => vcConv C s d (ρ x) h K
  | .fieldAddr t x f => vcFieldAddr C t (ρ x) f K
  | .field t x f => vcField C t (ρ x) f K
  | .indexAddr t x i => vcIndexAddr C t (ρ x) (ρ i) K
  | .index t x i => vcIndex C t (ρ x) (ρ i) K
  | .extract x i => match ρ x with
    | some (.tup xs) => match xs[i]? with
      | some v => vcExtract C o.type v K
      | none => False
    | _ => False
  | .lookup t m k ok => vcLookup C t (ρ m) (ρ k) ok h K
  | .makeInterface t x => vcPack C t (ρ x) K
  | .typeAssert x _ t ok => vcUnpack C (ρ x) t ok K
  | .slice t x lo hi none => vcSlice C t (ρ x) (lo.map ρ) (hi.map ρ) K
  | .slice t x lo hi (some m) => vcSlice3 C t (ρ x) (lo.map ρ) (hi.map ρ) (ρ m) K
  | .makeFunc f first cap => match allKnown (first.toList.map ρ), allKnown (cap.toList.map ρ) with
    | some a, some b => K (some (.fn f a b))
    | _, _ => False
  | .call c => match c.callee with
    | .builtin b => match b, c.args.toList.map ρ with
      | .len, [some (.map p)] => vcMapLen C c.argTypes.toList p h K
      | _, _ => vcBuiltinR C b c.argTypes.toList (c.args.toList.map ρ) K
    | _ => False
  | _ => False

section
variable {P : Program} {C : Ctx} {h : Heap} {K : Option TV → Prop}

theorem vcUn_sound {op : UnOp} {x : Option TV} {X : Value} (hv : vcUn op x K) (hx : Rel x X) : ∃ r v, K r ∧ Rel r v ∧ GivesA P (Op.unary op X) v := by
  unfold vcUn at hv
  split at hv
  · obtain rfl := hx _ rfl; exact ⟨_, _, hv, .some rfl, fun w => rfl⟩
  · obtain rfl := hx _ rfl; exact ⟨_, _, hv, .some rfl, fun w => rfl⟩
  · obtain rfl := hx _ rfl; exact ⟨_, _, hv, .some rfl, fun w => rfl⟩
  · exact hv.elim

theorem isAgg_of {t : TypeId} {tv : TV} (hC : C.Ok) (hn : notTuple (C.ti t).d = true) (hs : tv.has (C.ti t).sh = true) :
    (isAggD (C.ti t).d = true ∧ tv.val = .agg tv.cells.toArray ∨ isAggD (C.ti t).d = false ∧ tv.cells = [tv.val] ∧ tv.size = 1) := by
  have hd : (C.ti t).d.isSome = true := by
    cases hh : (C.ti t).d with
    | none => rw [hh] at hn; cases hn
    | some _ => rfl
  have hl := Ctx.ti_lt hd
  rw [hC.tab t hl] at *
  simp only [TI.of] at *
  revert hs
  unfold shOf
  cases hu : C.P.underlying t with
  | none => rw [hu] at hd; cases hd
  | some d =>
    rw [hu] at hn
    cases d <;> dsimp only <;> intro hs
    case tuple => cases hn
    case array n e =>
      left
      refine ⟨rfl, ?_⟩
      cases tv <;> first | rfl | (exfalso; revert hs; split <;> simp [TV.has])
    case struct fs =>
      left
      refine ⟨rfl, ?_⟩
      cases tv <;> first | rfl | simp [TV.has] at hs
    all_goals
      right
      refine ⟨rfl, ?_⟩
      cases tv <;> first | exact ⟨rfl, rfl⟩ | simp [TV.has] at hs

theorem at_cells {tv : TV} {w : World} {l : Loc} (ha : tv.at w.heap l.b l.o) : ∀ j v, tv.cells[j]? = some v → w.cell? (l.addr.add j) = some v := by
  intro j v hj
  have hlt : j < tv.cells.length := (List.getElem?_eq_some_iff.1 hj).1
  have := (TV.at_iff w.heap l.b tv l.o).1 ha j (by rw [← TV.cells_length]; exact hlt)
  rw [← hj, ← this, ← cell?_eq]
  congr 1
  cases j <;> simp [Loc.addr, Addr.add]

theorem load_run (hC : C.Ok) {t : TypeId} {l : Loc} {tv : TV} (hn : notTuple (C.ti t).d = true) (hs : tv.has (C.ti t).sh = true) {w : World} (ha : tv.at w.heap l.b l.o) :
    (Instr.loadAt t (.pointer (some l.addr))).run C.P w = .ok tv.val w := by
  have hd : (C.ti t).d.isSome = true := by
    cases hh : (C.ti t).d with
    | none => rw [hh] at hn; cases hn
    | some _ => rfl
  obtain ⟨d, hd'⟩ := Option.isSome_iff_exists.1 hd
  have hu := hC.d hd'
  obtain ⟨i, hi, hsz, _⟩ := hC.info hd'
  have hsize : tv.size = i.size := by
    rw [hsz, TV.has_size _ _ hs]
    rcases hC.size t (Ctx.ti_lt hd) with h1 | h1
    · rw [hd'] at h1 hn; cases d <;> simp [notTuple, isTup] at h1 hn
    · exact h1.1
  have hA := isAgg_of hC hn hs
  rw [hd'] at hA
  unfold Instr.loadAt loadVar
  simp only [Instr.sureAddr, Sem.run_bind, Sem.run_pure, Result.andThen_ok, isAgg_run hu]
  rcases hA with ⟨h1, h2⟩ | ⟨h1, h2, h3⟩
  · have hc : C.P.cellsOf t = tv.cells.length := by rw [TV.cells_length, hsize]; simp [Program.cellsOf, hi]
    rw [h1]
    simp only [if_true, Sem.run_bind, run_sizeOf w hi, Result.andThen_ok, hc]
    rw [run_loadCells_list w l.addr tv.cells (at_cells ha)]
    simp [h2]
  · rw [h1]
    simp only [Bool.false_eq_true, if_false]
    have := at_cells ha 0 tv.val (by rw [h2]; rfl)
    simp only [Addr.add, if_true] at this
    simp [load, Sem.run, this]

theorem vcLoad_sound (hC : C.Ok) {t : TypeId} {l : Loc} (hv : vcLoad C t l h K) : ∃ r v, K r ∧ Rel r v ∧ Gives C.P (Instr.loadAt t (.pointer (some l.addr))) h v := by
  unfold vcLoad at hv
  split at hv
  · rename_i hn
    obtain ⟨tv, hs, ha, hk⟩ := ex_iff _ _ hv
    exact ⟨some tv, tv.val, hk, .some rfl, fun w hw => load_run hC hn hs (by rw [hw]; exact ha)⟩
  · exact hv.elim

theorem vcConv_sound (hC : C.Ok) {s d : TypeId} {x : Option TV} {X : Value} (hv : vcConv C s d x h K) (hx : Rel x X) : ∃ r v, K r ∧ Rel r v ∧ ∀ w : World, (∀ b o v, cel h b o = some v → cel w.heap b o = some v) → (convert s d X).run C.P w = .ok v w := by
  unfold vcConv at hv
  split at hv
  · rename_i h1 h2 
    obtain rfl := hx _ rfl
    refine ⟨_, _, hv, .some rfl, fun w _ => ?_⟩
    unfold convert
    simp only [Sem.run_bind, run_underlying (hC.d h1), run_underlying (hC.d h2), Result.andThen_ok, TV.val]
    rfl
  · rename_i h1 h2
    obtain rfl := hx _ rfl
    refine ⟨_, _, hv, .some rfl, fun w _ => ?_⟩
    unfold convert
    simp only [Sem.run_bind, run_underlying (hC.d h1), run_underlying (hC.d h2), Result.andThen_ok, TV.val]
    rfl
  · rename_i e0 sl h1 h2
    obtain rfl := hx _ rfl
    split at hv
    · rename_i he
      obtain ⟨bs, ⟨hl, hs⟩, hk⟩ := hv
      refine ⟨_, _, hk, .some rfl, fun w hw => ?_⟩
      obtain ⟨a, len, cap⟩ := sl
      dsimp only at hl hs
      rcases hs with ⟨rfl, rfl⟩ | ⟨l, rfl, hc⟩
      · have := run_convert_bytes_nil (P := C.P) w _ _ (hC.d h1) (hC.d he) len cap _ (hC.d h2)
        exact this
      · subst hl
        have := run_convert_bytes_back (P := C.P) w _ _ _ l.addr cap bs (hC.d h1) (hC.d he) (hC.d h2) (fun j hj => by
          have := hw _ _ _ (hc j hj)
          rw [← cell?_eq] at this
          rw [← this]
          congr 1
          cases j <;> simp [Loc.addr, Addr.add])
        simpa [TV.val, slVal] using this
    · exact hv.elim
  · exact hv.elim

theorem elim_some {α : Type} {p : Option α} {K : α → Prop} (h : Nn p K) : ∃ l, p = some l ∧ K l := by
  cases p with
  | none => exact h.elim
  | some l => exact ⟨l, rfl, h⟩

theorem addr_add (l : Loc) (n : Nat) : l.addr.add n = (⟨l.b, l.o + n⟩ : Loc).addr := by
  cases n <;> simp [Loc.addr, Addr.add]

theorem vcFieldAddr_sound (hC : C.Ok) {t : TypeId} {x : Option TV} {X : Value} {f : Nat} (hv : vcFieldAddr C t x f K) (hx : Rel x X) : ∃ r v, K r ∧ Rel r v ∧ GivesA C.P (Instr.fieldAt t X f) v := by
  unfold vcFieldAddr at hv
  split at hv
  · rename_i p fs hd
    obtain rfl := hx _ rfl
    split at hv
    · rename_i fd hf
      split at hv
      · rename_i h1 h2
        obtain ⟨l, rfl, hk⟩ := elim_some hv
        refine ⟨_, _, hk, .some rfl, fun w => ?_⟩
        obtain ⟨d', hd'⟩ := Option.isSome_iff_exists.1 h1
        obtain ⟨i, hi, hsz, _⟩ := hC.info hd'
        have hne : ¬ C.P.cellsOf fd.type = 0 := by
          intro e
          have : (C.ti fd.type).size = 0 := by rw [← hsz]; simpa [Program.cellsOf, hi] using e
          rw [this] at h2; cases h2
        unfold Instr.fieldAt
        simp only [Sem.run_bind, run_underlying (hC.d hd), Result.andThen_ok]
        have hf' : fs[f]? = some fd := by simpa using hf
        simp only [hf', Instr.sureAddr, TV.val, Option.map_some, Sem.run_bind, Sem.run_pure, Result.andThen_ok, fieldPlace, run_sizeOf w hi, hne, if_false, addr_add]
      · exact hv.elim
    · exact hv.elim
  · exact hv.elim

theorem vcIndexAddr_sound (hC : C.Ok) {t : TypeId} {x y : Option TV} {X Y : Value} (hv : vcIndexAddr C t x y K) (hx : Rel x X) (hy : Rel y Y) : ∃ r v, K r ∧ Rel r v ∧ GivesA C.P (Instr.indexAt t X Y) v := by
  unfold vcIndexAddr at hv
  split at hv
  · rename_i s k n e hd
    obtain rfl := hx _ rfl
    obtain rfl := hy _ rfl
    split at hv
    · rename_i he
      obtain ⟨h0, h1, hk⟩ := hv
      obtain ⟨l, hl, hk⟩ := elim_some hk
      obtain ⟨d', hd'⟩ := Option.isSome_iff_exists.1 he
      obtain ⟨i, hi, hsz, _⟩ := hC.info hd'
      have hc : C.P.cellsOf e = (C.ti e).size := by rw [← hsz]; simp [Program.cellsOf, hi]
      refine ⟨_, _, hk, .some rfl, fun w => ?_⟩
      unfold Instr.indexAt
      simp only [TV.val, slVal, hl, Option.map_some, asIntOf, Sem.run_bind, Sem.run_pure, Result.andThen_ok, run_underlying (hC.d hd), h0, h1, and_self, if_true, run_sizeOf w hi, hc, addr_add]
    · exact hv.elim
  · rename_i p k n m e hd
    obtain rfl := hx _ rfl
    obtain rfl := hy _ rfl
    split at hv
    · rename_i he
      obtain ⟨h0, h1, hk⟩ := hv
      obtain ⟨l, rfl, hk⟩ := elim_some hk
      obtain ⟨d', hd'⟩ := Option.isSome_iff_exists.1 he
      obtain ⟨i, hi, hsz, _⟩ := hC.info hd'
      have hc : C.P.cellsOf e = (C.ti e).size := by rw [← hsz]; simp [Program.cellsOf, hi]
      refine ⟨_, _, hk, .some rfl, fun w => ?_⟩
      unfold Instr.indexAt
      simp only [TV.val, Instr.sureAddr, Option.map_some, asIntOf, Sem.run_bind, Sem.run_pure, Result.andThen_ok, run_underlying (hC.d hd), h0, h1, and_self, if_true, run_sizeOf w hi, hc, addr_add]
    · exact hv.elim
  · exact hv.elim

def shAgg : Sh → Bool
  | .bytes _ | .words _ _ | .agg _ => true
  | _ => false
def tvAgg : TV → Bool
  | .bytes _ _ | .words _ _ _ | .agg _ => true
  | _ => false

theorem has_agg {v : TV} {s : Sh} (h : v.has s = true) : tvAgg v = shAgg s := by
  cases v <;> cases s <;> simp_all [TV.has, tvAgg, shAgg]

theorem tvAgg_val {v : TV} : (tvAgg v = true → v.val = .agg v.cells.toArray) ∧ (tvAgg v = false → v.cells = [v.val] ∧ v.size = 1) := by
  cases v <;> simp [tvAgg, TV.val, TV.cells, TV.size]

theorem offs_part : ∀ (ss : List Sh) (fs : List Field) (n : Nat) (xs : List TV) (i : Nat) (v : TV), offsOk P ss fs n = true → TVs.has xs ss = true → xs[i]? = some v →
    ∃ fd, fs[i]? = some fd ∧ fd.offset = n + TVs.size (xs.take i) ∧ isAggD (P.underlying fd.type) = tvAgg v ∧ P.cellsOf fd.type = v.size ∧ (P.underlying fd.type).isSome = true
  | [], [], n, xs, i, v, _, hh, hi => by
    cases xs with
    | nil => simp at hi
    | cons x xs => simp [TVs.has] at hh
  | s :: ss, f :: fs, n, xs, i, v, ho, hh, hi => by
    cases xs with
    | nil => simp at hi
    | cons x xs =>
      simp only [TVs.has, Bool.and_eq_true] at hh
      simp only [offsOk, Bool.and_eq_true, beq_iff_eq] at ho
      obtain ⟨⟨⟨⟨h1, h2⟩, h3⟩, h3'⟩, h4⟩ := ho
      cases i with
      | zero =>
        simp only [List.getElem?_cons_zero, Option.some.injEq] at hi
        subst hi
        refine ⟨f, rfl, by simp [TVs.size, h1], ?_, ?_, h3'⟩
        · rw [has_agg hh.1, ← h3]; cases s <;> rfl
        · rw [← h2, TV.has_size _ _ hh.1]
      | succ i =>
        simp only [List.getElem?_cons_succ] at hi
        obtain ⟨fd, e1, e2, e3⟩ := offs_part ss fs _ xs i v h4 hh.2 hi
        refine ⟨fd, by simpa using e1, ?_, e3⟩
        rw [e2, List.take_succ_cons, TVs.size, TV.has_size _ _ hh.1]
        omega
  | [], _ :: _, n, xs, i, v, ho, hh, hi => by simp [offsOk] at ho
  | _ :: _, [], n, xs, i, v, ho, hh, hi => by simp [offsOk] at ho

theorem cells_take : ∀ (xs : List TV) (i : Nat) (v : TV), xs[i]? = some v → (TVs.cells xs).drop (TVs.size (xs.take i)) = v.cells ++ TVs.cells (xs.drop (i + 1))
  | [], i, v, h => by simp at h
  | x :: xs, 0, v, h => by
    simp only [List.getElem?_cons_zero, Option.some.injEq] at h
    subst h
    simp [TVs.size, TVs.cells]
  | x :: xs, i + 1, v, h => by
    simp only [List.getElem?_cons_succ] at h
    simp only [List.take_succ_cons, TVs.size, TVs.cells, List.drop_succ_cons]
    rw [← TV.cells_length x, List.drop_append, List.drop_of_length_le (by omega), List.nil_append]
    rw [show x.cells.length + TVs.size (List.take i xs) - x.cells.length = TVs.size (List.take i xs) by omega]
    exact cells_take xs i v h

/-- A field's cells, among a struct's. -/
theorem part_at {ss : List Sh} {fs : List Field} {xs : List TV} {f : Nat} {v : TV} (hoff' : offsOk C.P ss fs 0 = true) (hhas : TVs.has xs ss = true) (hf : xs[f]? = some v) :
    ∃ fd, fs[f]? = some fd ∧ ∀ w : World, (part fd.type (TVs.cells xs).toArray fd.offset).run C.P w = .ok v.val w := by
  obtain ⟨fd, h1, h2, h3, h4, h5⟩ := offs_part ss fs 0 xs f v hoff' hhas hf
  refine ⟨fd, h1, fun w => ?_⟩
  obtain ⟨d', hd'⟩ := Option.isSome_iff_exists.1 h5
  have hct := cells_take xs f v hf
  unfold part
  simp only [Sem.run_bind, isAgg_run hd', Result.andThen_ok]
  rw [hd'] at h3
  rw [h3]
  cases hta : tvAgg v with
  | true =>
    obtain ⟨i, hi⟩ : ∃ i, C.P.info? fd.type = some i := by
      cases hh : C.P.info? fd.type with
      | none => simp [Program.underlying, hh] at hd'
      | some i => exact ⟨i, rfl⟩
    simp only [if_true, Sem.run_bind, run_sizeOf w hi, Result.andThen_ok, Sem.run_pure]
    rw [tvAgg_val.1 hta]
    congr 2
    rw [h2, h4, Nat.zero_add]
    apply Array.toList_inj.1
    simp only [Array.toList_extract, List.extract_eq_take_drop]
    rw [hct, show TVs.size (List.take f xs) + v.size - TVs.size (List.take f xs) = v.cells.length by rw [TV.cells_length]; omega]
    simp
  | false =>
    obtain ⟨e1, e2⟩ := tvAgg_val.2 hta
    have : (TVs.cells xs)[fd.offset]? = some v.val := by
      rw [h2, Nat.zero_add]
      have := congrArg (fun l => l[0]?) hct
      simp only [List.getElem?_drop, Nat.add_zero, e1] at this
      rw [this]; rfl
    simp [this]

theorem vcField_sound (hC : C.Ok) {t : TypeId} {x : Option TV} {X : Value} {f : Nat} (hv : vcField C t x f K) (hx : Rel x X) : ∃ r v, K r ∧ Rel r v ∧ GivesA C.P (Instr.field t X f) v := by
  unfold vcField at hv
  split at hv
  · rename_i xs fs ss hd hsh hoff
    obtain rfl := hx _ rfl
    split at hv
    · rename_i v hhas hf
      refine ⟨_, _, hv, .some rfl, fun w => ?_⟩
      have hlt := Ctx.ti_lt (C := C) (t := t) (by simp [hd])
      have hu := hC.d hd
      have hoff' : offsOk C.P ss fs.toList 0 = true := by
        rw [hC.tab t hlt] at hoff hsh
        simp only [TI.of, hu] at hoff hsh
        rw [hsh] at hoff
        exact hoff
      obtain ⟨fd, h1, hp⟩ := part_at (C := C) hoff' hhas hf
      have h1' : fs[f]? = some fd := by simpa using h1
      unfold Instr.field
      simp only [Sem.run_bind, run_underlying hu, Result.andThen_ok, h1', asAgg, TV.val, Sem.run_pure]
      exact hp w
    · exact hv.elim
  · exact hv.elim

theorem eqLeaf_sound (hC : C.Ok) {t : TypeId} {x y : TV} {b : Bool} (h : eqLeaf C t x y = some b) (d : Nat) (w : World) : (Op.equalIn (d + 2) t x.val y.val).run C.P w = .ok b w := by
  unfold eqLeaf at h
  split at h
  · split at h
    · rename_i k a k' b' _ _ hd hk
      have hk := beq_iff_eq.1 hk
      subst hk
      cases h
      simp only [Op.equalIn, TV.val, Sem.run_bind, run_underlying (hC.d hd), Result.andThen_ok]
      simp [beq_dec]
    · cases h
  · split at h
    · rename_i a b' _ hd
      cases h
      simp only [Op.equalIn, TV.val, Sem.run_bind, run_underlying (hC.d hd), Result.andThen_ok]
      rw [beq_toListBytes, toList_str, toList_str, beq_list]
      rfl
    · cases h
  · split at h
    · rename_i a b' _ hd
      cases h
      exact eqIn_bool (hC.d hd) _ _ _ w
    · cases h
  · split at h
    · rename_i n a m b' _ _ n' e hd hnm
      have hnm := beq_iff_eq.1 hnm
      subst hnm
      split at h
      · rename_i _ _ he hnn
        have hnn := beq_iff_eq.1 hnn
        subst hnn
        cases h
        have hu := hC.d hd
        have hue := hC.d he
        obtain ⟨i, hi, hsz, _⟩ := hC.info he
        have hl := Ctx.ti_lt (C := C) (t := e) (by simp [he])
        have hc : C.P.cellsOf e = 1 := by
          rcases hC.size e hl with h1 | ⟨h1, _⟩
          · simp [he, isTup] at h1
          · have h2 : (C.ti e).sh = .int .u8 := by rw [hC.tab e hl]; simp [TI.of, shOf, hue]
            rw [h2] at h1
            have h3 : (C.ti e).size = C.P.cellsOf e := by rw [hC.tab e hl]; rfl
            rw [← h3, ← h1]; rfl
        simp only [TV.val]
        rw [run_equalIn_array w (d + 1) _ _ hu hi, List.range_eq_range', eqItems_bytes hue hc d a b' w n' 0 (by omega)]
        simp
      · cases h
    · cases h
  · cases h

theorem eqAgg_sound (hC : C.Ok) (d : Nat) (w : World) (X Y : Array Value) : ∀ (fs : List Field) (xs ys : List TV) (b : Bool), eqAgg C fs xs ys = some b →
    (∀ (j : Nat) (fd : Field) (x : TV), fs[j]? = some fd → xs[j]? = some x → (part fd.type X fd.offset).run C.P w = .ok x.val w) →
    (∀ (j : Nat) (fd : Field) (y : TV), fs[j]? = some fd → ys[j]? = some y → (part fd.type Y fd.offset).run C.P w = .ok y.val w) →
    (Op.eqFields (d + 2) X Y fs).run C.P w = .ok b w
  | [], xs, ys, b, h, _, _ => by
    cases xs <;> cases ys <;> simp [eqAgg] at h
    subst h; rfl
  | f :: fs, [], ys, b, h, _, _ => by cases ys <;> simp [eqAgg] at h
  | f :: fs, x :: xs, [], b, h, _, _ => by simp [eqAgg] at h
  | f :: fs, x :: xs, y :: ys, b, h, h1, h2 => by
    unfold eqAgg at h
    split at h
    · cases h
    · rename_i hn
      have hn : f.name ≠ "_" := by simpa using hn
      cases ha : eqLeaf C f.type x y with
      | none => rw [ha] at h; simp [andO] at h
      | some a =>
        cases hb : eqAgg C fs xs ys with
        | none => rw [ha, hb] at h; simp [andO] at h
        | some b' =>
          rw [ha, hb] at h
          simp only [andO, Option.some.injEq] at h
          subst h
          unfold Op.eqFields
          have e1 := h1 0 f x rfl rfl
          have e2 := h2 0 f y rfl rfl
          have e3 := eqLeaf_sound hC ha d w
          have e4 := eqAgg_sound hC d w X Y fs xs ys b' hb (fun j fd x hj hx => h1 (j + 1) fd x hj hx) (fun j fd y hj hy => h2 (j + 1) fd y hj hy)
          simp only [hn, ne_eq, not_false_eq_true, if_true, Sem.run_bind, e1, e2, Result.andThen_ok, e3]
          cases a
          · simp
          · simp [e4]

theorem vcBinA_sound (hC : C.Ok) {op : BinOp} {t : TypeId} {x y : Option TV} {K : Option TV → Prop} (hv : vcBinA C op t x y K) {X Y : Value} (hx : Rel x X) (hy : Rel y Y) (ox oy : Operand) :
    ∃ r v, K r ∧ Rel r v ∧ GivesA C.P (do eqGuard op t ox oy X Y; binOp op t X Y) v := by
  unfold vcBinA at hv
  split at hv
  · rename_i xs ys
    obtain rfl := hx _ rfl
    obtain rfl := hy _ rfl
    split at hv
    · rename_i fs ss hd hsh hoff heq hheld
      split at hv
      · rename_i b hxs hys hb
        have hlt := Ctx.ti_lt (C := C) (t := t) (by simp [hd])
        have hu := hC.d hd
        have hoff' : offsOk C.P ss fs.toList 0 = true := by
          rw [hC.tab t hlt] at hoff hsh
          simp only [TI.of, hu] at hoff hsh
          rw [hsh] at hoff
          exact hoff
        have hfs : C.P.fieldsOf t = fs := by unfold Program.fieldsOf; rw [hu]
        have hh : C.P.stoodInHeld t = false := by rw [← hheld, hC.tab t hlt]; rfl
        have hg : C.P.eqGuardType C.P.depth t = false := by rw [← heq, hC.tab t hlt]; rfl
        have he : ∀ w : World, (Op.equal t (.agg (TVs.cells xs).toArray) (.agg (TVs.cells ys).toArray)).run C.P w = .ok b w := by
          intro w
          unfold Op.equal Op.maxDepth
          rw [run_equalIn_struct w 9999 t _ _ (by rw [hfs]; exact hu) hh, hfs]
          exact eqAgg_sound hC 9997 w _ _ fs.toList xs ys b hb
            (fun j fd x hj hx => by obtain ⟨fd', h1, hp⟩ := part_at (C := C) hoff' hxs hx; rw [hj] at h1; cases h1; exact hp w)
            (fun j fd y hj hy => by obtain ⟨fd', h1, hp⟩ := part_at (C := C) hoff' hys hy; rw [hj] at h1; cases h1; exact hp w)
        obtain ⟨r, v, h1, h2, h3⟩ := vcEq_sound (P := C.P) (t := t) (X := (TV.agg xs).val) (Y := (TV.agg ys).val) hv rfl rfl (fun w => by simp only [TV.val]; exact he w)
        refine ⟨r, v, h1, h2, ?_⟩
        intro w
        have hgr : (eqGuard op t ox oy (TV.agg xs).val (TV.agg ys).val).run C.P w = .ok () w := by
          unfold eqGuard
          cases op <;> simp [TV.val, hg]
        rw [Sem.run_bind, hgr]
        exact h3 w
      · exact hv.elim
    · exact hv.elim
  · exact vcBin_sound hC hv hx hy ox oy

theorem vcIndex_sound (hC : C.Ok) {t : TypeId} {x y : Option TV} {X Y : Value} (hv : vcIndex C t x y K) (hx : Rel x X) (hy : Rel y Y) : ∃ r v, K r ∧ Rel r v ∧ GivesA C.P (Instr.index t X Y) v := by
  unfold vcIndex at hv
  split at hv
  · rename_i s k n hd
    obtain rfl := hx _ rfl
    obtain rfl := hy _ rfl
    obtain ⟨h0, h1, hk⟩ := hv
    refine ⟨_, _, hk, .some rfl, fun w => ?_⟩
    have hlt : n.toNat < s.length := by omega
    have hg : (⟨s.toArray⟩ : ByteArray)[n.toNat]? = some (s.getD n.toNat 0) := by
      have hsz : n.toNat < (⟨s.toArray⟩ : ByteArray).size := by simp [ByteArray.size, hlt]
      rw [getElem?_pos (⟨s.toArray⟩ : ByteArray) n.toNat hsz]
      show some (s.toArray[n.toNat]'(by simpa using hlt)) = _
      simp [hlt]
    unfold Instr.index
    simp only [TV.val, asIntOf, Sem.run_bind, Sem.run_pure, Result.andThen_ok, run_underlying (hC.d hd), h0, if_true, hg]
  · rename_i m b k n m' e hd
    obtain rfl := hx _ rfl
    obtain rfl := hy _ rfl
    split at hv
    · rename_i he hm
      have hm := beq_iff_eq.1 hm
      subst hm
      obtain ⟨h0, h1, hk⟩ := hv
      refine ⟨_, _, hk, .some rfl, fun w => ?_⟩
      obtain ⟨i, hi, hsz, _⟩ := hC.info he
      have hue := hC.d he
      have hl := Ctx.ti_lt (C := C) (t := e) (by simp [he])
      have hc : C.P.cellsOf e = 1 := by
        rcases hC.size e hl with h1 | ⟨h1, _⟩
        · simp [he, isTup] at h1
        · have h2 : (C.ti e).sh = .int .u8 := by rw [hC.tab e hl]; simp [TI.of, shOf, hue]
          rw [h2] at h1
          have h3 : (C.ti e).size = C.P.cellsOf e := by rw [hC.tab e hl]; rfl
          rw [← h3, ← h1]; rfl
      have hlt : n.toNat < b.l.length := by rw [b.h]; omega
      unfold Instr.index
      simp only [TV.val, asIntOf, Sem.run_bind, Sem.run_pure, Result.andThen_ok, run_underlying (hC.d hd), h0, h1, and_self, if_true, run_sizeOf w hi, hc, Nat.mul_one]
      rw [part_byte hue _ _ (.int .u8 ((b.l.getD n.toNat 0).toNat : Int)) (by simp [hlt])]
    · exact hv.elim
  · rename_i k m b k' n m' e hd
    obtain rfl := hx _ rfl
    obtain rfl := hy _ rfl
    split at hv
    · rename_i k2 he hm
      have hm := beq_iff_eq.1 hm
      subst hm
      split at hv
      · obtain ⟨h0, h1, hk⟩ := hv
        refine ⟨_, _, hk, .some rfl, fun w => ?_⟩
        obtain ⟨i, hi, hsz, _⟩ := hC.info he
        have hue := hC.d he
        have hl := Ctx.ti_lt (C := C) (t := e) (by simp [he])
        have hc : C.P.cellsOf e = 1 := by
          rcases hC.size e hl with h1 | ⟨h1, _⟩
          · simp [he, isTup] at h1
          · have h2 : (C.ti e).sh = .int k2 := by rw [hC.tab e hl]; simp [TI.of, shOf, hue]
            rw [h2] at h1
            have h3 : (C.ti e).size = C.P.cellsOf e := by rw [hC.tab e hl]; rfl
            rw [← h3, ← h1]; rfl
        have hlt : n.toNat < b.l.length := by rw [b.h]; omega
        unfold Instr.index
        simp only [TV.val, asIntOf, Sem.run_bind, Sem.run_pure, Result.andThen_ok, run_underlying (hC.d hd), h0, h1, and_self, if_true, run_sizeOf w hi, hc, Nat.mul_one]
        unfold part
        simp only [Sem.run_bind, isAgg_run hue, Result.andThen_ok, isAggD]
        simp [hlt]
      · exact hv.elim
    · exact hv.elim
  · exact hv.elim

def RelO : Option (Option TV) → Option Value → Prop
  | none, none => True
  | some r, some v => Rel r v
  | _, _ => False

theorem vcBounds_sound {len top : Nat} {lo hi : Option (Option TV)} {k : Nat → Nat → Prop} (hv : vcBounds len top lo hi k) {L H : Option Value}
    (hL : RelO lo L) (hH : RelO hi H) (isS : Bool) :
    ∃ l u, k l u ∧ ∀ w, (Instr.sliceBounds isS len top L H none).run P w = .ok (l, u, top) w := by
  unfold vcBounds at hv
  split at hv
  · cases L <;> cases H <;> first | exact hL.elim | exact hH.elim | skip
    exact ⟨0, len, hv, fun w => by simp [Instr.sliceBounds]⟩
  · rename_i k1 l
    cases L <;> cases H <;> first | exact hL.elim | exact hH.elim | skip
    obtain rfl := hL _ rfl
    obtain ⟨h0, h1, hk⟩ := hv
    exact ⟨_, _, hk, fun w => by simp [Instr.sliceBounds, Instr.sliceBound, TV.val, asIntOf, h0, h1]⟩
  · rename_i k1 u
    cases L <;> cases H <;> first | exact hL.elim | exact hH.elim | skip
    obtain rfl := hH _ rfl
    obtain ⟨h0, h1, hk⟩ := hv
    exact ⟨_, _, hk, fun w => by simp [Instr.sliceBounds, Instr.sliceBound, TV.val, asIntOf, h0, h1]⟩
  · rename_i k1 l k2 u
    cases L <;> cases H <;> first | exact hL.elim | exact hH.elim | skip
    obtain rfl := hL _ rfl
    obtain rfl := hH _ rfl
    obtain ⟨h0, h1, h2, h3, hk⟩ := hv
    have h3' : l ≤ (u.toNat : Int) := by omega
    have h3'' : l ≤ max u 0 := by omega
    exact ⟨_, _, hk, fun w => by simp [Instr.sliceBounds, Instr.sliceBound, TV.val, asIntOf, h0, h1, h2, h3'']⟩
  · exact hv.elim

theorem vcSlice_sound (hC : C.Ok) {t : TypeId} {x : Option TV} {lo hi : Option (Option TV)} {X : Value} {L H : Option Value} (hv : vcSlice C t x lo hi K) (hx : Rel x X)
    (hL : RelO lo L) (hH : RelO hi H) : ∃ r v, K r ∧ Rel r v ∧ GivesA C.P (Instr.sliceAt t X L H none) v := by
  unfold vcSlice at hv
  split at hv
  · rename_i s hd
    obtain rfl := hx _ rfl
    obtain ⟨l, u, hk, h3⟩ := vcBounds_sound (P := C.P) hv hL hH false
    refine ⟨_, _, hk, .some rfl, fun w => ?_⟩
    unfold Instr.sliceAt Instr.slice
    have hsz : (⟨s.toArray⟩ : ByteArray).size = s.length := by simp [ByteArray.size]
    simp only [TV.val, Sem.run_bind, run_underlying (hC.d hd), Result.andThen_ok, hsz, Option.isSome_none, Bool.false_eq_true, if_false, h3, Sem.run_pure]
    congr 2
    apply ByteArray.ext
    simp [ByteArray.data_extract, List.extract_eq_take_drop]
  · rename_i s e hd
    obtain rfl := hx _ rfl
    split at hv
    · rename_i he
      obtain ⟨d', hd'⟩ := Option.isSome_iff_exists.1 he
      obtain ⟨i, hi', hsz, _⟩ := hC.info hd'
      have hc : C.P.cellsOf e = (C.ti e).size := by rw [← hsz]; simp [Program.cellsOf, hi']
      obtain ⟨l, u, hk, h3⟩ := vcBounds_sound (P := C.P) hv hL hH true
      refine ⟨_, _, hk, .some rfl, fun w => ?_⟩
      unfold Instr.sliceAt Instr.slice
      simp only [TV.val, slVal, Sem.run_bind, run_underlying (hC.d hd), Result.andThen_ok, h3, run_sizeOf w hi', Sem.run_pure, hc, cutSl]
      congr 2
      split
      · rfl
      · cases s.a <;> simp [addr_add]
    · exact hv.elim
  · rename_i p n e hd
    obtain rfl := hx _ rfl
    split at hv
    · rename_i he
      obtain ⟨q, rfl, hq⟩ := elim_some hv
      obtain ⟨d', hd'⟩ := Option.isSome_iff_exists.1 he
      obtain ⟨i, hi', hsz, _⟩ := hC.info hd'
      have hc : C.P.cellsOf e = (C.ti e).size := by rw [← hsz]; simp [Program.cellsOf, hi']
      obtain ⟨l, u, hk, h3⟩ := vcBounds_sound (P := C.P) hq hL hH false
      refine ⟨_, _, hk, .some rfl, fun w => ?_⟩
      unfold Instr.sliceAt
      simp only [TV.val, slVal, Option.map_some, Instr.sureAddr, Sem.run_bind, run_underlying (hC.d hd), Result.andThen_ok, h3, run_sizeOf w hi', Sem.run_pure, hc, cutSl]
      congr 2
      split <;> simp [addr_add]
    · exact hv.elim
  · exact hv.elim

theorem vcSlice3_sound (hC : C.Ok) {t : TypeId} {x m : Option TV} {lo hi : Option (Option TV)} {X M : Value} {L H : Option Value} (hv : vcSlice3 C t x lo hi m K) (hx : Rel x X)
    (hL : RelO lo L) (hH : RelO hi H) (hM : Rel m M) : ∃ r v, K r ∧ Rel r v ∧ GivesA C.P (Instr.sliceAt t X L H (some M)) v := by
  unfold vcSlice3 at hv
  split at hv
  · rename_i s e k1 u k2 m hd
    obtain rfl := hx _ rfl
    obtain rfl := hM _ rfl
    cases H with
    | none => exact hH.elim
    | some H =>
    obtain rfl := hH _ rfl
    split at hv
    · rename_i he
      obtain ⟨d', hd'⟩ := Option.isSome_iff_exists.1 he
      obtain ⟨i, hi', hsz, _⟩ := hC.info hd'
      have hc : C.P.cellsOf e = (C.ti e).size := by rw [← hsz]; simp [Program.cellsOf, hi']
      obtain ⟨m0, m1, u0, u1, hv⟩ := hv
      have um : u ≤ max m 0 := by omega
      split at hv
      · cases L with
        | some _ => exact hL.elim
        | none =>
        refine ⟨_, _, hv, .some rfl, fun w => ?_⟩
        unfold Instr.sliceAt Instr.slice
        simp only [TV.val, slVal, Sem.run_bind, run_underlying (hC.d hd), Result.andThen_ok, Sem.run_pure, cutSl]
        simp [Instr.sliceBounds, Instr.sliceBound, asIntOf, m0, m1, u0, um, run_sizeOf w hi', hc]
        intro _
        cases s.a <;> simp [Addr.add]
      · rename_i k3 l
        cases L with
        | none => exact hL.elim
        | some L =>
        obtain rfl := hL _ rfl
        obtain ⟨l0, l1, hv⟩ := hv
        have lu : l ≤ max u 0 := by omega
        refine ⟨_, _, hv, .some rfl, fun w => ?_⟩
        unfold Instr.sliceAt Instr.slice
        simp only [TV.val, slVal, Sem.run_bind, run_underlying (hC.d hd), Result.andThen_ok, Sem.run_pure, cutSl]
        simp [Instr.sliceBounds, Instr.sliceBound, asIntOf, m0, m1, u0, um, l0, lu, run_sizeOf w hi', hc]
        split
        · rfl
        · cases s.a <;> simp [addr_add]
      · exact hv.elim
    · exact hv.elim
  · exact hv.elim

theorem fold_splice (off : Nat) : ∀ (vs : List Value) (k : Nat) (cells : Array Value) (i : Nat), ((vs.zipIdx k).foldl (fun cs (p : Value × Nat) => cs.setIfInBounds (off + p.2) p.1) cells)[i]? =
    if off + k ≤ i ∧ i < off + k + vs.length ∧ i < cells.size then vs[i - off - k]? else cells[i]?
  | [], k, cells, i => by
    simp only [List.zipIdx_nil, List.foldl_nil, List.length_nil]
    rw [if_neg (by omega)]
  | v :: vs, k, cells, i => by
    simp only [List.zipIdx_cons, List.foldl_cons]
    rw [fold_splice off vs (k + 1) _ i]
    simp only [List.length_cons, Array.size_setIfInBounds]
    by_cases h1 : off + (k + 1) ≤ i ∧ i < off + (k + 1) + vs.length ∧ i < cells.size
    · rw [if_pos h1, if_pos (by omega), show i - off - k = (i - off - (k + 1)) + 1 by omega]
      simp
    · rw [if_neg h1]
      by_cases h2 : i = off + k
      · subst h2
        by_cases h3 : off + k < cells.size
        · rw [if_pos (by omega)]
          rw [Array.getElem?_setIfInBounds, if_pos rfl, if_pos h3, show off + k - off - k = 0 by omega]
          rfl
        · rw [if_neg (by omega), Array.getElem?_setIfInBounds, if_pos rfl, if_neg h3, Array.getElem?_eq_none (by omega)]
      · rw [if_neg (by omega), Array.getElem?_setIfInBounds, if_neg (by omega)]

theorem fold_splice' (off : Nat) (vs : List Value) (cs : List Value) (hl : off + vs.length ≤ cs.length) : (vs.toArray.zipIdx.foldl (fun cs (p : Value × Nat) => cs.setIfInBounds (off + p.2) p.1) cs.toArray) = (cs.take off ++ vs ++ cs.drop (off + vs.length)).toArray := by
  rw [← Array.foldl_toList, Array.toList_zipIdx]
  apply Array.ext_getElem?
  intro i
  rw [fold_splice off vs 0 _ i]
  simp only [List.size_toArray, List.getElem?_toArray, Nat.add_zero, Nat.sub_zero]
  by_cases h1 : i < off
  · rw [if_neg (by omega), List.append_assoc, List.getElem?_append_left (by simp; omega), List.getElem?_take_of_lt h1]
  · by_cases h2 : i < off + vs.length
    · rw [if_pos (by omega), List.append_assoc, List.getElem?_append_right (by simp; omega), List.getElem?_append_left (by simp; omega)]
      congr 1
      simp; omega
    · rw [if_neg (by omega), List.append_assoc, List.getElem?_append_right (by simp; omega), List.getElem?_append_right (by simp; omega), List.getElem?_drop]
      congr 1
      simp; omega

theorem cells_split : ∀ (zs : List TV) (i : Nat) (z : TV), zs[i]? = some z → TVs.cells zs = TVs.cells (zs.take i) ++ (z.cells ++ TVs.cells (zs.drop (i + 1)))
  | [], i, z, h => by simp at h
  | x :: xs, 0, z, h => by
    simp only [List.getElem?_cons_zero, Option.some.injEq] at h
    subst h
    simp [TVs.cells]
  | x :: xs, i + 1, z, h => by
    simp only [List.getElem?_cons_succ] at h
    simp only [TVs.cells, List.take_succ_cons, List.drop_succ_cons, List.append_assoc]
    rw [cells_split xs i z h]

theorem cells_set : ∀ (zs : List TV) (i : Nat) (z v : TV), zs[i]? = some z → TVs.cells (zs.set i v) = TVs.cells (zs.take i) ++ (v.cells ++ TVs.cells (zs.drop (i + 1)))
  | [], i, z, v, h => by simp at h
  | x :: xs, 0, z, v, h => by simp [TVs.cells]
  | x :: xs, i + 1, z, v, h => by
    simp only [List.getElem?_cons_succ] at h
    simp only [TVs.cells, List.set_cons_succ, List.take_succ_cons, List.drop_succ_cons, List.append_assoc]
    rw [cells_set xs i z v h]

theorem size_set : ∀ (zs : List TV) (i : Nat) (z v : TV), zs[i]? = some z → v.size = z.size → (zs.set i v).map TV.size = zs.map TV.size
  | [], i, z, v, h, _ => by simp at h
  | x :: xs, 0, z, v, h, hs => by
    simp only [List.getElem?_cons_zero, Option.some.injEq] at h
    subst h
    simp [hs]
  | x :: xs, i + 1, z, v, h, hs => by
    simp only [List.getElem?_cons_succ] at h
    simp [size_set xs i z v h hs]

theorem offs_at : ∀ (ss : List Sh) (fs : List Field) (n : Nat) (xs : List TV) (i : Nat) (v : TV), offsOk P ss fs n = true → xs.map TV.size = ss.map Sh.size → xs[i]? = some v →
    ∃ fd, fs[i]? = some fd ∧ fd.offset = n + TVs.size (xs.take i) ∧ P.cellsOf fd.type = v.size
  | [], [], n, xs, i, v, _, hh, hi => by
    cases xs with
    | nil => simp at hi
    | cons x xs => simp at hh
  | s :: ss, f :: fs, n, xs, i, v, ho, hh, hi => by
    cases xs with
    | nil => simp at hi
    | cons x xs =>
      simp only [List.map_cons, List.cons.injEq] at hh
      simp only [offsOk, Bool.and_eq_true, beq_iff_eq] at ho
      obtain ⟨⟨⟨⟨h1, h2⟩, h3⟩, h3'⟩, h4⟩ := ho
      cases i with
      | zero =>
        simp only [List.getElem?_cons_zero, Option.some.injEq] at hi
        subst hi
        exact ⟨f, rfl, by simp [TVs.size, h1], by rw [← h2, hh.1]⟩
      | succ i =>
        simp only [List.getElem?_cons_succ] at hi
        obtain ⟨fd, e1, e2, e3⟩ := offs_at ss fs _ xs i v h4 hh.2 hi
        refine ⟨fd, by simpa using e1, ?_, e3⟩
        rw [e2, List.take_succ_cons, TVs.size, hh.1]
        omega
  | [], _ :: _, n, xs, i, v, ho, hh, hi => by simp [offsOk] at ho
  | _ :: _, [], n, xs, i, v, ho, hh, hi => by simp [offsOk] at ho

/-- Parts whose values are known. -/
def RelParts : List (Nat × Option TV) → List (Nat × Value) → Prop
  | [], [] => True
  | (i, r) :: ps, (j, v) :: vs => i = j ∧ Rel r v ∧ RelParts ps vs
  | _, _ => False

theorem setParts_fill' {sizes : List Nat} {place : Nat → Option (Nat × Nat)} (hp : ∀ (zs : List TV) (i : Nat) (z : TV), zs.map TV.size = sizes → zs[i]? = some z → place i = some (TVs.size (zs.take i), z.size)) :
    ∀ (ps : List (Nat × Option TV)) (vs : List (Nat × Value)) (zs xs : List TV), RelParts ps vs → setParts zs ps = some xs → zs.map TV.size = sizes →
      Instr.fill place (TVs.cells zs).toArray vs = some (TVs.cells xs).toArray
  | [], [], zs, xs, _, hs, _ => by simp only [setParts, Option.some.injEq] at hs; subst hs; rfl
  | (i, none) :: ps, (j, v) :: vs, zs, xs, hr, hs, _ => by simp [setParts] at hs
  | (i, some tv) :: ps, (j, v) :: vs, zs, xs, hr, hs, hz => by
    obtain ⟨rfl, h1, h2⟩ := hr
    obtain rfl := h1 _ rfl
    simp only [setParts] at hs
    split at hs
    · rename_i z hzi
      split at hs
      · rename_i hsz
        have hsz := beq_iff_eq.1 hsz
        have e1 := hp zs i z hz hzi
        have ih := setParts_fill' hp ps vs (zs.set i tv) xs h2 hs (by rw [size_set zs i z tv hzi hsz]; exact hz)
        have hA := TVs.cells_length (zs.take i)
        have hZ := TV.cells_length z
        have hT := TV.cells_length tv
        have hsp := cells_split zs i z hzi
        have hlen : TVs.size (zs.take i) + tv.cells.length ≤ (TVs.cells zs).length := by
          rw [hsp]; simp only [List.length_append]; omega
        unfold Instr.fill
        rw [e1]
        simp only [TV.val_cells, List.size_toArray]
        rw [if_neg (by simp only [ne_eq, decide_not, Bool.or_eq_true, Bool.not_eq_eq_eq_not, Bool.not_true, decide_eq_false_iff_not, decide_eq_true_eq]; omega), ← ih, fold_splice' (TVs.size (zs.take i)) tv.cells (TVs.cells zs) hlen]
        congr 2
        rw [cells_set zs i z tv hzi, hsp, ← hA]
        rw [List.take_left', List.drop_append, List.drop_of_length_le (by omega), List.drop_append, List.drop_of_length_le (by omega)]
        · simp only [List.nil_append, List.append_assoc]
          rw [show (TVs.cells (List.take i zs)).length + tv.cells.length - (TVs.cells (List.take i zs)).length - z.cells.length = 0 by omega]
          simp
        · rfl
      · cases hs
    · cases hs

theorem setParts_fill {ss : List Sh} {fs : List Field} (ho : offsOk P ss fs 0 = true) {place : Nat → Option (Nat × Nat)} (hp : ∀ i fd, fs[i]? = some fd → place i = some (fd.offset, P.cellsOf fd.type))
    (ps : List (Nat × Option TV)) (vs : List (Nat × Value)) (zs xs : List TV) (hr : RelParts ps vs) (hs : setParts zs ps = some xs) (hz : zs.map TV.size = ss.map Sh.size) :
      Instr.fill place (TVs.cells zs).toArray vs = some (TVs.cells xs).toArray :=
  setParts_fill' (sizes := ss.map Sh.size) (fun zs i z hz hzi => by
    obtain ⟨fd, e1, e2, e3⟩ := offs_at ss fs 0 zs i z ho hz hzi
    rw [hp i fd e1, e2, e3, Nat.zero_add]) ps vs zs xs hr hs hz

theorem offs_isSome : ∀ (ss : List Sh) (fs : List Field) (n : Nat), offsOk P ss fs n = true → ∀ f : Field, f ∈ fs → (P.underlying f.type).isSome = true
  | [], [], n, _, f, hf => by cases hf
  | s :: ss, g :: fs, n, ho, f, hf => by
    simp only [offsOk, Bool.and_eq_true] at ho
    rcases List.mem_cons.1 hf with rfl | hf
    · exact ho.1.2
    · exact offs_isSome ss fs _ ho.2 f hf
  | [], _ :: _, n, ho, _, _ => by simp [offsOk] at ho
  | _ :: _, [], n, ho, _, hf => by cases hf

theorem sizes_map {α : Type} (f : α → TV) (g : α → Sh) (h : ∀ a, (f a).size = (g a).size) : ∀ l : List α, TVs.size (l.map f) = Shs.size (l.map g)
  | [] => rfl
  | a :: l => by simp only [List.map_cons, TVs.size, Shs.size, h a, sizes_map f g h l]

theorem sizes_rep (a : TV) (b : Sh) (h : a.size = b.size) : ∀ n : Nat, TVs.size (List.replicate n a) = Shs.size (List.replicate n b)
  | 0 => rfl
  | n + 1 => by simp only [List.replicate_succ, TVs.size, Shs.size, h, sizes_rep a b h n]

theorem zOf_size (P : Program) : ∀ (d : Nat) (t : TypeId), (zOf P d t).size = (shOf P d t).size
  | 0, t => rfl
  | d + 1, t => by
    unfold zOf shOf
    split
    all_goals try rfl
    · simp only [TV.size, Sh.size]; exact sizes_map (fun f : Field => zOf P d f.type) (fun f : Field => shOf P d f.type) (fun f => zOf_size P d f.type) _
    · split
      · rfl
      · rfl
      · simp only [TV.size, Sh.size]; exact sizes_rep _ _ (zOf_size P d _) _

theorem setWords_agg : ∀ (ps : List (Nat × Option TV)) (p : Nat × Option TV) (z : TV) {z' : TV}, setWords z (p :: ps) = some z' → tvAgg z' = true
  | ps, (i, none), z, z', h => by simp [setWords] at h
  | [], (i, some v), z, z', h => by
    simp only [setWords] at h
    split at h
    · rename_i z1 h1
      simp only [Option.some.injEq] at h
      subst h
      unfold putWord at h1
      split at h1
      · split at h1
        · cases h1; rfl
        · cases h1
      · cases h1
    · cases h
  | q :: ps, (i, some v), z, z', h => by
    simp only [setWords] at h
    split at h
    · exact setWords_agg ps q _ h
    · cases h

theorem setWords_size : ∀ (ps : List (Nat × Option TV)) (z z' : TV), setWords z ps = some z' → z'.size = z.size
  | [], z, z', h => by simp only [setWords, Option.some.injEq] at h; rw [h]
  | (i, none) :: ps, z, z', h => by simp [setWords] at h
  | (i, some v) :: ps, z, z', h => by
    simp only [setWords] at h
    split at h
    · rename_i z1 h1
      rw [setWords_size ps z1 z' h]
      unfold putWord at h1
      split at h1
      · split at h1
        · cases h1; rfl
        · cases h1
      · cases h1
    · cases h

theorem setWords_fill : ∀ (ps : List (Nat × Option TV)) (vs : List (Nat × Value)) (z z' : TV), RelParts ps vs → setWords z ps = some z' →
    Instr.fill (fun i => some (i * 1, 1)) z.cells.toArray vs = some z'.cells.toArray
  | [], [], z, z', _, hs => by simp only [setWords, Option.some.injEq] at hs; subst hs; rfl
  | (i, none) :: ps, (j, v) :: vs, z, z', hr, hs => by simp [setWords] at hs
  | (i, some tv) :: ps, (j, v) :: vs, z, z', hr, hs => by
    obtain ⟨rfl, h1, h2⟩ := hr
    obtain rfl := h1 _ rfl
    simp only [setWords] at hs
    split at hs
    · rename_i z1 hz1
      have ih := setWords_fill ps vs z1 z' h2 hs
      unfold putWord at hz1
      split at hz1
      · rename_i _ k n w k' x
        split at hz1
        · rename_i hk hlt
          have hk := beq_iff_eq.1 hk
          subst hk
          have hlt : i < n := by simpa using hlt
          simp only [Option.some.injEq] at hz1
          subst hz1
          have hlen : (TV.words k n w).cells.length = n := TV.cells_length _
          have hlt' : i + 1 ≤ n := by have : i < n := by simpa using hlt
                                      omega
          unfold Instr.fill
          simp only [TV.val_cells, List.size_toArray]
          rw [if_neg (by simp [TV.cells, w.h]; omega), ← ih, fold_splice' (i * 1) _ _ (by rw [hlen]; simp only [TV.cells, List.length_singleton]; omega)]
          congr 2
          simp only [TV.cells, Nat.mul_one, Ws.set, List.map_set, List.length_cons, List.length_nil]
          rw [List.set_eq_take_append_cons_drop, if_pos (by simp [w.h]; exact hlt)]
          simp
        · cases hz1
      · cases hz1
    · cases hs

theorem struct_facts (hC : C.Ok) {t : TypeId} {fs : Array Field} (hd : (C.ti t).d = some (.struct fs)) :
    (C.ti t).sh = .agg (fs.toList.map fun f : Field => shOf C.P 19 f.type) ∧ (C.ti t).z = .agg (fs.toList.map fun f : Field => zOf C.P 19 f.type) ∧
    ((C.ti t).offs = true → offsOk C.P (fs.toList.map fun f : Field => shOf C.P 19 f.type) fs.toList 0 = true) := by
  have hlt := Ctx.ti_lt (C := C) (t := t) (by simp [hd])
  have hu := hC.d hd
  have h1 : shOf C.P (19 + 1) t = .agg (fs.toList.map fun f : Field => shOf C.P 19 f.type) := by rw [shOf, hu]
  have h2 : zOf C.P (19 + 1) t = .agg (fs.toList.map fun f : Field => zOf C.P 19 f.type) := by rw [zOf, hu]
  rw [hC.tab t hlt]
  refine ⟨h1, h2, fun h => ?_⟩
  have h3 : (match C.P.underlying t, shOf C.P (19 + 1) t with | some (.struct fs), .agg ss => offsOk C.P ss fs.toList 0 | _, _ => false) = true := h
  rw [hu, h1] at h3
  exact h3

theorem vcBuild_sound (hC : C.Ok) {t : TypeId} {ps : List (Nat × Option TV)} {parts : Array (Nat × Value)} (hv : vcBuild C t ps K) (hr : RelParts ps parts.toList) : ∃ r v, K r ∧ Rel r v ∧ GivesA C.P (Instr.build t parts) v := by
  unfold vcBuild at hv
  split at hv
  · rename_i fs zs hd hz
    split at hv
    · rename_i xs hoff hset
      refine ⟨_, _, hv, .some rfl, fun w => ?_⟩
      have hlt := Ctx.ti_lt (C := C) (t := t) (by simp [hd])
      have hu := hC.d hd
      obtain ⟨it, hit, hzero⟩ := hC.zero t hlt (by simp [hd])
      have hzero : it.zero = some (TV.agg zs).val := by
        rcases hzero with h1 | h1
        · simp [hd, isTup] at h1
        · rw [h1, hz]
      obtain ⟨hsh, hz', hoff'⟩ := struct_facts hC hd
      have hoff' := hoff' hoff
      generalize hss : (fs.toList.map fun f : Field => shOf C.P 19 f.type) = ss at hoff'
      have hsz : zs.map TV.size = ss.map Sh.size := by
        rw [hz'] at hz
        injection hz with hz
        subst hz; subst hss
        simp only [List.map_map]
        apply List.map_congr_left
        intro f _
        exact zOf_size C.P 19 f.type
      have hplaces : fs.toList.mapM (fun f : Field => (C.P.info? f.type).map fun i => (f.offset, i.size)) = some (fs.toList.map fun f : Field => (f.offset, C.P.cellsOf f.type)) := by
        have hall : ∀ f ∈ fs.toList, (C.P.underlying f.type).isSome = true := offs_isSome ss fs.toList 0 hoff'
        revert hall
        generalize fs.toList = l
        intro hall
        induction l with
        | nil => rfl
        | cons f l ih =>
          rw [List.mapM_cons, ih (fun g hg => hall g (by simp [hg]))]
          have := hall f (by simp)
          cases hi : C.P.info? f.type with
          | none => simp [Program.underlying, hi] at this
          | some i => simp [Program.cellsOf, hi]
      have hb : C.P.built t parts.toList = some (TVs.cells xs).toArray := by
        unfold Program.built
        simp only [hit, hu, hzero, hplaces]
        exact setParts_fill hoff' (fun i fd h => by simp [h]) ps parts.toList zs xs hr hset hsz
      rw [run_build w t parts _ hb]
      rfl
    · exact hv.elim
  · rename_i n e hd
    have hlt := Ctx.ti_lt (C := C) (t := t) (by simp [hd])
    have hu := hC.d hd
    obtain ⟨it, hit, hzero⟩ := hC.zero t hlt (by simp [hd])
    have hzero : it.zero = some (C.ti t).z.val := by
      rcases hzero with h1 | h1
      · simp [hd, isTup] at h1
      · exact h1
    split at hv
    · rename_i d hde
      obtain ⟨ie, hie, hsz, _⟩ := hC.info hde
      have haggz : (C.ti t).z.val = .agg (C.ti t).z.cells.toArray := by
        rw [hC.tab t hlt]
        show (zOf C.P (19 + 1) t).val = .agg (zOf C.P (19 + 1) t).cells.toArray
        rw [zOf, hu]
        dsimp only
        split <;> rfl
      split at hv
      · refine ⟨_, _, hv, .some rfl, fun w => ?_⟩
        have hp : parts.toList = [] := by
          revert hr; cases parts.toList with
          | nil => intro _; rfl
          | cons _ _ => intro h; exact h.elim
        have hb : C.P.built t parts.toList = some (C.ti t).z.cells.toArray := by
          unfold Program.built
          simp only [hit, hu, hzero, hie, hp, Instr.fill, TV.val_cells]
        rw [run_build w t parts _ hb, haggz]
      · rename_i p ps' k
        split at hv
        · rename_i z' hset
          refine ⟨_, _, hv, .some rfl, fun w => ?_⟩
          have hc : ie.size = 1 := by
            have hle := Ctx.ti_lt (C := C) (t := e) (by simp [hde])
            rw [hsz]
            rcases hC.size e hle with h1 | ⟨h1, _⟩
            · simp [hde, isTup] at h1
            · have h2 : (C.ti e).sh = .int k := by rw [hC.tab e hle]; simp [TI.of, shOf, hC.d hde]
              rw [h2] at h1; rw [← h1]; rfl
          have hb : C.P.built t parts.toList = some z'.cells.toArray := by
            unfold Program.built
            simp only [hit, hu, hzero, hie, TV.val_cells, hc]
            exact setWords_fill _ _ _ _ hr hset
          rw [run_build w t parts _ hb]
          have : tvAgg z' = true := setWords_agg _ _ _ hset
          rw [tvAgg_val.1 this]
        · exact hv.elim
      · exact hv.elim
    · exact hv.elim
  · exact hv.elim

end
end Go.Vc
