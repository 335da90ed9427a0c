/- Texts that the proof needs, joined: FactsP, FactsQ, VcA, VcB, VcC, VcK, VcD, VcE, VcF, VcG0, VcG. -/
import Derived.Test.YtennbinbffdimaaGreatRows
import Derived.WalkKit
import Derived.ProofKit
import Derived.Test.YtennbinbffdimaaGreatProg
import Derived.Below
import Derived.WalkLawsBesides
import Derived.MapKept
import Derived.Maps.RangeRun
import Derived.Laws.IdiomStrings
import Derived.Laws.StructEq
import Derived.Laws.BytesArg
import Derived.WideKeyRuns
import Derived.Laws.Append
import Derived.Laws.Externs
import Derived.OrdersHeld

section
/- What a row's form asks of the program, part by part. -/
namespace Go.Proofs.YtennbinbffdimaaGreat
open Go

theorem fp_laid : laidOutB Tryz.prog = true := by kernel_rfl
theorem fp_rowed : mapsRowed Tryz.prog = true := by kernel_rfl
theorem fp_stops : (Tryz.prog.stops == []) = true := by kernel_rfl
theorem fp_knobs : (Tryz.prog.stopKnobs == []) = true := by kernel_rfl
theorem fp_heard : Tryz.prog.stopsHeard = true := by kernel_rfl
theorem fp_may : Tryz.prog.mayEnter = true := by kernel_rfl
theorem fp_lifts : Tryz.prog.liftsFinal = Rows.sizePeersRow.lifted := by kernel_rfl
theorem fp_plain : Tryz.prog.plainKeys = Rows.sizePeersRow.plainKeys := by kernel_rfl
theorem fp_make : (Tryz.prog.make == some Rows.sizePeersRow.make) = true := by kernel_rfl

end Go.Proofs.YtennbinbffdimaaGreat
end

section
/- A row's form, put together of its parts. -/
namespace Go.Proofs.YtennbinbffdimaaGreat
open Go

theorem joined_of {P : Program} {f : FuncId} {fn : Func} {s : ChangeSpec} {c : OpenClaim} (h1 : c.wf (OpenSpec.ofChange s) = true) (h2 : laidOutB P = true) (h3 : mapsRowed P = true) (h4 : fn.params.all (P.readableRec ·) = true) (h5 : namedTie P c.named s.vars = true)
    (h6 : (c.stops == []) = true) (h7 : (P.stops == []) = true) (h8 : (c.knobs == []) = true) (h9 : (P.stopKnobs == []) = true) (h10 : (c.inPlace == P.inPlace f) = true) (h11 : (c.unfollowed == P.unfollowed f) = true) (h12 : (c.recurses == P.recurses f) = true) (h13 : (c.named == P.varsNamed f) = true)
    (h14 : (c.maps == (fn.params.toList ++ s.plain.varTypes P).any (P.mapsRec ·)) = true) (h15 : (c.ifaces == (fn.params.toList ++ s.plain.varTypes P).any (P.ifacesRec ·)) = true) (h16 : (c.mapsOut == P.mapsAmong fn.resultTypes.toList) = true)
    (h17 : (c.loops == (fn.params.toList ++ s.plain.varTypes P).any (P.loopsFrom ·)) = true) (h18 : (c.wideKeys == (fn.params.toList ++ s.plain.varTypes P ++ fn.resultTypes.toList).any (P.wideKeysFrom ·)) = true)
    (h19 : s.vars.all (P.varReadable ·) = true) (h20 : fn.resultTypes.all (fun t => P.readableRec t && decide (t < P.types.size)) = true) (h21 : (c.ifacesOut == fn.resultTypes.toList.any (P.ifacesRec ·)) = true) (h22 : (c.loopsOut == fn.resultTypes.toList.any (P.loopsFrom ·)) = true) (h23 : (c.plainKeys == P.plainKeys) = true) (h24 : c.shortTexts.isNone = true) (h25 : P.stopsHeard = true) (h26 : P.mayEnter = true) (h27 : (c.lifted == P.liftsFinal) = true) (h28 : (P.make == some c.make) = true)
    (h29 : (c.kinds == (if c.domain.isEmpty then [] else fn.params.toList.map fun t => match P.underlying t with | some (.int k) => some k | _ => none)) = true) (h30 : (c.pinned == c.pinnedBy) = true) (h31 : (c.veiled == (fn.params.toList ++ s.plain.varTypes P ++ fn.resultTypes.toList).any (P.veiledRec ·)) = true)
    (h32 : c.veiledFits P fn.params.toList (fn.params.toList ++ s.plain.varTypes P ++ fn.resultTypes.toList) = true) : joinedFacts P f fn s c = true := by
  unfold joinedFacts
  simp only [Bool.and_eq_true]
  repeat' apply And.intro
  all_goals assumption

end Go.Proofs.YtennbinbffdimaaGreat
end

section
/- Words for a verified generator of conditions: the heap alone, values with their shape, environments of slots; no program in sight. -/
namespace Go.Vc
open Go

abbrev Heap := Array Obj

structure Loc where
  b : Nat
  o : Nat

def Loc.addr (l : Loc) : Addr := ⟨l.b, l.o, none⟩

structure Sl where
  a : Option Loc
  len : Nat
  cap : Nat

def Sl.nil : Sl := ⟨none, 0, 0⟩

/-- n bytes. -/
structure Bs (n : Nat) where
  l : List UInt8
  h : l.length = n

theorem Bs.ext' {n : Nat} {a b : Bs n} (h : a.l = b.l) : a = b := by
  cases a; cases b; cases h; rfl

def Bs.zero (n : Nat) : Bs n := ⟨List.replicate n 0, by simp⟩
def Bs.set {n : Nat} (b : Bs n) (i : Nat) (v : UInt8) : Bs n := ⟨b.l.set i v, by simp [b.h]⟩

/-- n numbers of a kind that is not a byte's. -/
structure Ws (n : Nat) where
  l : List Int
  h : l.length = n

theorem Ws.ext' {n : Nat} {a b : Ws n} (h : a.l = b.l) : a = b := by
  cases a; cases b; cases h; rfl

def Ws.zero (n : Nat) : Ws n := ⟨List.replicate n 0, by simp⟩
def Ws.set {n : Nat} (b : Ws n) (i : Nat) (v : Int) : Ws n := ⟨b.l.set i v, by simp [b.h]⟩

def isOne : Value → Bool
  | .agg _ | .tuple _ => false
  | _ => true

/-- A value that takes one cell and is none of the kinds below: a function value, an interface value. -/
structure One where
  v : Value
  h : isOne v = true

/-- A value with its shape. -/
inductive TV where
  | int (k : IntKind) (n : Int)
  | bool (b : Bool)
  | str (s : List UInt8)
  | ptr (p : Option Loc)
  | slice (s : Sl)
  | map (r : Option Nat)
  | one (v : One)
  | bytes (n : Nat) (b : Bs n)
  | words (k : IntKind) (n : Nat) (w : Ws n)
  | agg (xs : List TV)
  | tup (xs : List TV)
  | fn (f : Fn) (first captured : List TV)
  | any (v : Value)

/-- A shape. -/
inductive Sh where
  | int (k : IntKind)
  | bool
  | str
  | ptr
  | slice
  | map
  | one
  | bytes (n : Nat)
  | words (k : IntKind) (n : Nat)
  | agg (xs : List Sh)
  | tup (xs : List Sh)

/-- A heap that has a name from here on. -/
def Bind (h : Heap) (K : Heap → Prop) : Prop := K h

/-- There is one, and of it something holds. -/
def Nn {α : Type} (p : Option α) (K : α → Prop) : Prop := match p with
  | none => False
  | some l => K l

def slVal (s : Sl) : Value := .slice (s.a.map Loc.addr) s.len s.cap

mutual
/-- The cells that a value takes. -/
def TV.cells : TV → List Value
  | .int k n => [.int k n]
  | .bool b => [.bool b]
  | .str s => [.string ⟨s.toArray⟩]
  | .ptr p => [.pointer (p.map Loc.addr)]
  | .slice s => [slVal s]
  | .map r => [.map r]
  | .one v => [v.v]
  | .bytes _ b => b.l.map fun c => .int .u8 (c.toNat : Int)
  | .words k _ w => w.l.map fun c => .int k c
  | .agg xs => TVs.cells xs
  | .tup xs => [.tuple (TVs.vals xs).toArray]
  | .fn f a b => [.func f (TVs.vals a).toArray (TVs.vals b).toArray]
  | .any v => v.cells.toList
def TVs.cells : List TV → List Value
  | [] => []
  | x :: xs => TV.cells x ++ TVs.cells xs
/-- The value itself. -/
def TV.val : TV → Value
  | .int k n => .int k n
  | .bool b => .bool b
  | .str s => .string ⟨s.toArray⟩
  | .ptr p => .pointer (p.map Loc.addr)
  | .slice s => slVal s
  | .map r => .map r
  | .one v => v.v
  | .bytes _ b => .agg (b.l.map fun c => .int .u8 (c.toNat : Int)).toArray
  | .words k _ w => .agg (w.l.map fun c => .int k c).toArray
  | .agg xs => .agg (TVs.cells xs).toArray
  | .tup xs => .tuple (TVs.vals xs).toArray
  | .fn f a b => .func f (TVs.vals a).toArray (TVs.vals b).toArray
  | .any v => v
def TVs.vals : List TV → List Value
  | [] => []
  | x :: xs => TV.val x :: TVs.vals xs
end

mutual
/-- How many cells. -/
def TV.size : TV → Nat
  | .bytes n _ => n
  | .words _ n _ => n
  | .agg xs => TVs.size xs
  | .any v => v.cells.size
  | _ => 1
def TVs.size : List TV → Nat
  | [] => 0
  | x :: xs => TV.size x + TVs.size xs
end

mutual
def Sh.size : Sh → Nat
  | .bytes n => n
  | .words _ n => n
  | .agg xs => Shs.size xs
  | _ => 1
def Shs.size : List Sh → Nat
  | [] => 0
  | x :: xs => Sh.size x + Shs.size xs
end

mutual
/-- The zero value of a shape. -/
def Sh.zero : Sh → TV
  | .int k => .int k 0
  | .bool => .bool false
  | .str => .str []
  | .ptr => .ptr none
  | .slice => .slice Sl.nil
  | .map => .map none
  | .one => .one ⟨.nilIface, rfl⟩
  | .bytes n => .bytes n (Bs.zero n)
  | .words k n => .words k n (Ws.zero n)
  | .agg xs => .agg (Shs.zero xs)
  | .tup xs => .tup (Shs.zero xs)
def Shs.zero : List Sh → List TV
  | [] => []
  | x :: xs => Sh.zero x :: Shs.zero xs
end

mutual
/-- There is a value of that shape of which something holds. -/
def Ex : Sh → (TV → Prop) → Prop
  | .int k, K => ∃ n : Int, K (.int k n)
  | .bool, K => ∃ b : Bool, K (.bool b)
  | .str, K => ∃ s : List UInt8, K (.str s)
  | .ptr, K => ∃ p : Option Loc, K (.ptr p)
  | .slice, K => ∃ s : Sl, K (.slice s)
  | .map, K => ∃ r : Option Nat, K (.map r)
  | .one, K => ∃ v : One, K (.one v)
  | .bytes n, K => ∃ b : Bs n, K (.bytes n b)
  | .words k n, K => ∃ w : Ws n, K (.words k n w)
  | .agg xs, K => Exs xs fun vs => K (.agg vs)
  | .tup xs, K => Exs xs fun vs => K (.tup vs)
def Exs : List Sh → (List TV → Prop) → Prop
  | [], K => K []
  | x :: xs, K => Ex x fun v => Exs xs fun vs => K (v :: vs)
end

mutual
/-- Whether a value has a shape. -/
def TV.has : TV → Sh → Bool
  | .int k _, .int k' => k == k'
  | .bool _, .bool => true
  | .str _, .str => true
  | .ptr _, .ptr => true
  | .slice _, .slice => true
  | .map _, .map => true
  | .one _, .one => true
  | .bytes n _, .bytes m => n == m
  | .words k n _, .words k' m => k == k' && n == m
  | .agg xs, .agg ys => TVs.has xs ys
  | .tup xs, .tup ys => TVs.has xs ys
  | .fn _ _ _, .one => true
  | _, _ => false
def TVs.has : List TV → List Sh → Bool
  | [], [] => true
  | x :: xs, y :: ys => TV.has x y && TVs.has xs ys
  | _, _ => false
end

mutual
theorem TV.cells_length : ∀ t : TV, t.cells.length = t.size
  | .int .. | .bool .. | .str .. | .ptr .. | .slice .. | .map .. | .one .. | .tup .. | .fn .. => rfl
  | .any v => by simp [TV.cells, TV.size]
  | .bytes n b => by simp [TV.cells, TV.size, b.h]
  | .words k n w => by simp [TV.cells, TV.size, w.h]
  | .agg xs => by simp only [TV.cells, TV.size]; exact TVs.cells_length xs
theorem TVs.cells_length : ∀ ts : List TV, (TVs.cells ts).length = TVs.size ts
  | [] => rfl
  | x :: xs => by simp only [TVs.cells, TVs.size, List.length_append, TV.cells_length x, TVs.cells_length xs]
end

theorem One.cells (v : One) : v.v.cells = #[v.v] := by
  obtain ⟨v, h⟩ := v
  show v.cells = #[v]
  cases v
  case agg => exact absurd h (by simp [isOne])
  all_goals rfl

theorem TV.val_cells (t : TV) : t.val.cells = t.cells.toArray := by
  cases t
  case one v => simp only [TV.val, TV.cells]; exact One.cells v
  all_goals simp [TV.val, TV.cells, Value.cells, slVal]

mutual
theorem TV.has_size : ∀ (t : TV) (s : Sh), t.has s = true → t.size = s.size
  | t, s, h => by
    cases t <;> cases s <;> simp_all [TV.has, TV.size, Sh.size]
    exact TVs.has_size _ _ h
theorem TVs.has_size : ∀ (t : List TV) (s : List Sh), TVs.has t s = true → TVs.size t = Shs.size s
  | [], [], _ => rfl
  | x :: xs, y :: ys, h => by
    simp only [TVs.has, Bool.and_eq_true] at h
    simp only [TVs.size, Shs.size, TV.has_size x y h.1, TVs.has_size xs ys h.2]
  | [], _ :: _, h => by simp [TVs.has] at h
  | _ :: _, [], h => by simp [TVs.has] at h
end

mutual
theorem ex_iff : ∀ (s : Sh) (K : TV → Prop), Ex s K → ∃ t : TV, t.has s = true ∧ K t
  | .int k, K, ⟨n, h⟩ => ⟨_, by simp [TV.has], h⟩
  | .bool, K, ⟨n, h⟩ => ⟨_, rfl, h⟩
  | .str, K, ⟨n, h⟩ => ⟨_, rfl, h⟩
  | .ptr, K, ⟨n, h⟩ => ⟨_, rfl, h⟩
  | .slice, K, ⟨n, h⟩ => ⟨_, rfl, h⟩
  | .map, K, ⟨n, h⟩ => ⟨_, rfl, h⟩
  | .one, K, ⟨n, h⟩ => ⟨_, rfl, h⟩
  | .bytes k, K, ⟨n, h⟩ => ⟨_, by simp [TV.has], h⟩
  | .words k m, K, ⟨n, h⟩ => ⟨_, by simp [TV.has], h⟩
  | .agg xs, K, h => by
    obtain ⟨ts, h1, h2⟩ := exs_iff xs _ h
    exact ⟨.agg ts, by simpa [TV.has] using h1, h2⟩
  | .tup xs, K, h => by
    obtain ⟨ts, h1, h2⟩ := exs_iff xs _ h
    exact ⟨.tup ts, by simpa [TV.has] using h1, h2⟩
theorem exs_iff : ∀ (s : List Sh) (K : List TV → Prop), Exs s K → ∃ t : List TV, TVs.has t s = true ∧ K t
  | [], K, h => ⟨[], rfl, h⟩
  | x :: xs, K, h => by
    obtain ⟨t, h1, h2⟩ := ex_iff x _ h
    obtain ⟨ts, h3, h4⟩ := exs_iff xs _ h2
    exact ⟨t :: ts, by simp [TVs.has, h1, h3], h4⟩
end

/-! ### The heap -/

def cel (h : Heap) (b o : Nat) : Option Value :=
  match h[b]? with
  | some (.cells c _ _) => c[o]?
  | _ => none

def frz (h : Heap) (b o : Nat) : Bool :=
  match h[b]? with
  | some (.cells _ _ (lo, hi)) => lo ≤ o && o < hi
  | _ => false

def putc (h : Heap) (b o : Nat) (v : Value) : Heap :=
  h.modify b fun
    | .cells c e f => .cells (c.setIfInBounds o v) e f
    | x => x

/-- Values one behind the other. -/
def putl (h : Heap) (b o : Nat) : List Value → Heap
  | [] => h
  | v :: vs => putl (putc h b o v) b (o + 1) vs

/-- A row of cells of an element's type. -/
def row (vs : List Value) (t : TypeId) : Obj := .cells vs.toArray t (0, 0)

theorem cell?_eq (w : World) (b o : Nat) : w.cell? ⟨b, o, none⟩ = cel w.heap b o := by
  unfold World.cell? cel
  dsimp only
  split
  · next h => simp [h]
  · next h => split
              · next h2 => exact absurd h2 (h _ _ _)
              · rfl

theorem frozen?_eq (w : World) (b o : Nat) : w.frozen? ⟨b, o, none⟩ = frz w.heap b o := rfl

theorem setCell_heap (w : World) (b o : Nat) (v : Value) : (w.setCell ⟨b, o, none⟩ v).heap = putc w.heap b o v := by
  simp only [World.setCell, putc]
  congr 1

/-- A value lies at a place. -/
def at1 (h : Heap) (b o : Nat) (v : Value) : Prop := cel h b o = some v
def atBytes (h : Heap) (b o n : Nat) (x : Bs n) : Prop := ∀ j, j < n → cel h b (o + j) = some (.int .u8 ((x.l.getD j 0).toNat : Int))
def atWords (h : Heap) (b o : Nat) (k : IntKind) (n : Nat) (x : Ws n) : Prop := ∀ j, j < n → cel h b (o + j) = some (.int k (x.l.getD j 0))

mutual
def TV.at (h : Heap) (b o : Nat) : TV → Prop
  | .int k n => at1 h b o (.int k n)
  | .bool x => at1 h b o (.bool x)
  | .str s => at1 h b o (.string ⟨s.toArray⟩)
  | .ptr p => at1 h b o (.pointer (p.map Loc.addr))
  | .slice s => at1 h b o (slVal s)
  | .map r => at1 h b o (.map r)
  | .one v => at1 h b o v.v
  | .bytes n x => atBytes h b o n x
  | .words k n x => atWords h b o k n x
  | .agg xs => TVs.at h b o xs
  | .tup xs => at1 h b o (.tuple (TVs.vals xs).toArray)
  | .fn f x y => at1 h b o (.func f (TVs.vals x).toArray (TVs.vals y).toArray)
  | .any v => ∀ j, j < v.cells.size → cel h b (o + j) = v.cells.toList[j]?
def TVs.at (h : Heap) (b o : Nat) : List TV → Prop
  | [] => True
  | [x] => TV.at h b o x
  | x :: y :: xs => TV.at h b o x ∧ TVs.at h b (o + TV.size x) (y :: xs)
end

theorem getElem?_toBytes {n : Nat} (b : Bs n) (j : Nat) (hj : j < n) : (b.l.map fun c => Value.int .u8 (c.toNat : Int))[j]? = some (.int .u8 ((b.l.getD j 0).toNat : Int)) := by
  have : j < b.l.length := by rw [b.h]; exact hj
  simp [this]

theorem getElem?_toWords {n : Nat} (k : IntKind) (b : Ws n) (j : Nat) (hj : j < n) : (b.l.map fun c => Value.int k c)[j]? = some (.int k (b.l.getD j 0)) := by
  have : j < b.l.length := by rw [b.h]; exact hj
  simp [this]

mutual
theorem TV.at_iff (h : Heap) (b : Nat) : ∀ (t : TV) (o : Nat), t.at h b o ↔ ∀ j, j < t.size → cel h b (o + j) = t.cells[j]?
  | .int .., o | .bool .., o | .str .., o | .ptr .., o | .slice .., o | .map .., o | .one .., o | .tup .., o | .fn .., o => by
    simp only [TV.at, TV.size, TV.cells, at1]
    constructor
    · intro hh j hj
      have : j = 0 := by omega
      subst this
      simpa using hh
    · intro hh
      simpa using hh 0 (by omega)
  | .bytes n x, o => by
    simp only [TV.at, TV.size, TV.cells, atBytes]
    constructor
    · intro hh j hj
      rw [getElem?_toBytes x j hj]; exact hh j hj
    · intro hh j hj
      rw [← getElem?_toBytes x j hj]; exact hh j hj
  | .words k n x, o => by
    simp only [TV.at, TV.size, TV.cells, atWords]
    constructor
    · intro hh j hj
      rw [getElem?_toWords k x j hj]; exact hh j hj
    · intro hh j hj
      rw [← getElem?_toWords k x j hj]; exact hh j hj
  | .any v, o => by simp only [TV.at, TV.size, TV.cells]
  | .agg xs, o => by
    simp only [TV.at, TV.size, TV.cells]
    exact TVs.at_iff h b xs o
theorem TVs.at_iff (h : Heap) (b : Nat) : ∀ (ts : List TV) (o : Nat), TVs.at h b o ts ↔ ∀ j, j < TVs.size ts → cel h b (o + j) = (TVs.cells ts)[j]?
  | [], o => by simp [TVs.at, TVs.size]
  | [x], o => by
    simp only [TVs.at, TVs.size, TVs.cells, List.append_nil, Nat.add_zero]
    exact TV.at_iff h b x o
  | x :: y :: xs, o => by
    have hx := TV.at_iff h b x o
    have hy := TVs.at_iff h b (y :: xs) (o + TV.size x)
    have hl := TV.cells_length x
    rw [TVs.at, hx, hy]
    show _ ↔ ∀ j, j < TV.size x + TVs.size (y :: xs) → cel h b (o + j) = (TV.cells x ++ TVs.cells (y :: xs))[j]?
    constructor
    · rintro ⟨h1, h2⟩ j hj
      by_cases hlt : j < TV.size x
      · rw [List.getElem?_append_left (by omega)]; exact h1 j hlt
      · have := h2 (j - TV.size x) (by omega)
        rw [List.getElem?_append_right (by omega), hl, ← this]
        congr 1; omega
    · intro hh
      constructor
      · intro j hj
        rw [hh j (by omega), List.getElem?_append_left (by omega)]
      · intro j hj
        have := hh (TV.size x + j) (by omega)
        rw [List.getElem?_append_right (by omega), hl] at this
        rw [← Nat.add_assoc] at this
        rw [this]; congr 1; omega
end

/-- A value is put at a place. -/
def TV.put (h : Heap) (b o : Nat) (t : TV) : Heap := putl h b o t.cells

/-- So many cells from a place on may be written. -/
def wok (h : Heap) (b o n : Nat) : Prop := ∀ j, j < n → (cel h b (o + j)).isSome = true ∧ frz h b (o + j) = false

/-- A new row that holds a value. -/
def newTV (h : Heap) (t : TV) (T : TypeId) : Heap := h.push (row t.cells T)

end Go.Vc
end

section
/- Conditions for the operations that only reckon or read: each comes with the proof that the model's operation does what it says. -/
namespace Go.Vc
open Go

/-! ### What the table of types says -/

structure TI where
  d : Option TypeDesc
  sh : Sh
  z : TV
  size : Nat
  bytes : Nat
  offs : Bool
  eqg : Bool
  held : Bool

def One.of (v : Value) : One := if h : isOne v = true then ⟨v, h⟩ else ⟨.nilIface, rfl⟩

def shOf (P : Program) : Nat → TypeId → Sh
  | 0, _ => .one
  | d + 1, t => match P.underlying t with
    | some .bool => .bool
    | some (.int k) => .int k
    | some .string => .str
    | some (.pointer _) => .ptr
    | some (.slice _) => .slice
    | some (.map _ _) => .map
    | some (.struct fs) => .agg (fs.toList.map fun f => shOf P d f.type)
    | some (.array n e) => match P.underlying e with
      | some (.int .u8) => .bytes n
      | some (.int k) => .words k n
      | _ => .agg (List.replicate n (shOf P d e))
    | some (.tuple ts) => .tup (ts.toList.map (shOf P d))
    | _ => .one

def zOf (P : Program) : Nat → TypeId → TV
  | 0, _ => .bool false
  | d + 1, t => match P.underlying t with
    | some .bool => .bool false
    | some (.int k) => .int k 0
    | some .string => .str []
    | some (.pointer _) => .ptr none
    | some (.slice _) => .slice Sl.nil
    | some (.map _ _) => .map none
    | some (.struct fs) => .agg (fs.toList.map fun f => zOf P d f.type)
    | some (.array n e) => match P.underlying e with
      | some (.int .u8) => .bytes n (Bs.zero n)
      | some (.int k) => .words k n (Ws.zero n)
      | _ => .agg (List.replicate n (zOf P d e))
    | some (.tuple ts) => .tup (ts.toList.map (zOf P d))
    | _ => .one (One.of (((P.info? t).bind (·.zero)).getD .nilIface))

def isAggD : Option TypeDesc → Bool
  | some (.struct _) | some (.array _ _) => true
  | _ => false

def offsOk (P : Program) : List Sh → List Field → Nat → Bool
  | [], [], _ => true
  | s :: ss, f :: fs, n => f.offset == n && s.size == P.cellsOf f.type && (match s with | .bytes _ | .words _ _ | .agg _ => true | _ => false) == isAggD (P.underlying f.type) && (P.underlying f.type).isSome && offsOk P ss fs (n + s.size)
  | _, _, _ => false

def TI.of (P : Program) (t : TypeId) : TI :=
  { d := P.underlying t, sh := shOf P 20 t, z := zOf P 20 t, size := P.cellsOf t, bytes := P.bytesOf t
    offs := match P.underlying t, shOf P 20 t with
      | some (.struct fs), .agg ss => offsOk P ss fs.toList 0
      | _, _ => false
    eqg := P.eqGuardType P.depth t
    held := P.stoodInHeld t }

def isTup : Option TypeDesc → Bool
  | some (.tuple _) => true
  | _ => false

structure Ctx where
  P : Program
  tab : List TI
  ent : List Bool
  /-- Regions in which a call writes where it likes: what is read early is read of what stands all the time. -/
  loose : Bool := false
  /-- Calls are told how often they drew. -/
  strict : Bool := false

def Ctx.ti (C : Ctx) (t : TypeId) : TI := C.tab.getD t ⟨none, .one, .bool false, 0, 0, false, true, true⟩

/-- What has to be shown once of a program. -/
structure Ctx.Ok (C : Ctx) : Prop where
  tab : ∀ t, t < C.tab.length → C.ti t = TI.of C.P t
  zero : ∀ t, t < C.tab.length → (C.ti t).d.isSome = true → ∃ i, C.P.info? t = some i ∧ (isTup (C.ti t).d = true ∨ i.zero = some (C.ti t).z.val)
  size : ∀ t, t < C.tab.length → isTup (C.ti t).d = true ∨ (C.ti t).sh.size = (C.ti t).size ∧ (C.ti t).z.size = (C.ti t).size
  ent : ∀ f, C.ent.getD f false = true → ∃ fn, C.P.funcs[f]? = some fn ∧ fn.body.isSome = true ∧ (fn.name == "runtime.NumGoroutine") = false
  mixed : C.P.follows .mixedOrders = true

theorem Ctx.ti_lt {C : Ctx} {t : TypeId} (h : (C.ti t).d.isSome = true) : t < C.tab.length := by
  rcases Nat.lt_or_ge t C.tab.length with h' | h'
  · exact h'
  · simp [Ctx.ti, h'] at h

theorem Ctx.Ok.d {C : Ctx} (hC : C.Ok) {t : TypeId} {d : TypeDesc} (h : (C.ti t).d = some d) : C.P.underlying t = some d := by
  have hl := Ctx.ti_lt (C := C) (t := t) (by simp [h])
  rw [← h, hC.tab t hl]; rfl

theorem Ctx.Ok.info {C : Ctx} (hC : C.Ok) {t : TypeId} {d : TypeDesc} (h : (C.ti t).d = some d) : ∃ i, C.P.info? t = some i ∧ i.size = (C.ti t).size ∧ i.bytes = (C.ti t).bytes := by
  have hl := Ctx.ti_lt (C := C) (t := t) (by simp [h])
  obtain ⟨i, hi, _⟩ := hC.zero t hl (by simp [h])
  refine ⟨i, hi, ?_, ?_⟩
  · rw [hC.tab t hl]; simp [TI.of, Program.cellsOf, hi]
  · rw [hC.tab t hl]; simp [TI.of, Program.bytesOf, hi]

/-! ### Environments -/

abbrev Env := List (Option TV)

structure EnvOk (env : Env) (a : Act) : Prop where
  defers : a.defers = []
  size : a.tmps.size = env.length
  slot : ∀ (i : Nat) (tv : TV), env[i]? = some (some tv) → a.tmps[i]? = some tv.val

/-- What a constant is. -/
def TV.const : Value → Option TV
  | .int k n => some (.int k n)
  | .bool b => some (.bool b)
  | .string s => some (.str s.data.toList)
  | .pointer none => some (.ptr none)
  | .slice none 0 0 => some (.slice Sl.nil)
  | .map none => some (.map none)
  | .nilFunc => some (.one ⟨.nilFunc, rfl⟩)
  | .nilIface => some (.one ⟨.nilIface, rfl⟩)
  | _ => none

def Env.ev (env : Env) : Operand → Option TV
  | .tmp t => env.getD t none
  | .const v => TV.const v
  | .global g => some (.ptr (some ⟨g, 0⟩))
  | .func f => some (.fn (.func f) [] [])

def Env.put (env : Env) (d : Option Tmp) (r : Option TV) : Env :=
  match d with
  | some d => env.set d r
  | none => env

/-- A known value is the value. -/
def Rel (r : Option TV) (v : Value) : Prop := ∀ tv, r = some tv → v = tv.val

theorem Rel.none (v : Value) : Rel .none v := fun _ h => by cases h
theorem Rel.some {tv : TV} {v : Value} (h : v = tv.val) : Rel (some tv) v := fun _ e => by cases e; exact h

theorem TV.const_val {v : Value} {tv : TV} (h : TV.const v = some tv) : v = tv.val := by
  unfold TV.const at h
  split at h <;> simp at h <;> subst h <;> simp [TV.val, slVal, Sl.nil]

theorem EnvOk.rel {env : Env} {a : Act} (h : EnvOk env a) (x : Operand) : Rel (env.ev x) (a.eval x) := by
  intro tv hx
  cases x with
  | tmp t =>
    simp only [Env.ev] at hx
    have hx' : env[t]? = some (some tv) := by
      rw [List.getD_eq_getElem?_getD] at hx
      cases he : env[t]? with
      | none => rw [he] at hx; cases hx
      | some y => rw [he] at hx; simp at hx; rw [hx]
    have := h.slot t tv hx'
    simp [Act.eval, this]
  | const v => exact TV.const_val hx
  | global g => simp only [Env.ev, Option.some.injEq] at hx; subst hx; rfl
  | func f => simp only [Env.ev, Option.some.injEq] at hx; subst hx; rfl

theorem EnvOk.known {env : Env} {a : Act} (h : EnvOk env a) {x : Operand} {tv : TV} (hx : env.ev x = some tv) : a.eval x = tv.val := h.rel x tv hx

theorem EnvOk.put {env : Env} {a : Act} (h : EnvOk env a) (d : Option Tmp) {r : Option TV} {v : Value} (hr : Rel r v) : EnvOk (env.put d r) (a.put d v) := by
  cases d with
  | none => exact h
  | some d =>
    refine ⟨h.defers, by simp [Act.put, Env.put, h.size], fun i tv hi => ?_⟩
    simp only [Env.put, List.getElem?_set] at hi
    simp only [Act.put, Array.getElem?_setIfInBounds]
    by_cases hdi : d = i
    · subst hdi
      simp only [if_true] at hi ⊢
      by_cases hl : d < env.length
      · rw [if_pos hl] at hi
        rw [if_pos (by rw [h.size]; exact hl)]
        simp only [Option.some.injEq] at hi
        rw [hr tv hi]
      · rw [if_neg hl] at hi; cases hi
    · rw [if_neg hdi] at hi ⊢
      exact h.slot i tv hi

/-! ### Comparisons and arithmetic -/

def vcInt (op : BinOp) (k : IntKind) (a b : Int) (K : Option TV → Prop) : Prop :=
  match op with
  | .add => K (some (.int k (k.wrap (a + b))))
  | .sub => K (some (.int k (k.wrap (a - b))))
  | .mul => K (some (.int k (k.wrap (a * b))))
  | .quo => b ≠ 0 ∧ K (some (.int k (k.wrap (a.tdiv b))))
  | .rem => b ≠ 0 ∧ K (some (.int k (a.tmod b)))
  | .and => K (some (.int k (k.wrap (BitVec.ofInt k.bits a &&& BitVec.ofInt k.bits b).toNat)))
  | .or => K (some (.int k (k.wrap (BitVec.ofInt k.bits a ||| BitVec.ofInt k.bits b).toNat)))
  | .xor => K (some (.int k (k.wrap (BitVec.ofInt k.bits a ^^^ BitVec.ofInt k.bits b).toNat)))
  | .andNot => K (some (.int k (k.wrap (BitVec.ofInt k.bits a &&& ~~~ BitVec.ofInt k.bits b).toNat)))
  | .eql => K (some (.bool (decide (a = b))))
  | .neq => K (some (.bool (!decide (a = b))))
  | .lss => K (some (.bool (decide (a < b))))
  | .leq => K (some (.bool (decide (a ≤ b))))
  | .gtr => K (some (.bool (decide (b < a))))
  | .geq => K (some (.bool (decide (b ≤ a))))
  | .shl | .shr => False

def vcShift (op : BinOp) (k : IntKind) (a b : Int) (K : Option TV → Prop) : Prop :=
  match op with
  | .shl => 0 ≤ b ∧ K (some (.int k (k.wrap (a * 2 ^ (min b.toNat k.bits)))))
  | .shr => 0 ≤ b ∧ K (some (.int k (a.fdiv (2 ^ (min b.toNat k.bits)))))
  | _ => False

def vcStr (op : BinOp) (a b : List UInt8) (K : Option TV → Prop) : Prop :=
  match op with
  | .add => ((a.length + b.length : Nat) : Int) ≤ 9223372036854775807 ∧ K (some (.str (a ++ b)))
  | .eql => K (some (.bool (decide (a = b))))
  | .neq => K (some (.bool (!decide (a = b))))
  | .lss => K (some (.bool (Op.bytesLess a b)))
  | .leq => K (some (.bool (Op.bytesLess a b || decide (a = b))))
  | .gtr => K (some (.bool (!(Op.bytesLess a b || decide (a = b)))))
  | .geq => K (some (.bool (!Op.bytesLess a b)))
  | _ => False

def vcEq (op : BinOp) (e : Bool) (K : Option TV → Prop) : Prop :=
  match op with
  | .eql => K (some (.bool e))
  | .neq => K (some (.bool (!e)))
  | _ => False

mutual
/-- Whether two values of one plain shape are the same. -/
def TV.eqb : TV → TV → Option Bool
  | .int k a, .int k' b => match k == k' with | true => some (decide (a = b)) | false => none
  | .bool a, .bool b => some (a == b)
  | .str a, .str b => some (decide (a = b))
  | .bytes n a, .bytes m b => match n == m with | true => some (decide (a.l = b.l)) | false => none
  | .words k n a, .words k' m b => match k == k' && n == m with | true => some (decide (a.l = b.l)) | false => none
  | .agg xs, .agg ys => TVs.eqb xs ys
  | _, _ => none
def TVs.eqb : List TV → List TV → Option Bool
  | [], [] => some true
  | [x], [y] => TV.eqb x y
  | x :: xs, y :: ys => match TV.eqb x y, TVs.eqb xs ys with
    | some a, some b => some (a && b)
    | _, _ => none
  | _, _ => none
end

def vcBin (C : Ctx) (op : BinOp) (t : TypeId) (x y : Option TV) (K : Option TV → Prop) : Prop :=
  match x, y with
  | some (.int k a), some (.int k' b) => match op with
    | .shl => vcShift .shl k a b K
    | .shr => vcShift .shr k a b K
    | op => match k == k' with
      | true => vcInt op k a b K
      | false => False
  | some (.str a), some (.str b) => vcStr op a b K
  | some (.bool a), some (.bool b) => match (C.ti t).d with
    | some .bool => vcEq op (a == b) K
    | _ => False
  | some (.ptr a), some (.ptr none) => match (C.ti t).d with
    | some (.pointer _) => vcEq op a.isNone K
    | _ => False
  | some (.ptr none), some (.ptr b) => match (C.ti t).d with
    | some (.pointer _) => vcEq op b.isNone K
    | _ => False
  | some (.slice s), some (.slice ⟨none, 0, 0⟩) => match (C.ti t).d with
    | some (.slice _) => vcEq op s.a.isNone K
    | _ => False
  | some (.map r), some (.map none) => match (C.ti t).d with
    | some (.map _ _) => vcEq op r.isNone K
    | _ => False
  | some (.bytes n a), some (.bytes m b) => match (C.ti t).d, (C.ti t).eqg, n == m with
    | some (.array n' e), false, true => match (C.ti e).d, n' == n with
      | some (.int .u8), true => vcEq op (decide (a.l = b.l)) K
      | _, _ => False
    | _, _, _ => False
  | _, _ => False

section
variable {P : Program}

/-- What an operation that leaves the world alone comes to. -/
def Gives (P : Program) (s : Sem Value) (h : Heap) (v : Value) : Prop := ∀ w : World, w.heap = h → s.run P w = .ok v w

/-- The same in whatever world. -/
def GivesA (P : Program) (s : Sem Value) (v : Value) : Prop := ∀ w : World, s.run P w = .ok v w

theorem beq_dec (a b : Int) : (a == b) = decide (a = b) := by by_cases e : a = b <;> simp [e]

theorem vcInt_sound {op : BinOp} {k : IntKind} {a b : Int} {K : Option TV → Prop} {t : TypeId} (hv : vcInt op k a b K) :
    ∃ r v, K r ∧ Rel r v ∧ GivesA P (binOp op t (.int k a) (.int k b)) v := by
  cases op <;> simp only [vcInt] at hv
  case quo => exact ⟨_, _, hv.2, .some rfl, fun w => by simp [binOp, Op.intDiv, hv.1, TV.val]⟩
  case rem => exact ⟨_, _, hv.2, .some rfl, fun w => by simp [binOp, Op.intDiv, hv.1, TV.val]⟩
  case and => exact ⟨_, _, hv, .some rfl, fun w => by simp [binOp, Op.intBits, TV.val]⟩
  case or => exact ⟨_, _, hv, .some rfl, fun w => by simp [binOp, Op.intBits, TV.val]⟩
  case xor => exact ⟨_, _, hv, .some rfl, fun w => by simp [binOp, Op.intBits, TV.val]⟩
  case andNot => exact ⟨_, _, hv, .some rfl, fun w => by simp [binOp, Op.intBits, TV.val]⟩
  case eql => exact ⟨_, _, hv, .some rfl, fun w => by simp [binOp, Op.intCmp, TV.val, beq_dec]⟩
  case neq => exact ⟨_, _, hv, .some rfl, fun w => by simp [binOp, Op.intCmp, TV.val, bne, beq_dec]⟩
  all_goals exact ⟨_, _, hv, .some rfl, fun w => by simp [binOp, Op.intArith, Op.intCmp, TV.val]⟩

theorem vcShift_sound {op : BinOp} {k yk : IntKind} {a b : Int} {K : Option TV → Prop} {t : TypeId} (hv : vcShift op k a b K) :
    ∃ r v, K r ∧ Rel r v ∧ GivesA P (binOp op t (.int k a) (.int yk b)) v := by
  cases op <;> simp only [vcShift] at hv
  case shl => exact ⟨_, _, hv.2, .some rfl, fun w => by simp [binOp, Op.shift, show ¬ b < 0 by omega, TV.val]⟩
  case shr => exact ⟨_, _, hv.2, .some rfl, fun w => by simp [binOp, Op.shift, show ¬ b < 0 by omega, TV.val]⟩

theorem toList_str (a : List UInt8) : (⟨a.toArray⟩ : ByteArray).toList = a := by
  rw [ByteArray.toList_eq]

theorem beq_list (a b : List UInt8) : (a == b) = decide (a = b) := by by_cases e : a = b <;> simp [e]

theorem vcStr_sound {op : BinOp} {a b : List UInt8} {K : Option TV → Prop} {t : TypeId} (hv : vcStr op a b K) :
    ∃ r v, K r ∧ Rel r v ∧ GivesA P (binOp op t (.string ⟨a.toArray⟩) (.string ⟨b.toArray⟩)) v := by
  cases op <;> simp only [vcStr] at hv
  case add =>
    refine ⟨_, _, hv.2, .some rfl, fun w => ?_⟩
    have h1 := hv.1
    simp only [binOp]
    rw [run_string_add_sum w]
    · simp [TV.val]; rfl
    · simp [ByteArray.size]; omega
  all_goals exact ⟨_, _, hv, .some rfl, fun w => by simp [binOp, Op.stringOp, TV.val, beq_list]⟩

theorem isAgg_run {t : TypeId} {d : TypeDesc} (hu : P.underlying t = some d) (w : World) : (isAgg t).run P w = .ok (isAggD (some d)) w := by
  unfold isAgg
  simp only [Sem.run_bind, run_underlying hu, Result.andThen_ok]
  cases d <;> rfl

theorem part_byte {e : TypeId} (he : P.underlying e = some (.int .u8)) (cs : Array Value) (i : Nat) (v : Value) (hv : cs[i]? = some v) (w : World) : (part e cs i).run P w = .ok v w := by
  unfold part
  simp only [Sem.run_bind, isAgg_run he, Result.andThen_ok, isAggD, hv]
  rfl

theorem equalIn_byte {e : TypeId} (he : P.underlying e = some (.int .u8)) (d : Nat) (a b : Int) (w : World) : (Op.equalIn (d + 1) e (.int .u8 a) (.int .u8 b)).run P w = .ok (decide (a = b)) w := by
  simp only [Op.equalIn, Sem.run_bind, run_underlying he, Result.andThen_ok]
  simp [beq_dec]

theorem eqItems_bytes {e : TypeId} (he : P.underlying e = some (.int .u8)) (hc : P.cellsOf e = 1) (d : Nat) {n : Nat} (a b : Bs n) (w : World) : ∀ (m j : Nat), j + m = n →
    (Op.eqItems (d + 1) e (P.cellsOf e) (a.l.map fun c => Value.int .u8 (c.toNat : Int)).toArray (b.l.map fun c => Value.int .u8 (c.toNat : Int)).toArray (List.range' j m)).run P w = .ok (decide (a.l.drop j = b.l.drop j)) w
  | 0, j, hj => by
    have ha := a.h
    have hb := b.h
    rw [List.drop_of_length_le (by omega), List.drop_of_length_le (by omega)]
    simp [Op.eqItems]
  | m + 1, j, hj => by
    have ha := a.h
    have hb := b.h
    have hja : j < a.l.length := by omega
    have hjb : j < b.l.length := by omega
    simp only [List.range'_succ, Op.eqItems, hc, Nat.mul_one, Sem.run_bind]
    rw [part_byte he _ j (.int .u8 (a.l[j].toNat : Int)) (by simp [hja])]
    simp only [Result.andThen_ok]
    rw [part_byte he _ j (.int .u8 (b.l[j].toNat : Int)) (by simp [hjb])]
    simp only [Result.andThen_ok]
    rw [equalIn_byte he]
    simp only [Result.andThen_ok]
    have ih := eqItems_bytes he hc d a b w m (j + 1) (by omega)
    rw [hc] at ih
    have hd : (a.l.drop j = b.l.drop j) ↔ (a.l[j] = b.l[j] ∧ a.l.drop (j + 1) = b.l.drop (j + 1)) := by
      rw [List.drop_eq_getElem_cons hja, List.drop_eq_getElem_cons hjb, List.cons.injEq]
    by_cases e : a.l[j] = b.l[j]
    · rw [e]
      simp only [decide_true, Bool.not_true, Bool.false_eq_true, if_false]
      rw [ih]
      congr 1
      exact decide_eq_decide.2 ⟨fun h => hd.2 ⟨e, h⟩, fun h => (hd.1 h).2⟩
    · have h1 : ¬ ((a.l[j].toNat : Int) = b.l[j].toNat) := by
        intro h
        apply e
        apply UInt8.toNat_inj.1
        omega
      have h2 : ¬ (a.l.drop j = b.l.drop j) := fun h => e (hd.1 h).1
      rw [decide_eq_false h1, decide_eq_false h2]
      simp

theorem equal_bytes {t e : TypeId} {n : Nat} (ht : P.underlying t = some (.array n e)) (he : P.underlying e = some (.int .u8)) {i : TypeInfo} (hi : P.info? e = some i) (hc : P.cellsOf e = 1) (a b : Bs n) (w : World) :
    (Op.equal t (.agg (a.l.map fun c => Value.int .u8 (c.toNat : Int)).toArray) (.agg (b.l.map fun c => Value.int .u8 (c.toNat : Int)).toArray)).run P w = .ok (decide (a.l = b.l)) w := by
  unfold Op.equal Op.maxDepth
  rw [run_equalIn_array w 9999 _ _ ht hi, List.range_eq_range', eqItems_bytes he hc 9998 a b w n 0 (by omega)]
  simp

theorem vcEq_sound {op : BinOp} {e : Bool} {K : Option TV → Prop} {t : TypeId} {X Y : Value} (hv : vcEq op e K)
    (h1 : binOp .eql t X Y = (do pure (.bool (← Op.equal t X Y)))) (h2 : binOp .neq t X Y = (do pure (.bool (!(← Op.equal t X Y)))))
    (he : ∀ w : World, (Op.equal t X Y).run P w = .ok e w) :
    ∃ r v, K r ∧ Rel r v ∧ GivesA P (binOp op t X Y) v := by
  cases op <;> simp only [vcEq] at hv
  case eql => exact ⟨_, .bool e, hv, .some rfl, fun w => by rw [h1]; simp [he w]⟩
  case neq => exact ⟨_, .bool (!e), hv, .some rfl, fun w => by rw [h2]; simp [he w]⟩

theorem eqIn_bool {t : TypeId} (hu : P.underlying t = some .bool) (d : Nat) (a b : Bool) (w : World) : (Op.equalIn (d + 1) t (.bool a) (.bool b)).run P w = .ok (a == b) w := by
  simp only [Op.equalIn, Sem.run_bind, run_underlying hu, Result.andThen_ok]; rfl
theorem eqIn_ptrL {t e : TypeId} (hu : P.underlying t = some (.pointer e)) (d : Nat) (a : Option Addr) (w : World) : (Op.equalIn (d + 1) t (.pointer a) (.pointer none)).run P w = .ok a.isNone w := by
  simp only [Op.equalIn, Sem.run_bind, run_underlying hu, Result.andThen_ok]; cases a <;> rfl
theorem eqIn_ptrR {t e : TypeId} (hu : P.underlying t = some (.pointer e)) (d : Nat) (a : Option Addr) (w : World) : (Op.equalIn (d + 1) t (.pointer none) (.pointer a)).run P w = .ok a.isNone w := by
  simp only [Op.equalIn, Sem.run_bind, run_underlying hu, Result.andThen_ok]; rfl
theorem eqIn_slice {t e : TypeId} (hu : P.underlying t = some (.slice e)) (d : Nat) (a : Option Addr) (l c : Nat) (w : World) : (Op.equalIn (d + 1) t (.slice a l c) (.slice none 0 0)).run P w = .ok a.isNone w := by
  simp only [Op.equalIn, Sem.run_bind, run_underlying hu, Result.andThen_ok]; cases a <;> rfl
theorem eqIn_map {t k e : TypeId} (hu : P.underlying t = some (.map k e)) (d : Nat) (a : Option Nat) (w : World) : (Op.equalIn (d + 1) t (.map a) (.map none)).run P w = .ok a.isNone w := by
  simp only [Op.equalIn, Sem.run_bind, run_underlying hu, Result.andThen_ok]; cases a <;> rfl

theorem gives_pure {s : Sem Value} {g : Sem Unit} {v : Value} (hg : g = pure ()) (hs : GivesA P s v) : GivesA P (do g; s) v := by
  intro w
  subst hg
  simpa using hs w

theorem vcBin_sound {C : Ctx} (hC : C.Ok) {op : BinOp} {t : TypeId} {x y : Option TV} {K : Option TV → Prop} (hv : vcBin C op t x y K) {X Y : Value} (hx : Rel x X) (hy : Rel y Y) (ox oy : Operand) :
    ∃ r v, K r ∧ Rel r v ∧ GivesA C.P (do eqGuard op t ox oy X Y; binOp op t X Y) v := by
  unfold vcBin at hv
  split at hv
  · rename_i k a k' b
    obtain rfl := hx _ rfl
    obtain rfl := hy _ rfl
    simp only [TV.val]
    have key : ∃ r v, K r ∧ Rel r v ∧ GivesA C.P (binOp op t (.int k a) (.int k' b)) v := by
      split at hv
      · exact vcShift_sound hv
      · exact vcShift_sound hv
      · split at hv
        · rename_i hk
          have hk := beq_iff_eq.1 hk
          subst hk
          exact vcInt_sound hv
        · exact hv.elim
    obtain ⟨r, v, h1, h2, h3⟩ := key
    exact ⟨r, v, h1, h2, gives_pure (eqGuard_at_int ..) h3⟩
  · obtain rfl := hx _ rfl
    obtain rfl := hy _ rfl
    obtain ⟨r, v, h1, h2, h3⟩ := vcStr_sound (P := C.P) (t := t) hv
    exact ⟨r, v, h1, h2, gives_pure (eqGuard_at_string ..) h3⟩
  · obtain rfl := hx _ rfl
    obtain rfl := hy _ rfl
    split at hv
    · rename_i hd
      have hu := hC.d hd
      obtain ⟨r, v, h1, h2, h3⟩ := vcEq_sound (P := C.P) (t := t) (X := (TV.bool _).val) (Y := (TV.bool _).val) hv rfl rfl (fun w => eqIn_bool hu 9999 _ _ w)
      exact ⟨r, v, h1, h2, gives_pure (eqGuard_at_bool ..) h3⟩
    · exact hv.elim
  · obtain rfl := hx _ rfl
    obtain rfl := hy _ rfl
    split at hv
    · rename_i a _ _ hd
      have hu := hC.d hd
      obtain ⟨r, v, h1, h2, h3⟩ := vcEq_sound (P := C.P) (t := t) (X := (TV.ptr a).val) (Y := (TV.ptr none).val) hv rfl rfl (fun w => by rw [← Option.isNone_map (f := Loc.addr)]; exact eqIn_ptrL hu 9999 _ w)
      exact ⟨r, v, h1, h2, gives_pure (eqGuard_at_pointer ..) h3⟩
    · exact hv.elim
  · obtain rfl := hx _ rfl
    obtain rfl := hy _ rfl
    split at hv
    · rename_i b _ _ _ hd
      have hu := hC.d hd
      obtain ⟨r, v, h1, h2, h3⟩ := vcEq_sound (P := C.P) (t := t) (X := (TV.ptr none).val) (Y := (TV.ptr b).val) hv rfl rfl (fun w => by rw [← Option.isNone_map (f := Loc.addr)]; exact eqIn_ptrR hu 9999 _ w)
      exact ⟨r, v, h1, h2, gives_pure (eqGuard_at_pointer ..) h3⟩
    · exact hv.elim
  · obtain rfl := hx _ rfl
    obtain rfl := hy _ rfl
    split at hv
    · rename_i s _ _ hd
      have hu := hC.d hd
      obtain ⟨r, v, h1, h2, h3⟩ := vcEq_sound (P := C.P) (t := t) (X := (TV.slice s).val) (Y := (TV.slice ⟨none, 0, 0⟩).val) hv rfl rfl (fun w => by rw [← Option.isNone_map (f := Loc.addr)]; exact eqIn_slice hu 9999 _ _ _ w)
      exact ⟨r, v, h1, h2, gives_pure (eqGuard_at_slice ..) h3⟩
    · exact hv.elim
  · obtain rfl := hx _ rfl
    obtain rfl := hy _ rfl
    split at hv
    · rename_i r0 _ _ _ hd
      have hu := hC.d hd
      obtain ⟨r, v, h1, h2, h3⟩ := vcEq_sound (P := C.P) (t := t) (X := (TV.map r0).val) (Y := (TV.map none).val) hv rfl rfl (fun w => eqIn_map hu 9999 _ w)
      exact ⟨r, v, h1, h2, gives_pure (eqGuard_at_map ..) h3⟩
    · exact hv.elim
  · rename_i n a m b
    obtain rfl := hx _ rfl
    obtain rfl := hy _ rfl
    split at hv
    · rename_i n' e hd heq hnm
      have hnm := beq_iff_eq.1 hnm
      subst hnm
      split at hv
      · rename_i he hnn
        have hnn := beq_iff_eq.1 hnn
        subst hnn
        have hu := hC.d hd
        have hue := hC.d he
        obtain ⟨i, hi, hsz, _⟩ := hC.info he
        have hl := Ctx.ti_lt (C := C) (t := e) (by simp [he])
        have hc : C.P.cellsOf e = 1 := by
          rcases hC.size e hl with h1 | ⟨h1, _⟩
          · simp [he, isTup] at h1
          · have h2 : (C.ti e).sh = .int .u8 := by rw [hC.tab e hl]; simp [TI.of, shOf, hue]
            rw [h2] at h1
            have h3 : (C.ti e).size = C.P.cellsOf e := by rw [hC.tab e hl]; rfl
            rw [← h3, ← h1]; rfl
        obtain ⟨r, v, h1, h2, h3⟩ := vcEq_sound (P := C.P) (t := t) (X := (TV.bytes _ a).val) (Y := (TV.bytes _ b).val) hv rfl rfl (fun w => by simp only [TV.val]; exact equal_bytes hu hue hi hc a b w)
        refine ⟨r, v, h1, h2, ?_⟩
        intro w
        have hlt := Ctx.ti_lt (C := C) (t := t) (by simp [hd])
        have hg : C.P.eqGuardType C.P.depth t = false := by rw [← heq, hC.tab t hlt]; rfl
        have hgr : (eqGuard op t ox oy (TV.bytes n' a).val (TV.bytes n' b).val).run C.P w = .ok () w := by
          unfold eqGuard
          cases op <;> simp [TV.val, hg]
        rw [Sem.run_bind, hgr]
        exact h3 w
      · exact hv.elim
    · exact hv.elim
  · exact hv.elim

end

end Go.Vc
end

section
/- Conditions for the operations that only reckon or read, continued: structs, loads, places, slices, lengths. -/
namespace Go.Vc
open Go

def vcUn (op : UnOp) (x : Option TV) (K : Option TV → Prop) : Prop :=
  match op, x with
  | .not, some (.bool b) => K (some (.bool (!b)))
  | .neg, some (.int k n) => K (some (.int k (k.wrap (0 - n))))
  | .xor, some (.int k n) => K (some (.int k (k.wrap (BitVec.ofInt k.bits (if k.signed then -1 else k.max) ^^^ BitVec.ofInt k.bits n).toNat)))
  | _, _ => False

/-- Parts laid into a struct's fields. -/
def setParts : List TV → List (Nat × Option TV) → Option (List TV)
  | zs, [] => some zs
  | zs, (i, some v) :: rest => match zs[i]? with
    | some z => match v.size == z.size with
      | true => setParts (zs.set i v) rest
      | false => none
    | none => none
  | _, (_, none) :: _ => none

def putWord : TV → Nat → TV → Option TV
  | .words k n w, i, .int k' x => match k == k', Nat.blt i n with
    | true, true => some (.words k n (w.set i x))
    | _, _ => none
  | _, _, _ => none

def setWords : TV → List (Nat × Option TV) → Option TV
  | z, [] => some z
  | z, (i, some v) :: rest => match putWord z i v with
    | some z' => setWords z' rest
    | none => none
  | _, (_, none) :: _ => none

def vcBuild (C : Ctx) (t : TypeId) (parts : List (Nat × Option TV)) (K : Option TV → Prop) : Prop :=
  match (C.ti t).d, (C.ti t).z with
  | some (.struct _), .agg zs => match (C.ti t).offs, setParts zs parts with
    | true, some xs => K (some (.agg xs))
    | _, _ => False
  | some (.array _ e), z => match (C.ti e).d with
    | some d => match parts, d with
      | [], _ => K (some z)
      | p :: ps, .int _ => match setWords z (p :: ps) with
        | some z' => K (some z')
        | none => False
      | _, _ => False
    | none => False
  | _, _ => False

def notTuple : Option TypeDesc → Bool
  | some (.tuple _) => false
  | none => false
  | _ => true

def vcLoad (C : Ctx) (t : TypeId) (l : Loc) (h : Heap) (K : Option TV → Prop) : Prop :=
  match notTuple (C.ti t).d with
  | true => Ex (C.ti t).sh fun tv => tv.at h l.b l.o ∧ K (some tv)
  | false => False

/-- The bytes of a slice. -/
def strAt (h : Heap) (s : Sl) (bs : List UInt8) : Prop :=
  bs.length = s.len ∧ ((s.a = none ∧ bs = []) ∨ ∃ l, s.a = some l ∧ ∀ j (hj : j < bs.length), cel h l.b (l.o + j) = some (.int .u8 (bs[j].toNat : Int)))

def vcConv (C : Ctx) (s d : TypeId) (x : Option TV) (h : Heap) (K : Option TV → Prop) : Prop :=
  match (C.ti s).d, (C.ti d).d, x with
  | some (.int _), some (.int k), some (.int _ n) => K (some (.int k (k.wrap n)))
  | some .string, some .string, some (.str s) => K (some (.str s))
  | some (.slice e), some .string, some (.slice s) => match (C.ti e).d with
    | some (.int .u8) => ∃ bs, strAt h s bs ∧ K (some (.str bs))
    | _ => False
  | _, _, _ => False

def vcFieldAddr (C : Ctx) (t : TypeId) (x : Option TV) (f : Nat) (K : Option TV → Prop) : Prop :=
  match x, (C.ti t).d with
  | some (.ptr p), some (.struct fs) => match fs.toList[f]? with
    | some fd => match (C.ti fd.type).d.isSome, Nat.beq (C.ti fd.type).size 0 with
      | true, false => Nn p fun l => K (some (.ptr (some ⟨l.b, l.o + fd.offset⟩)))
      | _, _ => False
    | none => False
  | _, _ => False

def vcField (C : Ctx) (t : TypeId) (x : Option TV) (f : Nat) (K : Option TV → Prop) : Prop :=
  match x, (C.ti t).d, (C.ti t).sh, (C.ti t).offs with
  | some (.agg xs), some (.struct _), .agg ss, true => match TVs.has xs ss, xs[f]? with
    | true, some v => K (some v)
    | _, _ => False
  | _, _, _, _ => False

def vcIndexAddr (C : Ctx) (t : TypeId) (x i : Option TV) (K : Option TV → Prop) : Prop :=
  match x, i, (C.ti t).d with
  | some (.slice s), some (.int _ n), some (.slice e) => match (C.ti e).d.isSome with
    | true => 0 ≤ n ∧ n < (s.len : Int) ∧ Nn s.a fun l => K (some (.ptr (some ⟨l.b, l.o + n.toNat * (C.ti e).size⟩)))
    | false => False
  | some (.ptr p), some (.int _ n), some (.array m e) => match (C.ti e).d.isSome with
    | true => 0 ≤ n ∧ n < (m : Int) ∧ Nn p fun l => K (some (.ptr (some ⟨l.b, l.o + n.toNat * (C.ti e).size⟩)))
    | false => False
  | _, _, _ => False

def vcIndex (C : Ctx) (t : TypeId) (x i : Option TV) (K : Option TV → Prop) : Prop :=
  match x, i, (C.ti t).d with
  | some (.str s), some (.int _ n), some .string => 0 ≤ n ∧ n < (s.length : Int) ∧ K (some (.int .u8 ((s.getD n.toNat 0).toNat : Int)))
  | some (.bytes m b), some (.int _ n), some (.array m' e) => match (C.ti e).d, m == m' with
    | some (.int .u8), true => 0 ≤ n ∧ n < (m : Int) ∧ K (some (.int .u8 ((b.l.getD n.toNat 0).toNat : Int)))
    | _, _ => False
  | some (.words k m b), some (.int _ n), some (.array m' e) => match (C.ti e).d, m == m' with
    | some (.int k'), true => match k == k' with
      | true => 0 ≤ n ∧ n < (m : Int) ∧ K (some (.int k (b.l.getD n.toNat 0)))
      | false => False
    | _, _ => False
  | _, _, _ => False

/-- Bounds of a slice expression: l ≤ h ≤ top. -/
def vcBounds (len top : Nat) (lo hi : Option (Option TV)) (K : Nat → Nat → Prop) : Prop :=
  match lo, hi with
  | none, none => K 0 len
  | some (some (.int _ l)), none => 0 ≤ l ∧ l ≤ (len : Int) ∧ K l.toNat len
  | none, some (some (.int _ u)) => 0 ≤ u ∧ u ≤ (top : Int) ∧ K 0 u.toNat
  | some (some (.int _ l)), some (some (.int _ u)) => 0 ≤ u ∧ u ≤ (top : Int) ∧ 0 ≤ l ∧ l ≤ u ∧ K l.toNat u.toNat
  | _, _ => False

def cutSl (s : Sl) (l u size : Nat) : Sl := ⟨if s.cap = l then s.a else s.a.map fun p => ⟨p.b, p.o + l * size⟩, u - l, s.cap - l⟩

def vcSlice (C : Ctx) (t : TypeId) (x : Option TV) (lo hi : Option (Option TV)) (K : Option TV → Prop) : Prop :=
  match x, (C.ti t).d with
  | some (.str s), some .string => vcBounds s.length s.length lo hi fun l u => K (some (.str ((s.drop l).take (u - l))))
  | some (.slice s), some (.slice e) => match (C.ti e).d.isSome with
    | true => vcBounds s.len s.cap lo hi fun l u => K (some (.slice (cutSl s l u (C.ti e).size)))
    | false => False
  | some (.ptr p), some (.array n e) => match (C.ti e).d.isSome with
    | true => Nn p fun q => vcBounds n n lo hi fun l u => K (some (.slice (cutSl ⟨some q, n, n⟩ l u (C.ti e).size)))
    | false => False
  | _, _ => False

/-- s[l:u:m]. -/
def vcSlice3 (C : Ctx) (t : TypeId) (x : Option TV) (lo hi : Option (Option TV)) (mx : Option TV) (K : Option TV → Prop) : Prop :=
  match x, (C.ti t).d, hi, mx with
  | some (.slice s), some (.slice e), some (some (.int _ u)), some (.int _ m) => match (C.ti e).d.isSome with
    | true => 0 ≤ m ∧ m ≤ (s.cap : Int) ∧ 0 ≤ u ∧ u ≤ m ∧ match lo with
      | none => K (some (.slice (cutSl ⟨s.a, s.len, m.toNat⟩ 0 u.toNat (C.ti e).size)))
      | some (some (.int _ l)) => 0 ≤ l ∧ l ≤ u ∧ K (some (.slice (cutSl ⟨s.a, s.len, m.toNat⟩ l.toNat u.toNat (C.ti e).size)))
      | some _ => False
    | false => False
  | _, _, _, _ => False

def mn (a b : Int) : Int := if b < a then b else a
def mx (a b : Int) : Int := if a < b then b else a

def allKnown : List (Option TV) → Option (List TV)
  | [] => some []
  | some x :: xs => match allKnown xs with
    | some ys => some (x :: ys)
    | none => none
  | none :: _ => none

def vcBuiltinR (C : Ctx) (b : Builtin) (ts : List TypeId) (xs : List (Option TV)) (K : Option TV → Prop) : Prop :=
  match b, ts, xs with
  | .len, [t], [some (.slice s)] => match (C.ti t).d with
    | some (.slice _) => K (some (.int .i64 (s.len : Int)))
    | _ => False
  | .len, [t], [some (.str s)] => match (C.ti t).d with
    | some .string => K (some (.int .i64 (s.length : Int)))
    | _ => False
  | .len, [t], [_] => match (C.ti t).d with
    | some (.array n _) => K (some (.int .i64 (n : Int)))
    | _ => False
  | .cap, [t], [some (.slice s)] => match (C.ti t).d with
    | some (.slice _) => K (some (.int .i64 (s.cap : Int)))
    | _ => False
  | .min, _, [some (.int k a), some (.int k' b)] => match k == k' with
    | true => K (some (.int k (mn a b)))
    | false => False
  | .max, _, [some (.int k a), some (.int k' b)] => match k == k' with
    | true => K (some (.int k (mx a b)))
    | false => False
  | _, _, _ => False

/-! ### Interface values -/

/-- A value is packed with its type. -/
def vcPack (C : Ctx) (t : TypeId) (x : Option TV) (K : Option TV → Prop) : Prop :=
  match (C.ti t).d, x with
  | some (.interface _), _ => False
  | some _, some tv => K (some (.one ⟨.iface t tv.val, rfl⟩))
  | _, _ => False

/-- What is packed is taken out again. -/
def vcUnpack (C : Ctx) (x : Option TV) (t : TypeId) (ok : Bool) (K : Option TV → Prop) : Prop :=
  match (C.ti t).d, x with
  | some (.interface _), _ => False
  | some _, some (.one o) => Ex (C.ti t).sh fun tv => o.v = .iface t tv.val ∧ K (some (match ok with | true => .tup [tv, .bool true] | false => tv))
  | _, _ => False

/-! ### Maps -/

/-- A map in memory: keys, values, births, in the order of their coming; the clock. -/
def mapO (es : List (TV × TV × Nat)) (c : Nat) : Obj := .map (es.map fun e => ({ key := e.1.val, val := e.2.1.val, born := e.2.2 } : MapEntry)).toArray c

def isU8 : Option TypeDesc → Bool
  | some (.int .u8) => true
  | _ => false

def isInt (k : IntKind) : Option TypeDesc → Bool
  | some (.int k') => k' == k
  | _ => false

/-- The parts of a struct of whole numbers, as a key. -/
def keyInts (C : Ctx) : List Field → List TV → Nat → Bool
  | [], [], _ => true
  | f :: fs, .int k _ :: xs, o => !(f.name == "_") && Nat.beq f.offset o && isInt k (C.ti f.type).d && keyInts C fs xs (o + 1)
  | _, _, _ => false

def intsEq : List TV → List TV → Bool
  | [], [] => true
  | .int _ a :: xs, .int _ b :: ys => decide (a = b) && intsEq xs ys
  | _, _ => false

def keyLike (C : Ctx) : TypeDesc → TV → Bool
  | .int k, .int k' _ => k' == k
  | .string, .str _ => true
  | .array n e, .bytes m _ => m == n && isU8 (C.ti e).d
  | .struct fs, .agg xs => keyInts C fs.toList xs 0
  | _, _ => false

/-- A struct that is a key is none that the model holds by itself. -/
def keyPlain (C : Ctx) (kt : TypeId) : TypeDesc → Bool
  | .struct _ => !(C.ti kt).held
  | _ => true

def keyEq : TV → TV → Bool
  | .int _ a, .int _ b => decide (a = b)
  | .str a, .str b => decide (a = b)
  | .bytes _ a, .bytes _ b => decide (a.l = b.l)
  | .agg xs, .agg ys => intsEq xs ys
  | _, _ => false

def findE (k : TV) : List (TV × TV × Nat) → Option TV
  | [] => none
  | e :: es => if keyEq k e.1 = true then some e.2.1 else findE k es

def orE (o : Option TV) (z : TV) : TV := o.getD z
def hasE (k : TV) (es : List (TV × TV × Nat)) : Bool := (findE k es).isSome

def putE (k v : TV) (c : Nat) : List (TV × TV × Nat) → List (TV × TV × Nat)
  | [] => [(k, v, c)]
  | e :: es => if keyEq k e.1 = true then (e.1, v, e.2.2) :: es else e :: putE k v c es

def dropE (k : TV) : List (TV × TV × Nat) → List (TV × TV × Nat)
  | [] => []
  | e :: es => if keyEq k e.1 = true then es else e :: dropE k es

def clockE (k : TV) (c : Nat) (es : List (TV × TV × Nat)) : Nat := match findE k es with
  | some _ => c
  | none => c + 1

/-- What a map is, the nil one too. -/
def MapAt (h : Heap) (p : Option Nat) (F : List (TV × TV × Nat) → Nat → Prop) : Prop := match p with
  | none => F [] 0
  | some r => ∃ es c, h[r]? = some (mapO es c) ∧ F es c

def AllLike (C : Ctx) (d : TypeDesc) (es : List (TV × TV × Nat)) : Prop := ∀ e ∈ es, keyLike C d e.1 = true

def lookRes (ok : Bool) (tv : TV) (s : Bool) : TV := match ok with
  | true => .tup [tv, .bool s]
  | false => tv

def vcLookup (C : Ctx) (t : TypeId) (m k : Option TV) (ok : Bool) (h : Heap) (K : Option TV → Prop) : Prop :=
  match (C.ti t).d, m, k with
  | some (.map kt et), some (.map p), some kv => match (C.ti kt).d, notTuple (C.ti et).d with
    | some d, true => match keyLike C d kv && keyPlain C kt d with
      | true => MapAt h p fun es _ => AllLike C d es ∧ Ex (C.ti et).sh fun tv => orE (findE kv es) (C.ti et).z = tv ∧ K (some (lookRes ok tv (hasE kv es)))
      | false => False
    | _, _ => False
  | _, _, _ => False

def vcMapLen (C : Ctx) (ts : List TypeId) (p : Option Nat) (h : Heap) (K : Option TV → Prop) : Prop :=
  match ts with
  | [t] => match (C.ti t).d with
    | some (.map _ _) => MapAt h p fun es _ => K (some (.int .i64 (es.length : Int)))
    | _ => False
  | _ => False

/-- A result known by its type alone. -/
def vcExtract (C : Ctx) (t : TypeId) (x : TV) (K : Option TV → Prop) : Prop := match x with
  | .one a => match (C.ti t).sh with
    | .one => K (some (.one a))
    | s => Ex s fun tv => tv.val = a.v ∧ K (some tv)
  | .any a => Ex (C.ti t).sh fun tv => tv.val = a ∧ K (some tv)
  | v => K (some v)

/-! ### Structs that are compared -/

def eqLeaf (C : Ctx) (t : TypeId) (x y : TV) : Option Bool :=
  match x, y with
  | .int k a, .int k' b => match (C.ti t).d, k == k' with
    | some (.int _), true => some (decide (a = b))
    | _, _ => none
  | .str a, .str b => match (C.ti t).d with
    | some .string => some (decide (a = b))
    | _ => none
  | .bool a, .bool b => match (C.ti t).d with
    | some .bool => some (a == b)
    | _ => none
  | .bytes n a, .bytes m b => match (C.ti t).d, n == m with
    | some (.array n' e), true => match (C.ti e).d, n' == n with
      | some (.int .u8), true => some (decide (a.l = b.l))
      | _, _ => none
    | _, _ => none
  | _, _ => none

def andO : Option Bool → Option Bool → Option Bool
  | some a, some b => some (a && b)
  | _, _ => none

def eqAgg (C : Ctx) : List Field → List TV → List TV → Option Bool
  | [], [], [] => some true
  | f :: fs, x :: xs, y :: ys => match f.name == "_" with
    | true => none
    | false => andO (eqLeaf C f.type x y) (eqAgg C fs xs ys)
  | _, _, _ => none

def vcBinA (C : Ctx) (op : BinOp) (t : TypeId) (x y : Option TV) (K : Option TV → Prop) : Prop :=
  match x, y with
  | some (.agg xs), some (.agg ys) => match (C.ti t).d, (C.ti t).sh, (C.ti t).offs, (C.ti t).eqg, (C.ti t).held with
    | some (.struct fs), .agg ss, true, false, false => match TVs.has xs ss, TVs.has ys ss, eqAgg C fs.toList xs ys with
      | true, true, some b => vcEq op b K
      | _, _, _ => False
    | _, _, _, _, _ => False
  | _, _ => vcBin C op t x y K

/-- Operations that leave the world alone. -/
def vcR (C : Ctx) (o : Oper) (ρ : Operand → Option TV) (h : Heap) (K : Option TV → Prop) : Prop :=
  match o.op with
  | .move x => K (ρ x)
  | .assign x => K (ρ x)
  | .pick c a b => match ρ c with
    | some (.bool true) => K (ρ a)
    | some (.bool false) => K (ρ b)
    | _ => False
  | .build t parts => vcBuild C t (parts.toList.map fun p => (p.1, ρ p.2)) K
  | .load t a => match ρ a with
    | some (.ptr p) => Nn p fun l => vcLoad C t l h K
    | _ => False
  | .nilCheck x => match ρ x with
    | some (.ptr p) => Nn p fun l => K (some (.ptr (some l)))
    | some (.fn (.func g) a b) => K (some (.fn (.func g) a b))
    | _ => False
  | .binOp op t x y _ => vcBinA C op t (ρ x) (ρ y) K
  | .unOp op _ x => vcUn op (ρ x) K
  | .convert s d x => vcConv C s d (ρ x) h K
  | .fieldAddr t x f => vcFieldAddr C t (ρ x) f K
  | .field t x f => vcField C t (ρ x) f K
  | .indexAddr t x i => vcIndexAddr C t (ρ x) (ρ i) K
  | .index t x i => vcIndex C t (ρ x) (ρ i) K
  | .extract x i => match ρ x with
    | some (.tup xs) => match xs[i]? with
      | some v => vcExtract C o.type v K
      | none => False
    | _ => False
  | .lookup t m k ok => vcLookup C t (ρ m) (ρ k) ok h K
  | .makeInterface t x => vcPack C t (ρ x) K
  | .typeAssert x _ t ok => vcUnpack C (ρ x) t ok K
  | .slice t x lo hi none => vcSlice C t (ρ x) (lo.map ρ) (hi.map ρ) K
  | .slice t x lo hi (some m) => vcSlice3 C t (ρ x) (lo.map ρ) (hi.map ρ) (ρ m) K
  | .makeFunc f first cap => match allKnown (first.toList.map ρ), allKnown (cap.toList.map ρ) with
    | some a, some b => K (some (.fn f a b))
    | _, _ => False
  | .call c => match c.callee with
    | .builtin b => match b, c.args.toList.map ρ with
      | .len, [some (.map p)] => vcMapLen C c.argTypes.toList p h K
      | _, _ => vcBuiltinR C b c.argTypes.toList (c.args.toList.map ρ) K
    | _ => False
  | _ => False

section
variable {P : Program} {C : Ctx} {h : Heap} {K : Option TV → Prop}

theorem vcUn_sound {op : UnOp} {x : Option TV} {X : Value} (hv : vcUn op x K) (hx : Rel x X) : ∃ r v, K r ∧ Rel r v ∧ GivesA P (Op.unary op X) v := by
  unfold vcUn at hv
  split at hv
  · obtain rfl := hx _ rfl; exact ⟨_, _, hv, .some rfl, fun w => rfl⟩
  · obtain rfl := hx _ rfl; exact ⟨_, _, hv, .some rfl, fun w => rfl⟩
  · obtain rfl := hx _ rfl; exact ⟨_, _, hv, .some rfl, fun w => rfl⟩
  · exact hv.elim

theorem isAgg_of {t : TypeId} {tv : TV} (hC : C.Ok) (hn : notTuple (C.ti t).d = true) (hs : tv.has (C.ti t).sh = true) :
    (isAggD (C.ti t).d = true ∧ tv.val = .agg tv.cells.toArray ∨ isAggD (C.ti t).d = false ∧ tv.cells = [tv.val] ∧ tv.size = 1) := by
  have hd : (C.ti t).d.isSome = true := by
    cases hh : (C.ti t).d with
    | none => rw [hh] at hn; cases hn
    | some _ => rfl
  have hl := Ctx.ti_lt hd
  rw [hC.tab t hl] at *
  simp only [TI.of] at *
  revert hs
  unfold shOf
  cases hu : C.P.underlying t with
  | none => rw [hu] at hd; cases hd
  | some d =>
    rw [hu] at hn
    cases d <;> dsimp only <;> intro hs
    case tuple => cases hn
    case array n e =>
      left
      refine ⟨rfl, ?_⟩
      cases tv <;> first | rfl | (exfalso; revert hs; split <;> simp [TV.has])
    case struct fs =>
      left
      refine ⟨rfl, ?_⟩
      cases tv <;> first | rfl | simp [TV.has] at hs
    all_goals
      right
      refine ⟨rfl, ?_⟩
      cases tv <;> first | exact ⟨rfl, rfl⟩ | simp [TV.has] at hs

theorem at_cells {tv : TV} {w : World} {l : Loc} (ha : tv.at w.heap l.b l.o) : ∀ j v, tv.cells[j]? = some v → w.cell? (l.addr.add j) = some v := by
  intro j v hj
  have hlt : j < tv.cells.length := (List.getElem?_eq_some_iff.1 hj).1
  have := (TV.at_iff w.heap l.b tv l.o).1 ha j (by rw [← TV.cells_length]; exact hlt)
  rw [← hj, ← this, ← cell?_eq]
  congr 1
  cases j <;> simp [Loc.addr, Addr.add]

theorem load_run (hC : C.Ok) {t : TypeId} {l : Loc} {tv : TV} (hn : notTuple (C.ti t).d = true) (hs : tv.has (C.ti t).sh = true) {w : World} (ha : tv.at w.heap l.b l.o) :
    (Instr.loadAt t (.pointer (some l.addr))).run C.P w = .ok tv.val w := by
  have hd : (C.ti t).d.isSome = true := by
    cases hh : (C.ti t).d with
    | none => rw [hh] at hn; cases hn
    | some _ => rfl
  obtain ⟨d, hd'⟩ := Option.isSome_iff_exists.1 hd
  have hu := hC.d hd'
  obtain ⟨i, hi, hsz, _⟩ := hC.info hd'
  have hsize : tv.size = i.size := by
    rw [hsz, TV.has_size _ _ hs]
    rcases hC.size t (Ctx.ti_lt hd) with h1 | h1
    · rw [hd'] at h1 hn; cases d <;> simp [notTuple, isTup] at h1 hn
    · exact h1.1
  have hA := isAgg_of hC hn hs
  rw [hd'] at hA
  unfold Instr.loadAt loadVar
  simp only [Instr.sureAddr, Sem.run_bind, Sem.run_pure, Result.andThen_ok, isAgg_run hu]
  rcases hA with ⟨h1, h2⟩ | ⟨h1, h2, h3⟩
  · have hc : C.P.cellsOf t = tv.cells.length := by rw [TV.cells_length, hsize]; simp [Program.cellsOf, hi]
    rw [h1]
    simp only [if_true, Sem.run_bind, run_sizeOf w hi, Result.andThen_ok, hc]
    rw [run_loadCells_list w l.addr tv.cells (at_cells ha)]
    simp [h2]
  · rw [h1]
    simp only [Bool.false_eq_true, if_false]
    have := at_cells ha 0 tv.val (by rw [h2]; rfl)
    simp only [Addr.add, if_true] at this
    simp [load, Sem.run, this]

theorem vcLoad_sound (hC : C.Ok) {t : TypeId} {l : Loc} (hv : vcLoad C t l h K) : ∃ r v, K r ∧ Rel r v ∧ Gives C.P (Instr.loadAt t (.pointer (some l.addr))) h v := by
  unfold vcLoad at hv
  split at hv
  · rename_i hn
    obtain ⟨tv, hs, ha, hk⟩ := ex_iff _ _ hv
    exact ⟨some tv, tv.val, hk, .some rfl, fun w hw => load_run hC hn hs (by rw [hw]; exact ha)⟩
  · exact hv.elim

theorem vcConv_sound (hC : C.Ok) {s d : TypeId} {x : Option TV} {X : Value} (hv : vcConv C s d x h K) (hx : Rel x X) : ∃ r v, K r ∧ Rel r v ∧ ∀ w : World, (∀ b o v, cel h b o = some v → cel w.heap b o = some v) → (convert s d X).run C.P w = .ok v w := by
  unfold vcConv at hv
  split at hv
  · rename_i h1 h2 
    obtain rfl := hx _ rfl
    refine ⟨_, _, hv, .some rfl, fun w _ => ?_⟩
    unfold convert
    simp only [Sem.run_bind, run_underlying (hC.d h1), run_underlying (hC.d h2), Result.andThen_ok, TV.val]
    rfl
  · rename_i h1 h2
    obtain rfl := hx _ rfl
    refine ⟨_, _, hv, .some rfl, fun w _ => ?_⟩
    unfold convert
    simp only [Sem.run_bind, run_underlying (hC.d h1), run_underlying (hC.d h2), Result.andThen_ok, TV.val]
    rfl
  · rename_i e0 sl h1 h2
    obtain rfl := hx _ rfl
    split at hv
    · rename_i he
      obtain ⟨bs, ⟨hl, hs⟩, hk⟩ := hv
      refine ⟨_, _, hk, .some rfl, fun w hw => ?_⟩
      obtain ⟨a, len, cap⟩ := sl
      dsimp only at hl hs
      rcases hs with ⟨rfl, rfl⟩ | ⟨l, rfl, hc⟩
      · have := run_convert_bytes_nil (P := C.P) w _ _ (hC.d h1) (hC.d he) len cap _ (hC.d h2)
        exact this
      · subst hl
        have := run_convert_bytes_back (P := C.P) w _ _ _ l.addr cap bs (hC.d h1) (hC.d he) (hC.d h2) (fun j hj => by
          have := hw _ _ _ (hc j hj)
          rw [← cell?_eq] at this
          rw [← this]
          congr 1
          cases j <;> simp [Loc.addr, Addr.add])
        simpa [TV.val, slVal] using this
    · exact hv.elim
  · exact hv.elim

theorem elim_some {α : Type} {p : Option α} {K : α → Prop} (h : Nn p K) : ∃ l, p = some l ∧ K l := by
  cases p with
  | none => exact h.elim
  | some l => exact ⟨l, rfl, h⟩

theorem addr_add (l : Loc) (n : Nat) : l.addr.add n = (⟨l.b, l.o + n⟩ : Loc).addr := by
  cases n <;> simp [Loc.addr, Addr.add]

theorem vcFieldAddr_sound (hC : C.Ok) {t : TypeId} {x : Option TV} {X : Value} {f : Nat} (hv : vcFieldAddr C t x f K) (hx : Rel x X) : ∃ r v, K r ∧ Rel r v ∧ GivesA C.P (Instr.fieldAt t X f) v := by
  unfold vcFieldAddr at hv
  split at hv
  · rename_i p fs hd
    obtain rfl := hx _ rfl
    split at hv
    · rename_i fd hf
      split at hv
      · rename_i h1 h2
        obtain ⟨l, rfl, hk⟩ := elim_some hv
        refine ⟨_, _, hk, .some rfl, fun w => ?_⟩
        obtain ⟨d', hd'⟩ := Option.isSome_iff_exists.1 h1
        obtain ⟨i, hi, hsz, _⟩ := hC.info hd'
        have hne : ¬ C.P.cellsOf fd.type = 0 := by
          intro e
          have : (C.ti fd.type).size = 0 := by rw [← hsz]; simpa [Program.cellsOf, hi] using e
          rw [this] at h2; cases h2
        unfold Instr.fieldAt
        simp only [Sem.run_bind, run_underlying (hC.d hd), Result.andThen_ok]
        have hf' : fs[f]? = some fd := by simpa using hf
        simp only [hf', Instr.sureAddr, TV.val, Option.map_some, Sem.run_bind, Sem.run_pure, Result.andThen_ok, fieldPlace, run_sizeOf w hi, hne, if_false, addr_add]
      · exact hv.elim
    · exact hv.elim
  · exact hv.elim

theorem vcIndexAddr_sound (hC : C.Ok) {t : TypeId} {x y : Option TV} {X Y : Value} (hv : vcIndexAddr C t x y K) (hx : Rel x X) (hy : Rel y Y) : ∃ r v, K r ∧ Rel r v ∧ GivesA C.P (Instr.indexAt t X Y) v := by
  unfold vcIndexAddr at hv
  split at hv
  · rename_i s k n e hd
    obtain rfl := hx _ rfl
    obtain rfl := hy _ rfl
    split at hv
    · rename_i he
      obtain ⟨h0, h1, hk⟩ := hv
      obtain ⟨l, hl, hk⟩ := elim_some hk
      obtain ⟨d', hd'⟩ := Option.isSome_iff_exists.1 he
      obtain ⟨i, hi, hsz, _⟩ := hC.info hd'
      have hc : C.P.cellsOf e = (C.ti e).size := by rw [← hsz]; simp [Program.cellsOf, hi]
      refine ⟨_, _, hk, .some rfl, fun w => ?_⟩
      unfold Instr.indexAt
      simp only [TV.val, slVal, hl, Option.map_some, asIntOf, Sem.run_bind, Sem.run_pure, Result.andThen_ok, run_underlying (hC.d hd), h0, h1, and_self, if_true, run_sizeOf w hi, hc, addr_add]
    · exact hv.elim
  · rename_i p k n m e hd
    obtain rfl := hx _ rfl
    obtain rfl := hy _ rfl
    split at hv
    · rename_i he
      obtain ⟨h0, h1, hk⟩ := hv
      obtain ⟨l, rfl, hk⟩ := elim_some hk
      obtain ⟨d', hd'⟩ := Option.isSome_iff_exists.1 he
      obtain ⟨i, hi, hsz, _⟩ := hC.info hd'
      have hc : C.P.cellsOf e = (C.ti e).size := by rw [← hsz]; simp [Program.cellsOf, hi]
      refine ⟨_, _, hk, .some rfl, fun w => ?_⟩
      unfold Instr.indexAt
      simp only [TV.val, Instr.sureAddr, Option.map_some, asIntOf, Sem.run_bind, Sem.run_pure, Result.andThen_ok, run_underlying (hC.d hd), h0, h1, and_self, if_true, run_sizeOf w hi, hc, addr_add]
    · exact hv.elim
  · exact hv.elim

def shAgg : Sh → Bool
  | .bytes _ | .words _ _ | .agg _ => true
  | _ => false
def tvAgg : TV → Bool
  | .bytes _ _ | .words _ _ _ | .agg _ => true
  | .any (.agg _) => true
  | _ => false

theorem has_agg {v : TV} {s : Sh} (h : v.has s = true) : tvAgg v = shAgg s := by
  cases v <;> cases s <;> simp_all [TV.has, tvAgg, shAgg]

theorem tvAgg_val {v : TV} : (tvAgg v = true → v.val = .agg v.cells.toArray) ∧ (tvAgg v = false → v.cells = [v.val] ∧ v.size = 1) := by
  cases v
  case any x => cases x <;> simp [tvAgg, TV.val, TV.cells, TV.size, Value.cells]
  all_goals simp [tvAgg, TV.val, TV.cells, TV.size]

theorem offs_part : ∀ (ss : List Sh) (fs : List Field) (n : Nat) (xs : List TV) (i : Nat) (v : TV), offsOk P ss fs n = true → TVs.has xs ss = true → xs[i]? = some v →
    ∃ fd, fs[i]? = some fd ∧ fd.offset = n + TVs.size (xs.take i) ∧ isAggD (P.underlying fd.type) = tvAgg v ∧ P.cellsOf fd.type = v.size ∧ (P.underlying fd.type).isSome = true
  | [], [], n, xs, i, v, _, hh, hi => by
    cases xs with
    | nil => simp at hi
    | cons x xs => simp [TVs.has] at hh
  | s :: ss, f :: fs, n, xs, i, v, ho, hh, hi => by
    cases xs with
    | nil => simp at hi
    | cons x xs =>
      simp only [TVs.has, Bool.and_eq_true] at hh
      simp only [offsOk, Bool.and_eq_true, beq_iff_eq] at ho
      obtain ⟨⟨⟨⟨h1, h2⟩, h3⟩, h3'⟩, h4⟩ := ho
      cases i with
      | zero =>
        simp only [List.getElem?_cons_zero, Option.some.injEq] at hi
        subst hi
        refine ⟨f, rfl, by simp [TVs.size, h1], ?_, ?_, h3'⟩
        · rw [has_agg hh.1, ← h3]; cases s <;> rfl
        · rw [← h2, TV.has_size _ _ hh.1]
      | succ i =>
        simp only [List.getElem?_cons_succ] at hi
        obtain ⟨fd, e1, e2, e3⟩ := offs_part ss fs _ xs i v h4 hh.2 hi
        refine ⟨fd, by simpa using e1, ?_, e3⟩
        rw [e2, List.take_succ_cons, TVs.size, TV.has_size _ _ hh.1]
        omega
  | [], _ :: _, n, xs, i, v, ho, hh, hi => by simp [offsOk] at ho
  | _ :: _, [], n, xs, i, v, ho, hh, hi => by simp [offsOk] at ho

theorem cells_take : ∀ (xs : List TV) (i : Nat) (v : TV), xs[i]? = some v → (TVs.cells xs).drop (TVs.size (xs.take i)) = v.cells ++ TVs.cells (xs.drop (i + 1))
  | [], i, v, h => by simp at h
  | x :: xs, 0, v, h => by
    simp only [List.getElem?_cons_zero, Option.some.injEq] at h
    subst h
    simp [TVs.size, TVs.cells]
  | x :: xs, i + 1, v, h => by
    simp only [List.getElem?_cons_succ] at h
    simp only [List.take_succ_cons, TVs.size, TVs.cells, List.drop_succ_cons]
    rw [← TV.cells_length x, List.drop_append, List.drop_of_length_le (by omega), List.nil_append]
    rw [show x.cells.length + TVs.size (List.take i xs) - x.cells.length = TVs.size (List.take i xs) by omega]
    exact cells_take xs i v h

/-- A field's cells, among a struct's. -/
theorem part_at {ss : List Sh} {fs : List Field} {xs : List TV} {f : Nat} {v : TV} (hoff' : offsOk C.P ss fs 0 = true) (hhas : TVs.has xs ss = true) (hf : xs[f]? = some v) :
    ∃ fd, fs[f]? = some fd ∧ ∀ w : World, (part fd.type (TVs.cells xs).toArray fd.offset).run C.P w = .ok v.val w := by
  obtain ⟨fd, h1, h2, h3, h4, h5⟩ := offs_part ss fs 0 xs f v hoff' hhas hf
  refine ⟨fd, h1, fun w => ?_⟩
  obtain ⟨d', hd'⟩ := Option.isSome_iff_exists.1 h5
  have hct := cells_take xs f v hf
  unfold part
  simp only [Sem.run_bind, isAgg_run hd', Result.andThen_ok]
  rw [hd'] at h3
  rw [h3]
  cases hta : tvAgg v with
  | true =>
    obtain ⟨i, hi⟩ : ∃ i, C.P.info? fd.type = some i := by
      cases hh : C.P.info? fd.type with
      | none => simp [Program.underlying, hh] at hd'
      | some i => exact ⟨i, rfl⟩
    simp only [if_true, Sem.run_bind, run_sizeOf w hi, Result.andThen_ok, Sem.run_pure]
    rw [tvAgg_val.1 hta]
    congr 2
    rw [h2, h4, Nat.zero_add]
    apply Array.toList_inj.1
    simp only [Array.toList_extract, List.extract_eq_take_drop]
    rw [hct, show TVs.size (List.take f xs) + v.size - TVs.size (List.take f xs) = v.cells.length by rw [TV.cells_length]; omega]
    simp
  | false =>
    obtain ⟨e1, e2⟩ := tvAgg_val.2 hta
    have : (TVs.cells xs)[fd.offset]? = some v.val := by
      rw [h2, Nat.zero_add]
      have := congrArg (fun l => l[0]?) hct
      simp only [List.getElem?_drop, Nat.add_zero, e1] at this
      rw [this]; rfl
    simp [this]

theorem vcField_sound (hC : C.Ok) {t : TypeId} {x : Option TV} {X : Value} {f : Nat} (hv : vcField C t x f K) (hx : Rel x X) : ∃ r v, K r ∧ Rel r v ∧ GivesA C.P (Instr.field t X f) v := by
  unfold vcField at hv
  split at hv
  · rename_i xs fs ss hd hsh hoff
    obtain rfl := hx _ rfl
    split at hv
    · rename_i v hhas hf
      refine ⟨_, _, hv, .some rfl, fun w => ?_⟩
      have hlt := Ctx.ti_lt (C := C) (t := t) (by simp [hd])
      have hu := hC.d hd
      have hoff' : offsOk C.P ss fs.toList 0 = true := by
        rw [hC.tab t hlt] at hoff hsh
        simp only [TI.of, hu] at hoff hsh
        rw [hsh] at hoff
        exact hoff
      obtain ⟨fd, h1, hp⟩ := part_at (C := C) hoff' hhas hf
      have h1' : fs[f]? = some fd := by simpa using h1
      unfold Instr.field
      simp only [Sem.run_bind, run_underlying hu, Result.andThen_ok, h1', asAgg, TV.val, Sem.run_pure]
      exact hp w
    · exact hv.elim
  · exact hv.elim

theorem eqLeaf_sound (hC : C.Ok) {t : TypeId} {x y : TV} {b : Bool} (h : eqLeaf C t x y = some b) (d : Nat) (w : World) : (Op.equalIn (d + 2) t x.val y.val).run C.P w = .ok b w := by
  unfold eqLeaf at h
  split at h
  · split at h
    · rename_i k a k' b' _ _ hd hk
      have hk := beq_iff_eq.1 hk
      subst hk
      cases h
      simp only [Op.equalIn, TV.val, Sem.run_bind, run_underlying (hC.d hd), Result.andThen_ok]
      simp [beq_dec]
    · cases h
  · split at h
    · rename_i a b' _ hd
      cases h
      simp only [Op.equalIn, TV.val, Sem.run_bind, run_underlying (hC.d hd), Result.andThen_ok]
      rw [beq_toListBytes, toList_str, toList_str, beq_list]
      rfl
    · cases h
  · split at h
    · rename_i a b' _ hd
      cases h
      exact eqIn_bool (hC.d hd) _ _ _ w
    · cases h
  · split at h
    · rename_i n a m b' _ _ n' e hd hnm
      have hnm := beq_iff_eq.1 hnm
      subst hnm
      split at h
      · rename_i _ _ he hnn
        have hnn := beq_iff_eq.1 hnn
        subst hnn
        cases h
        have hu := hC.d hd
        have hue := hC.d he
        obtain ⟨i, hi, hsz, _⟩ := hC.info he
        have hl := Ctx.ti_lt (C := C) (t := e) (by simp [he])
        have hc : C.P.cellsOf e = 1 := by
          rcases hC.size e hl with h1 | ⟨h1, _⟩
          · simp [he, isTup] at h1
          · have h2 : (C.ti e).sh = .int .u8 := by rw [hC.tab e hl]; simp [TI.of, shOf, hue]
            rw [h2] at h1
            have h3 : (C.ti e).size = C.P.cellsOf e := by rw [hC.tab e hl]; rfl
            rw [← h3, ← h1]; rfl
        simp only [TV.val]
        rw [run_equalIn_array w (d + 1) _ _ hu hi, List.range_eq_range', eqItems_bytes hue hc d a b' w n' 0 (by omega)]
        simp
      · cases h
    · cases h
  · cases h

theorem eqAgg_sound (hC : C.Ok) (d : Nat) (w : World) (X Y : Array Value) : ∀ (fs : List Field) (xs ys : List TV) (b : Bool), eqAgg C fs xs ys = some b →
    (∀ (j : Nat) (fd : Field) (x : TV), fs[j]? = some fd → xs[j]? = some x → (part fd.type X fd.offset).run C.P w = .ok x.val w) →
    (∀ (j : Nat) (fd : Field) (y : TV), fs[j]? = some fd → ys[j]? = some y → (part fd.type Y fd.offset).run C.P w = .ok y.val w) →
    (Op.eqFields (d + 2) X Y fs).run C.P w = .ok b w
  | [], xs, ys, b, h, _, _ => by
    cases xs <;> cases ys <;> simp [eqAgg] at h
    subst h; rfl
  | f :: fs, [], ys, b, h, _, _ => by cases ys <;> simp [eqAgg] at h
  | f :: fs, x :: xs, [], b, h, _, _ => by simp [eqAgg] at h
  | f :: fs, x :: xs, y :: ys, b, h, h1, h2 => by
    unfold eqAgg at h
    split at h
    · cases h
    · rename_i hn
      have hn : f.name ≠ "_" := by simpa using hn
      cases ha : eqLeaf C f.type x y with
      | none => rw [ha] at h; simp [andO] at h
      | some a =>
        cases hb : eqAgg C fs xs ys with
        | none => rw [ha, hb] at h; simp [andO] at h
        | some b' =>
          rw [ha, hb] at h
          simp only [andO, Option.some.injEq] at h
          subst h
          unfold Op.eqFields
          have e1 := h1 0 f x rfl rfl
          have e2 := h2 0 f y rfl rfl
          have e3 := eqLeaf_sound hC ha d w
          have e4 := eqAgg_sound hC d w X Y fs xs ys b' hb (fun j fd x hj hx => h1 (j + 1) fd x hj hx) (fun j fd y hj hy => h2 (j + 1) fd y hj hy)
          simp only [hn, ne_eq, not_false_eq_true, if_true, Sem.run_bind, e1, e2, Result.andThen_ok, e3]
          cases a
          · simp
          · simp [e4]

theorem vcBinA_sound (hC : C.Ok) {op : BinOp} {t : TypeId} {x y : Option TV} {K : Option TV → Prop} (hv : vcBinA C op t x y K) {X Y : Value} (hx : Rel x X) (hy : Rel y Y) (ox oy : Operand) :
    ∃ r v, K r ∧ Rel r v ∧ GivesA C.P (do eqGuard op t ox oy X Y; binOp op t X Y) v := by
  unfold vcBinA at hv
  split at hv
  · rename_i xs ys
    obtain rfl := hx _ rfl
    obtain rfl := hy _ rfl
    split at hv
    · rename_i fs ss hd hsh hoff heq hheld
      split at hv
      · rename_i b hxs hys hb
        have hlt := Ctx.ti_lt (C := C) (t := t) (by simp [hd])
        have hu := hC.d hd
        have hoff' : offsOk C.P ss fs.toList 0 = true := by
          rw [hC.tab t hlt] at hoff hsh
          simp only [TI.of, hu] at hoff hsh
          rw [hsh] at hoff
          exact hoff
        have hfs : C.P.fieldsOf t = fs := by unfold Program.fieldsOf; rw [hu]
        have hh : C.P.stoodInHeld t = false := by rw [← hheld, hC.tab t hlt]; rfl
        have hg : C.P.eqGuardType C.P.depth t = false := by rw [← heq, hC.tab t hlt]; rfl
        have he : ∀ w : World, (Op.equal t (.agg (TVs.cells xs).toArray) (.agg (TVs.cells ys).toArray)).run C.P w = .ok b w := by
          intro w
          unfold Op.equal Op.maxDepth
          rw [run_equalIn_struct w 9999 t _ _ (by rw [hfs]; exact hu) hh, hfs]
          exact eqAgg_sound hC 9997 w _ _ fs.toList xs ys b hb
            (fun j fd x hj hx => by obtain ⟨fd', h1, hp⟩ := part_at (C := C) hoff' hxs hx; rw [hj] at h1; cases h1; exact hp w)
            (fun j fd y hj hy => by obtain ⟨fd', h1, hp⟩ := part_at (C := C) hoff' hys hy; rw [hj] at h1; cases h1; exact hp w)
        obtain ⟨r, v, h1, h2, h3⟩ := vcEq_sound (P := C.P) (t := t) (X := (TV.agg xs).val) (Y := (TV.agg ys).val) hv rfl rfl (fun w => by simp only [TV.val]; exact he w)
        refine ⟨r, v, h1, h2, ?_⟩
        intro w
        have hgr : (eqGuard op t ox oy (TV.agg xs).val (TV.agg ys).val).run C.P w = .ok () w := by
          unfold eqGuard
          cases op <;> simp [TV.val, hg]
        rw [Sem.run_bind, hgr]
        exact h3 w
      · exact hv.elim
    · exact hv.elim
  · exact vcBin_sound hC hv hx hy ox oy

theorem vcIndex_sound (hC : C.Ok) {t : TypeId} {x y : Option TV} {X Y : Value} (hv : vcIndex C t x y K) (hx : Rel x X) (hy : Rel y Y) : ∃ r v, K r ∧ Rel r v ∧ GivesA C.P (Instr.index t X Y) v := by
  unfold vcIndex at hv
  split at hv
  · rename_i s k n hd
    obtain rfl := hx _ rfl
    obtain rfl := hy _ rfl
    obtain ⟨h0, h1, hk⟩ := hv
    refine ⟨_, _, hk, .some rfl, fun w => ?_⟩
    have hlt : n.toNat < s.length := by omega
    have hg : (⟨s.toArray⟩ : ByteArray)[n.toNat]? = some (s.getD n.toNat 0) := by
      have hsz : n.toNat < (⟨s.toArray⟩ : ByteArray).size := by simp [ByteArray.size, hlt]
      rw [getElem?_pos (⟨s.toArray⟩ : ByteArray) n.toNat hsz]
      show some (s.toArray[n.toNat]'(by simpa using hlt)) = _
      simp [hlt]
    unfold Instr.index
    simp only [TV.val, asIntOf, Sem.run_bind, Sem.run_pure, Result.andThen_ok, run_underlying (hC.d hd), h0, if_true, hg]
  · rename_i m b k n m' e hd
    obtain rfl := hx _ rfl
    obtain rfl := hy _ rfl
    split at hv
    · rename_i he hm
      have hm := beq_iff_eq.1 hm
      subst hm
      obtain ⟨h0, h1, hk⟩ := hv
      refine ⟨_, _, hk, .some rfl, fun w => ?_⟩
      obtain ⟨i, hi, hsz, _⟩ := hC.info he
      have hue := hC.d he
      have hl := Ctx.ti_lt (C := C) (t := e) (by simp [he])
      have hc : C.P.cellsOf e = 1 := by
        rcases hC.size e hl with h1 | ⟨h1, _⟩
        · simp [he, isTup] at h1
        · have h2 : (C.ti e).sh = .int .u8 := by rw [hC.tab e hl]; simp [TI.of, shOf, hue]
          rw [h2] at h1
          have h3 : (C.ti e).size = C.P.cellsOf e := by rw [hC.tab e hl]; rfl
          rw [← h3, ← h1]; rfl
      have hlt : n.toNat < b.l.length := by rw [b.h]; omega
      unfold Instr.index
      simp only [TV.val, asIntOf, Sem.run_bind, Sem.run_pure, Result.andThen_ok, run_underlying (hC.d hd), h0, h1, and_self, if_true, run_sizeOf w hi, hc, Nat.mul_one]
      rw [part_byte hue _ _ (.int .u8 ((b.l.getD n.toNat 0).toNat : Int)) (by simp [hlt])]
    · exact hv.elim
  · rename_i k m b k' n m' e hd
    obtain rfl := hx _ rfl
    obtain rfl := hy _ rfl
    split at hv
    · rename_i k2 he hm
      have hm := beq_iff_eq.1 hm
      subst hm
      split at hv
      · obtain ⟨h0, h1, hk⟩ := hv
        refine ⟨_, _, hk, .some rfl, fun w => ?_⟩
        obtain ⟨i, hi, hsz, _⟩ := hC.info he
        have hue := hC.d he
        have hl := Ctx.ti_lt (C := C) (t := e) (by simp [he])
        have hc : C.P.cellsOf e = 1 := by
          rcases hC.size e hl with h1 | ⟨h1, _⟩
          · simp [he, isTup] at h1
          · have h2 : (C.ti e).sh = .int k2 := by rw [hC.tab e hl]; simp [TI.of, shOf, hue]
            rw [h2] at h1
            have h3 : (C.ti e).size = C.P.cellsOf e := by rw [hC.tab e hl]; rfl
            rw [← h3, ← h1]; rfl
        have hlt : n.toNat < b.l.length := by rw [b.h]; omega
        unfold Instr.index
        simp only [TV.val, asIntOf, Sem.run_bind, Sem.run_pure, Result.andThen_ok, run_underlying (hC.d hd), h0, h1, and_self, if_true, run_sizeOf w hi, hc, Nat.mul_one]
        unfold part
        simp only [Sem.run_bind, isAgg_run hue, Result.andThen_ok, isAggD]
        simp [hlt]
      · exact hv.elim
    · exact hv.elim
  · exact hv.elim

def RelO : Option (Option TV) → Option Value → Prop
  | none, none => True
  | some r, some v => Rel r v
  | _, _ => False

theorem vcBounds_sound {len top : Nat} {lo hi : Option (Option TV)} {k : Nat → Nat → Prop} (hv : vcBounds len top lo hi k) {L H : Option Value}
    (hL : RelO lo L) (hH : RelO hi H) (isS : Bool) :
    ∃ l u, k l u ∧ ∀ w, (Instr.sliceBounds isS len top L H none).run P w = .ok (l, u, top) w := by
  unfold vcBounds at hv
  split at hv
  · cases L <;> cases H <;> first | exact hL.elim | exact hH.elim | skip
    exact ⟨0, len, hv, fun w => by simp [Instr.sliceBounds]⟩
  · rename_i k1 l
    cases L <;> cases H <;> first | exact hL.elim | exact hH.elim | skip
    obtain rfl := hL _ rfl
    obtain ⟨h0, h1, hk⟩ := hv
    exact ⟨_, _, hk, fun w => by simp [Instr.sliceBounds, Instr.sliceBound, TV.val, asIntOf, h0, h1]⟩
  · rename_i k1 u
    cases L <;> cases H <;> first | exact hL.elim | exact hH.elim | skip
    obtain rfl := hH _ rfl
    obtain ⟨h0, h1, hk⟩ := hv
    exact ⟨_, _, hk, fun w => by simp [Instr.sliceBounds, Instr.sliceBound, TV.val, asIntOf, h0, h1]⟩
  · rename_i k1 l k2 u
    cases L <;> cases H <;> first | exact hL.elim | exact hH.elim | skip
    obtain rfl := hL _ rfl
    obtain rfl := hH _ rfl
    obtain ⟨h0, h1, h2, h3, hk⟩ := hv
    have h3' : l ≤ (u.toNat : Int) := by omega
    have h3'' : l ≤ max u 0 := by omega
    exact ⟨_, _, hk, fun w => by simp [Instr.sliceBounds, Instr.sliceBound, TV.val, asIntOf, h0, h1, h2, h3'']⟩
  · exact hv.elim

theorem vcSlice_sound (hC : C.Ok) {t : TypeId} {x : Option TV} {lo hi : Option (Option TV)} {X : Value} {L H : Option Value} (hv : vcSlice C t x lo hi K) (hx : Rel x X)
    (hL : RelO lo L) (hH : RelO hi H) : ∃ r v, K r ∧ Rel r v ∧ GivesA C.P (Instr.sliceAt t X L H none) v := by
  unfold vcSlice at hv
  split at hv
  · rename_i s hd
    obtain rfl := hx _ rfl
    obtain ⟨l, u, hk, h3⟩ := vcBounds_sound (P := C.P) hv hL hH false
    refine ⟨_, _, hk, .some rfl, fun w => ?_⟩
    unfold Instr.sliceAt Instr.slice
    have hsz : (⟨s.toArray⟩ : ByteArray).size = s.length := by simp [ByteArray.size]
    simp only [TV.val, Sem.run_bind, run_underlying (hC.d hd), Result.andThen_ok, hsz, Option.isSome_none, Bool.false_eq_true, if_false, h3, Sem.run_pure]
    congr 2
    apply ByteArray.ext
    simp [ByteArray.data_extract, List.extract_eq_take_drop]
  · rename_i s e hd
    obtain rfl := hx _ rfl
    split at hv
    · rename_i he
      obtain ⟨d', hd'⟩ := Option.isSome_iff_exists.1 he
      obtain ⟨i, hi', hsz, _⟩ := hC.info hd'
      have hc : C.P.cellsOf e = (C.ti e).size := by rw [← hsz]; simp [Program.cellsOf, hi']
      obtain ⟨l, u, hk, h3⟩ := vcBounds_sound (P := C.P) hv hL hH true
      refine ⟨_, _, hk, .some rfl, fun w => ?_⟩
      unfold Instr.sliceAt Instr.slice
      simp only [TV.val, slVal, Sem.run_bind, run_underlying (hC.d hd), Result.andThen_ok, h3, run_sizeOf w hi', Sem.run_pure, hc, cutSl]
      congr 2
      split
      · rfl
      · cases s.a <;> simp [addr_add]
    · exact hv.elim
  · rename_i p n e hd
    obtain rfl := hx _ rfl
    split at hv
    · rename_i he
      obtain ⟨q, rfl, hq⟩ := elim_some hv
      obtain ⟨d', hd'⟩ := Option.isSome_iff_exists.1 he
      obtain ⟨i, hi', hsz, _⟩ := hC.info hd'
      have hc : C.P.cellsOf e = (C.ti e).size := by rw [← hsz]; simp [Program.cellsOf, hi']
      obtain ⟨l, u, hk, h3⟩ := vcBounds_sound (P := C.P) hq hL hH false
      refine ⟨_, _, hk, .some rfl, fun w => ?_⟩
      unfold Instr.sliceAt
      simp only [TV.val, slVal, Option.map_some, Instr.sureAddr, Sem.run_bind, run_underlying (hC.d hd), Result.andThen_ok, h3, run_sizeOf w hi', Sem.run_pure, hc, cutSl]
      congr 2
      split <;> simp [addr_add]
    · exact hv.elim
  · exact hv.elim

theorem vcSlice3_sound (hC : C.Ok) {t : TypeId} {x m : Option TV} {lo hi : Option (Option TV)} {X M : Value} {L H : Option Value} (hv : vcSlice3 C t x lo hi m K) (hx : Rel x X)
    (hL : RelO lo L) (hH : RelO hi H) (hM : Rel m M) : ∃ r v, K r ∧ Rel r v ∧ GivesA C.P (Instr.sliceAt t X L H (some M)) v := by
  unfold vcSlice3 at hv
  split at hv
  · rename_i s e k1 u k2 m hd
    obtain rfl := hx _ rfl
    obtain rfl := hM _ rfl
    cases H with
    | none => exact hH.elim
    | some H =>
    obtain rfl := hH _ rfl
    split at hv
    · rename_i he
      obtain ⟨d', hd'⟩ := Option.isSome_iff_exists.1 he
      obtain ⟨i, hi', hsz, _⟩ := hC.info hd'
      have hc : C.P.cellsOf e = (C.ti e).size := by rw [← hsz]; simp [Program.cellsOf, hi']
      obtain ⟨m0, m1, u0, u1, hv⟩ := hv
      have um : u ≤ max m 0 := by omega
      split at hv
      · cases L with
        | some _ => exact hL.elim
        | none =>
        refine ⟨_, _, hv, .some rfl, fun w => ?_⟩
        unfold Instr.sliceAt Instr.slice
        simp only [TV.val, slVal, Sem.run_bind, run_underlying (hC.d hd), Result.andThen_ok, Sem.run_pure, cutSl]
        simp [Instr.sliceBounds, Instr.sliceBound, asIntOf, m0, m1, u0, um, run_sizeOf w hi', hc]
        intro _
        cases s.a <;> simp [Addr.add]
      · rename_i k3 l
        cases L with
        | none => exact hL.elim
        | some L =>
        obtain rfl := hL _ rfl
        obtain ⟨l0, l1, hv⟩ := hv
        have lu : l ≤ max u 0 := by omega
        refine ⟨_, _, hv, .some rfl, fun w => ?_⟩
        unfold Instr.sliceAt Instr.slice
        simp only [TV.val, slVal, Sem.run_bind, run_underlying (hC.d hd), Result.andThen_ok, Sem.run_pure, cutSl]
        simp [Instr.sliceBounds, Instr.sliceBound, asIntOf, m0, m1, u0, um, l0, lu, run_sizeOf w hi', hc]
        split
        · rfl
        · cases s.a <;> simp [addr_add]
      · exact hv.elim
    · exact hv.elim
  · exact hv.elim

theorem fold_splice (off : Nat) : ∀ (vs : List Value) (k : Nat) (cells : Array Value) (i : Nat), ((vs.zipIdx k).foldl (fun cs (p : Value × Nat) => cs.setIfInBounds (off + p.2) p.1) cells)[i]? =
    if off + k ≤ i ∧ i < off + k + vs.length ∧ i < cells.size then vs[i - off - k]? else cells[i]?
  | [], k, cells, i => by
    simp only [List.zipIdx_nil, List.foldl_nil, List.length_nil]
    rw [if_neg (by omega)]
  | v :: vs, k, cells, i => by
    simp only [List.zipIdx_cons, List.foldl_cons]
    rw [fold_splice off vs (k + 1) _ i]
    simp only [List.length_cons, Array.size_setIfInBounds]
    by_cases h1 : off + (k + 1) ≤ i ∧ i < off + (k + 1) + vs.length ∧ i < cells.size
    · rw [if_pos h1, if_pos (by omega), show i - off - k = (i - off - (k + 1)) + 1 by omega]
      simp
    · rw [if_neg h1]
      by_cases h2 : i = off + k
      · subst h2
        by_cases h3 : off + k < cells.size
        · rw [if_pos (by omega)]
          rw [Array.getElem?_setIfInBounds, if_pos rfl, if_pos h3, show off + k - off - k = 0 by omega]
          rfl
        · rw [if_neg (by omega), Array.getElem?_setIfInBounds, if_pos rfl, if_neg h3, Array.getElem?_eq_none (by omega)]
      · rw [if_neg (by omega), Array.getElem?_setIfInBounds, if_neg (by omega)]

theorem fold_splice' (off : Nat) (vs : List Value) (cs : List Value) (hl : off + vs.length ≤ cs.length) : (vs.toArray.zipIdx.foldl (fun cs (p : Value × Nat) => cs.setIfInBounds (off + p.2) p.1) cs.toArray) = (cs.take off ++ vs ++ cs.drop (off + vs.length)).toArray := by
  rw [← Array.foldl_toList, Array.toList_zipIdx]
  apply Array.ext_getElem?
  intro i
  rw [fold_splice off vs 0 _ i]
  simp only [List.size_toArray, List.getElem?_toArray, Nat.add_zero, Nat.sub_zero]
  by_cases h1 : i < off
  · rw [if_neg (by omega), List.append_assoc, List.getElem?_append_left (by simp; omega), List.getElem?_take_of_lt h1]
  · by_cases h2 : i < off + vs.length
    · rw [if_pos (by omega), List.append_assoc, List.getElem?_append_right (by simp; omega), List.getElem?_append_left (by simp; omega)]
      congr 1
      simp; omega
    · rw [if_neg (by omega), List.append_assoc, List.getElem?_append_right (by simp; omega), List.getElem?_append_right (by simp; omega), List.getElem?_drop]
      congr 1
      simp; omega

theorem cells_split : ∀ (zs : List TV) (i : Nat) (z : TV), zs[i]? = some z → TVs.cells zs = TVs.cells (zs.take i) ++ (z.cells ++ TVs.cells (zs.drop (i + 1)))
  | [], i, z, h => by simp at h
  | x :: xs, 0, z, h => by
    simp only [List.getElem?_cons_zero, Option.some.injEq] at h
    subst h
    simp [TVs.cells]
  | x :: xs, i + 1, z, h => by
    simp only [List.getElem?_cons_succ] at h
    simp only [TVs.cells, List.take_succ_cons, List.drop_succ_cons, List.append_assoc]
    rw [cells_split xs i z h]

theorem cells_set : ∀ (zs : List TV) (i : Nat) (z v : TV), zs[i]? = some z → TVs.cells (zs.set i v) = TVs.cells (zs.take i) ++ (v.cells ++ TVs.cells (zs.drop (i + 1)))
  | [], i, z, v, h => by simp at h
  | x :: xs, 0, z, v, h => by simp [TVs.cells]
  | x :: xs, i + 1, z, v, h => by
    simp only [List.getElem?_cons_succ] at h
    simp only [TVs.cells, List.set_cons_succ, List.take_succ_cons, List.drop_succ_cons, List.append_assoc]
    rw [cells_set xs i z v h]

theorem size_set : ∀ (zs : List TV) (i : Nat) (z v : TV), zs[i]? = some z → v.size = z.size → (zs.set i v).map TV.size = zs.map TV.size
  | [], i, z, v, h, _ => by simp at h
  | x :: xs, 0, z, v, h, hs => by
    simp only [List.getElem?_cons_zero, Option.some.injEq] at h
    subst h
    simp [hs]
  | x :: xs, i + 1, z, v, h, hs => by
    simp only [List.getElem?_cons_succ] at h
    simp [size_set xs i z v h hs]

theorem offs_at : ∀ (ss : List Sh) (fs : List Field) (n : Nat) (xs : List TV) (i : Nat) (v : TV), offsOk P ss fs n = true → xs.map TV.size = ss.map Sh.size → xs[i]? = some v →
    ∃ fd, fs[i]? = some fd ∧ fd.offset = n + TVs.size (xs.take i) ∧ P.cellsOf fd.type = v.size
  | [], [], n, xs, i, v, _, hh, hi => by
    cases xs with
    | nil => simp at hi
    | cons x xs => simp at hh
  | s :: ss, f :: fs, n, xs, i, v, ho, hh, hi => by
    cases xs with
    | nil => simp at hi
    | cons x xs =>
      simp only [List.map_cons, List.cons.injEq] at hh
      simp only [offsOk, Bool.and_eq_true, beq_iff_eq] at ho
      obtain ⟨⟨⟨⟨h1, h2⟩, h3⟩, h3'⟩, h4⟩ := ho
      cases i with
      | zero =>
        simp only [List.getElem?_cons_zero, Option.some.injEq] at hi
        subst hi
        exact ⟨f, rfl, by simp [TVs.size, h1], by rw [← h2, hh.1]⟩
      | succ i =>
        simp only [List.getElem?_cons_succ] at hi
        obtain ⟨fd, e1, e2, e3⟩ := offs_at ss fs _ xs i v h4 hh.2 hi
        refine ⟨fd, by simpa using e1, ?_, e3⟩
        rw [e2, List.take_succ_cons, TVs.size, hh.1]
        omega
  | [], _ :: _, n, xs, i, v, ho, hh, hi => by simp [offsOk] at ho
  | _ :: _, [], n, xs, i, v, ho, hh, hi => by simp [offsOk] at ho

/-- Parts whose values are known. -/
def RelParts : List (Nat × Option TV) → List (Nat × Value) → Prop
  | [], [] => True
  | (i, r) :: ps, (j, v) :: vs => i = j ∧ Rel r v ∧ RelParts ps vs
  | _, _ => False

theorem setParts_fill' {sizes : List Nat} {place : Nat → Option (Nat × Nat)} (hp : ∀ (zs : List TV) (i : Nat) (z : TV), zs.map TV.size = sizes → zs[i]? = some z → place i = some (TVs.size (zs.take i), z.size)) :
    ∀ (ps : List (Nat × Option TV)) (vs : List (Nat × Value)) (zs xs : List TV), RelParts ps vs → setParts zs ps = some xs → zs.map TV.size = sizes →
      Instr.fill place (TVs.cells zs).toArray vs = some (TVs.cells xs).toArray
  | [], [], zs, xs, _, hs, _ => by simp only [setParts, Option.some.injEq] at hs; subst hs; rfl
  | (i, none) :: ps, (j, v) :: vs, zs, xs, hr, hs, _ => by simp [setParts] at hs
  | (i, some tv) :: ps, (j, v) :: vs, zs, xs, hr, hs, hz => by
    obtain ⟨rfl, h1, h2⟩ := hr
    obtain rfl := h1 _ rfl
    simp only [setParts] at hs
    split at hs
    · rename_i z hzi
      split at hs
      · rename_i hsz
        have hsz := beq_iff_eq.1 hsz
        have e1 := hp zs i z hz hzi
        have ih := setParts_fill' hp ps vs (zs.set i tv) xs h2 hs (by rw [size_set zs i z tv hzi hsz]; exact hz)
        have hA := TVs.cells_length (zs.take i)
        have hZ := TV.cells_length z
        have hT := TV.cells_length tv
        have hsp := cells_split zs i z hzi
        have hlen : TVs.size (zs.take i) + tv.cells.length ≤ (TVs.cells zs).length := by
          rw [hsp]; simp only [List.length_append]; omega
        unfold Instr.fill
        rw [e1]
        simp only [TV.val_cells, List.size_toArray]
        rw [if_neg (by simp only [ne_eq, decide_not, Bool.or_eq_true, Bool.not_eq_eq_eq_not, Bool.not_true, decide_eq_false_iff_not, decide_eq_true_eq]; omega), ← ih, fold_splice' (TVs.size (zs.take i)) tv.cells (TVs.cells zs) hlen]
        congr 2
        rw [cells_set zs i z tv hzi, hsp, ← hA]
        rw [List.take_left', List.drop_append, List.drop_of_length_le (by omega), List.drop_append, List.drop_of_length_le (by omega)]
        · simp only [List.nil_append, List.append_assoc]
          rw [show (TVs.cells (List.take i zs)).length + tv.cells.length - (TVs.cells (List.take i zs)).length - z.cells.length = 0 by omega]
          simp
        · rfl
      · cases hs
    · cases hs

theorem setParts_fill {ss : List Sh} {fs : List Field} (ho : offsOk P ss fs 0 = true) {place : Nat → Option (Nat × Nat)} (hp : ∀ i fd, fs[i]? = some fd → place i = some (fd.offset, P.cellsOf fd.type))
    (ps : List (Nat × Option TV)) (vs : List (Nat × Value)) (zs xs : List TV) (hr : RelParts ps vs) (hs : setParts zs ps = some xs) (hz : zs.map TV.size = ss.map Sh.size) :
      Instr.fill place (TVs.cells zs).toArray vs = some (TVs.cells xs).toArray :=
  setParts_fill' (sizes := ss.map Sh.size) (fun zs i z hz hzi => by
    obtain ⟨fd, e1, e2, e3⟩ := offs_at ss fs 0 zs i z ho hz hzi
    rw [hp i fd e1, e2, e3, Nat.zero_add]) ps vs zs xs hr hs hz

theorem offs_isSome : ∀ (ss : List Sh) (fs : List Field) (n : Nat), offsOk P ss fs n = true → ∀ f : Field, f ∈ fs → (P.underlying f.type).isSome = true
  | [], [], n, _, f, hf => by cases hf
  | s :: ss, g :: fs, n, ho, f, hf => by
    simp only [offsOk, Bool.and_eq_true] at ho
    rcases List.mem_cons.1 hf with rfl | hf
    · exact ho.1.2
    · exact offs_isSome ss fs _ ho.2 f hf
  | [], _ :: _, n, ho, _, _ => by simp [offsOk] at ho
  | _ :: _, [], n, ho, _, hf => by cases hf

theorem sizes_map {α : Type} (f : α → TV) (g : α → Sh) (h : ∀ a, (f a).size = (g a).size) : ∀ l : List α, TVs.size (l.map f) = Shs.size (l.map g)
  | [] => rfl
  | a :: l => by simp only [List.map_cons, TVs.size, Shs.size, h a, sizes_map f g h l]

theorem sizes_rep (a : TV) (b : Sh) (h : a.size = b.size) : ∀ n : Nat, TVs.size (List.replicate n a) = Shs.size (List.replicate n b)
  | 0 => rfl
  | n + 1 => by simp only [List.replicate_succ, TVs.size, Shs.size, h, sizes_rep a b h n]

theorem zOf_size (P : Program) : ∀ (d : Nat) (t : TypeId), (zOf P d t).size = (shOf P d t).size
  | 0, t => rfl
  | d + 1, t => by
    unfold zOf shOf
    split
    all_goals try rfl
    · simp only [TV.size, Sh.size]; exact sizes_map (fun f : Field => zOf P d f.type) (fun f : Field => shOf P d f.type) (fun f => zOf_size P d f.type) _
    · split
      · rfl
      · rfl
      · simp only [TV.size, Sh.size]; exact sizes_rep _ _ (zOf_size P d _) _

theorem setWords_agg : ∀ (ps : List (Nat × Option TV)) (p : Nat × Option TV) (z : TV) {z' : TV}, setWords z (p :: ps) = some z' → tvAgg z' = true
  | ps, (i, none), z, z', h => by simp [setWords] at h
  | [], (i, some v), z, z', h => by
    simp only [setWords] at h
    split at h
    · rename_i z1 h1
      simp only [Option.some.injEq] at h
      subst h
      unfold putWord at h1
      split at h1
      · split at h1
        · cases h1; rfl
        · cases h1
      · cases h1
    · cases h
  | q :: ps, (i, some v), z, z', h => by
    simp only [setWords] at h
    split at h
    · exact setWords_agg ps q _ h
    · cases h

theorem setWords_size : ∀ (ps : List (Nat × Option TV)) (z z' : TV), setWords z ps = some z' → z'.size = z.size
  | [], z, z', h => by simp only [setWords, Option.some.injEq] at h; rw [h]
  | (i, none) :: ps, z, z', h => by simp [setWords] at h
  | (i, some v) :: ps, z, z', h => by
    simp only [setWords] at h
    split at h
    · rename_i z1 h1
      rw [setWords_size ps z1 z' h]
      unfold putWord at h1
      split at h1
      · split at h1
        · cases h1; rfl
        · cases h1
      · cases h1
    · cases h

theorem setWords_fill : ∀ (ps : List (Nat × Option TV)) (vs : List (Nat × Value)) (z z' : TV), RelParts ps vs → setWords z ps = some z' →
    Instr.fill (fun i => some (i * 1, 1)) z.cells.toArray vs = some z'.cells.toArray
  | [], [], z, z', _, hs => by simp only [setWords, Option.some.injEq] at hs; subst hs; rfl
  | (i, none) :: ps, (j, v) :: vs, z, z', hr, hs => by simp [setWords] at hs
  | (i, some tv) :: ps, (j, v) :: vs, z, z', hr, hs => by
    obtain ⟨rfl, h1, h2⟩ := hr
    obtain rfl := h1 _ rfl
    simp only [setWords] at hs
    split at hs
    · rename_i z1 hz1
      have ih := setWords_fill ps vs z1 z' h2 hs
      unfold putWord at hz1
      split at hz1
      · rename_i _ k n w k' x
        split at hz1
        · rename_i hk hlt
          have hk := beq_iff_eq.1 hk
          subst hk
          have hlt : i < n := by simpa using hlt
          simp only [Option.some.injEq] at hz1
          subst hz1
          have hlen : (TV.words k n w).cells.length = n := TV.cells_length _
          have hlt' : i + 1 ≤ n := by have : i < n := by simpa using hlt
                                      omega
          unfold Instr.fill
          simp only [TV.val_cells, List.size_toArray]
          rw [if_neg (by simp [TV.cells, w.h]; omega), ← ih, fold_splice' (i * 1) _ _ (by rw [hlen]; simp only [TV.cells, List.length_singleton]; omega)]
          congr 2
          simp only [TV.cells, Nat.mul_one, Ws.set, List.map_set, List.length_cons, List.length_nil]
          rw [List.set_eq_take_append_cons_drop, if_pos (by simp [w.h]; exact hlt)]
          simp
        · cases hz1
      · cases hz1
    · cases hs

theorem struct_facts (hC : C.Ok) {t : TypeId} {fs : Array Field} (hd : (C.ti t).d = some (.struct fs)) :
    (C.ti t).sh = .agg (fs.toList.map fun f : Field => shOf C.P 19 f.type) ∧ (C.ti t).z = .agg (fs.toList.map fun f : Field => zOf C.P 19 f.type) ∧
    ((C.ti t).offs = true → offsOk C.P (fs.toList.map fun f : Field => shOf C.P 19 f.type) fs.toList 0 = true) := by
  have hlt := Ctx.ti_lt (C := C) (t := t) (by simp [hd])
  have hu := hC.d hd
  have h1 : shOf C.P (19 + 1) t = .agg (fs.toList.map fun f : Field => shOf C.P 19 f.type) := by rw [shOf, hu]
  have h2 : zOf C.P (19 + 1) t = .agg (fs.toList.map fun f : Field => zOf C.P 19 f.type) := by rw [zOf, hu]
  rw [hC.tab t hlt]
  refine ⟨h1, h2, fun h => ?_⟩
  have h3 : (match C.P.underlying t, shOf C.P (19 + 1) t with | some (.struct fs), .agg ss => offsOk C.P ss fs.toList 0 | _, _ => false) = true := h
  rw [hu, h1] at h3
  exact h3

theorem vcBuild_sound (hC : C.Ok) {t : TypeId} {ps : List (Nat × Option TV)} {parts : Array (Nat × Value)} (hv : vcBuild C t ps K) (hr : RelParts ps parts.toList) : ∃ r v, K r ∧ Rel r v ∧ GivesA C.P (Instr.build t parts) v := by
  unfold vcBuild at hv
  split at hv
  · rename_i fs zs hd hz
    split at hv
    · rename_i xs hoff hset
      refine ⟨_, _, hv, .some rfl, fun w => ?_⟩
      have hlt := Ctx.ti_lt (C := C) (t := t) (by simp [hd])
      have hu := hC.d hd
      obtain ⟨it, hit, hzero⟩ := hC.zero t hlt (by simp [hd])
      have hzero : it.zero = some (TV.agg zs).val := by
        rcases hzero with h1 | h1
        · simp [hd, isTup] at h1
        · rw [h1, hz]
      obtain ⟨hsh, hz', hoff'⟩ := struct_facts hC hd
      have hoff' := hoff' hoff
      generalize hss : (fs.toList.map fun f : Field => shOf C.P 19 f.type) = ss at hoff'
      have hsz : zs.map TV.size = ss.map Sh.size := by
        rw [hz'] at hz
        injection hz with hz
        subst hz; subst hss
        simp only [List.map_map]
        apply List.map_congr_left
        intro f _
        exact zOf_size C.P 19 f.type
      have hplaces : fs.toList.mapM (fun f : Field => (C.P.info? f.type).map fun i => (f.offset, i.size)) = some (fs.toList.map fun f : Field => (f.offset, C.P.cellsOf f.type)) := by
        have hall : ∀ f ∈ fs.toList, (C.P.underlying f.type).isSome = true := offs_isSome ss fs.toList 0 hoff'
        revert hall
        generalize fs.toList = l
        intro hall
        induction l with
        | nil => rfl
        | cons f l ih =>
          rw [List.mapM_cons, ih (fun g hg => hall g (by simp [hg]))]
          have := hall f (by simp)
          cases hi : C.P.info? f.type with
          | none => simp [Program.underlying, hi] at this
          | some i => simp [Program.cellsOf, hi]
      have hb : C.P.built t parts.toList = some (TVs.cells xs).toArray := by
        unfold Program.built
        simp only [hit, hu, hzero, hplaces]
        exact setParts_fill hoff' (fun i fd h => by simp [h]) ps parts.toList zs xs hr hset hsz
      rw [run_build w t parts _ hb]
      rfl
    · exact hv.elim
  · rename_i n e hd
    have hlt := Ctx.ti_lt (C := C) (t := t) (by simp [hd])
    have hu := hC.d hd
    obtain ⟨it, hit, hzero⟩ := hC.zero t hlt (by simp [hd])
    have hzero : it.zero = some (C.ti t).z.val := by
      rcases hzero with h1 | h1
      · simp [hd, isTup] at h1
      · exact h1
    split at hv
    · rename_i d hde
      obtain ⟨ie, hie, hsz, _⟩ := hC.info hde
      have haggz : (C.ti t).z.val = .agg (C.ti t).z.cells.toArray := by
        rw [hC.tab t hlt]
        show (zOf C.P (19 + 1) t).val = .agg (zOf C.P (19 + 1) t).cells.toArray
        rw [zOf, hu]
        dsimp only
        split <;> rfl
      split at hv
      · refine ⟨_, _, hv, .some rfl, fun w => ?_⟩
        have hp : parts.toList = [] := by
          revert hr; cases parts.toList with
          | nil => intro _; rfl
          | cons _ _ => intro h; exact h.elim
        have hb : C.P.built t parts.toList = some (C.ti t).z.cells.toArray := by
          unfold Program.built
          simp only [hit, hu, hzero, hie, hp, Instr.fill, TV.val_cells]
        rw [run_build w t parts _ hb, haggz]
      · rename_i p ps' k
        split at hv
        · rename_i z' hset
          refine ⟨_, _, hv, .some rfl, fun w => ?_⟩
          have hc : ie.size = 1 := by
            have hle := Ctx.ti_lt (C := C) (t := e) (by simp [hde])
            rw [hsz]
            rcases hC.size e hle with h1 | ⟨h1, _⟩
            · simp [hde, isTup] at h1
            · have h2 : (C.ti e).sh = .int k := by rw [hC.tab e hle]; simp [TI.of, shOf, hC.d hde]
              rw [h2] at h1; rw [← h1]; rfl
          have hb : C.P.built t parts.toList = some z'.cells.toArray := by
            unfold Program.built
            simp only [hit, hu, hzero, hie, TV.val_cells, hc]
            exact setWords_fill _ _ _ _ hr hset
          rw [run_build w t parts _ hb]
          have : tvAgg z' = true := setWords_agg _ _ _ hset
          rw [tvAgg_val.1 this]
        · exact hv.elim
      · exact hv.elim
    · exact hv.elim
  · exact hv.elim

end
end Go.Vc
end

section
/- Keys of maps that are arrays of bytes. -/
namespace Go.Vc
open Go

section
variable {P : Program}

def bv {n : Nat} (a : Bs n) : Value := .agg (a.l.map fun c => Value.int .u8 (c.toNat : Int)).toArray

theorem bv_inj {n : Nat} {a b : Bs n} (h : bv a = bv b) : a.l = b.l := by
  unfold bv at h
  injection h with h
  have h := congrArg Array.toList h
  simp only at h
  have : ∀ (x y : List UInt8), x.map (fun c => Value.int .u8 (c.toNat : Int)) = y.map (fun c => Value.int .u8 (c.toNat : Int)) → x = y := by
    intro x
    induction x with
    | nil => intro y h; cases y with | nil => rfl | cons _ _ => simp at h
    | cons c x ih =>
      intro y h
      cases y with
      | nil => simp at h
      | cons d y =>
        simp only [List.map_cons, List.cons.injEq, Value.int.injEq, true_and] at h
        rw [ih y h.2, UInt8.toNat_inj.1 (by omega : c.toNat = d.toNat)]
  exact this _ _ h

theorem check_bytes {t e : TypeId} {n : Nat} (ht : P.underlying t = some (.array n e)) (he : P.underlying e = some (.int .u8)) {i : TypeInfo} (hi : P.info? e = some i) (hc : P.cellsOf e = 1) (a : Bs n) (em : Bool) (m : Nat) (w : World) :
    (Instr.checkKey em (m + 2) t (bv a)).run P w = .ok () w := by
  rw [show m + 2 = (m + 1) + 1 from rfl, Instr.checkKey]
  unfold bv
  simp only [Sem.run_bind, run_underlying ht, Result.andThen_ok]
  simp only [Std.Legacy.Range.forIn_eq_forIn_range', Std.Legacy.Range.size, Nat.sub_zero, Nat.add_one_sub_one, Nat.div_one]
  have each : ∀ j ∈ List.range' 0 n, j < n := fun j hj => by have := List.mem_range'.1 hj; omega
  generalize List.range' 0 n = is at each
  induction is with
  | nil => simp
  | cons j is ih =>
    have hj := each j (by simp)
    have ih := ih fun k hk => each k (by simp [hk])
    have hja : j < a.l.length := by rw [a.h]; exact hj
    have hp := part_byte he (a.l.map fun c => Value.int .u8 (c.toNat : Int)).toArray j (.int .u8 (a.l[j].toNat : Int)) (by simp [hja]) w
    have hs : (sizeOf e : Sem Nat).run P w = .ok 1 w := by rw [run_sizeOf w hi, hc]
    have hck : (Instr.checkKey em (m + 1) e (.int .u8 (a.l[j].toNat : Int))).run P w = .ok () w := by
      simp [Instr.checkKey, run_underlying he]
    simp only [List.forIn_cons, Sem.run_bind, hs, Result.andThen_ok, Nat.mul_one, hp, hck]
    exact ih

theorem stays_bytes {n : Nat} (a : Bs n) (w : World) : (Instr.keyThatStays (bv a) (bv a)).run P w = .ok (bv a) w := by
  have h : Instr.sameBits 10000 (bv a) (bv a) = true := by
    unfold bv Instr.sameBits
    simp only [beq_self_eq_true, Bool.true_and, List.all_eq_true]
    intro p hp
    have : ∀ (l : List Value), (∀ v ∈ l, ∃ z, v = Value.int .u8 z) → ∀ q ∈ l.zip l, Instr.sameBits 9999 q.1 q.2 = true := by
      intro l
      induction l with
      | nil => intro _ q hq; simp at hq
      | cons v l ih =>
        intro hv q hq
        rw [List.zip_cons_cons] at hq
        rcases List.mem_cons.1 hq with rfl | hq
        · obtain ⟨z, hz⟩ := hv v (List.mem_cons_self ..)
          rw [hz]
          simp [Instr.sameBits]
        · exact ih (fun u hu => hv u (List.mem_cons_of_mem _ hu)) q hq
    exact this _ (fun v hv => by
      simp only [List.mem_map] at hv
      obtain ⟨c, _, rfl⟩ := hv
      exact ⟨_, rfl⟩) p hp
  unfold Instr.keyThatStays
  rw [h]
  rfl

end
end Go.Vc
end

section
/- The operations that leave the world alone: one statement for all. -/
namespace Go.Vc
open Go

section
variable {P : Program} {C : Ctx} {h : Heap} {K : Option TV → Prop}

def RelL : List (Option TV) → List Value → Prop
  | [], [] => True
  | r :: rs, v :: vs => Rel r v ∧ RelL rs vs
  | _, _ => False

theorem bsize (s : List UInt8) : (⟨s.toArray⟩ : ByteArray).size = s.length := List.size_toArray

theorem vals_get : ∀ (xs : List TV) (i : Nat) (v : TV), xs[i]? = some v → (TVs.vals xs)[i]? = some v.val
  | [], i, v, h => by simp at h
  | y :: ys, 0, v, h => by simp only [List.getElem?_cons_zero, Option.some.injEq] at h; subst h; rfl
  | y :: ys, i + 1, v, h => by simp only [List.getElem?_cons_succ] at h; simpa [TVs.vals] using vals_get ys i v h

theorem EnvOk.relL {env : Env} {a : Act} (h : EnvOk env a) : ∀ l : List Operand, RelL (l.map env.ev) (l.map a.eval)
  | [] => trivial
  | x :: l => ⟨h.rel x, h.relL l⟩

theorem allKnown_vals : ∀ (rs : List (Option TV)) (vs : List Value) (ts : List TV), allKnown rs = some ts → RelL rs vs → vs = TVs.vals ts
  | [], [], ts, h, _ => by simp only [allKnown, Option.some.injEq] at h; subst h; rfl
  | some x :: rs, v :: vs, ts, h, hr => by
    simp only [allKnown] at h
    split at h
    · rename_i ys hy
      simp only [Option.some.injEq] at h
      subst h
      obtain rfl := hr.1 _ rfl
      rw [allKnown_vals rs vs ys hy hr.2]
      rfl
    · cases h
  | none :: rs, v :: vs, ts, h, hr => by simp [allKnown] at h

theorem vcBuiltinR_sound (hC : C.Ok) {b : Builtin} {ts : Array TypeId} {ty : TypeId} {xs : List (Option TV)} {vs : Array Value} (hv : vcBuiltinR C b ts.toList xs K) (hr : RelL xs vs.toList) :
    ∃ r v, K r ∧ Rel r v ∧ ∀ (cs : Array Bool) (w : World), (builtin b ts ty cs vs).run C.P w = .ok (.value v) w := by
  obtain ⟨ts⟩ := ts
  obtain ⟨vs⟩ := vs
  change vcBuiltinR C b ts xs K at hv
  change RelL xs vs at hr
  unfold vcBuiltinR at hv
  split at hv
  · obtain ⟨v, rfl⟩ : ∃ v, vs = [v] := by
      cases vs with
      | nil => exact hr.elim
      | cons v vs => cases vs with
        | nil => exact ⟨v, rfl⟩
        | cons _ _ => exact hr.2.elim
    obtain rfl := hr.1 _ rfl
    split at hv
    · rename_i hd
      refine ⟨_, _, hv, .some rfl, fun _ w => ?_⟩
      unfold builtin Builtin.len_
      simp [run_underlying (hC.d hd), TV.val, slVal, goInt]
    · exact hv.elim
  · obtain ⟨v, rfl⟩ : ∃ v, vs = [v] := by
      cases vs with
      | nil => exact hr.elim
      | cons v vs => cases vs with
        | nil => exact ⟨v, rfl⟩
        | cons _ _ => exact hr.2.elim
    obtain rfl := hr.1 _ rfl
    split at hv
    · rename_i hd
      refine ⟨_, _, hv, .some rfl, fun _ w => ?_⟩
      unfold builtin Builtin.len_
      simp [run_underlying (hC.d hd), TV.val, goInt, bsize]
    · exact hv.elim
  · obtain ⟨v, rfl⟩ : ∃ v, vs = [v] := by
      cases vs with
      | nil => exact hr.elim
      | cons v vs => cases vs with
        | nil => exact ⟨v, rfl⟩
        | cons _ _ => exact hr.2.elim
    split at hv
    · rename_i hd
      refine ⟨_, _, hv, .some rfl, fun _ w => ?_⟩
      unfold builtin Builtin.len_
      simp [run_underlying (hC.d hd), TV.val, goInt]
    · exact hv.elim
  · obtain ⟨v, rfl⟩ : ∃ v, vs = [v] := by
      cases vs with
      | nil => exact hr.elim
      | cons v vs => cases vs with
        | nil => exact ⟨v, rfl⟩
        | cons _ _ => exact hr.2.elim
    obtain rfl := hr.1 _ rfl
    split at hv
    · rename_i hd
      refine ⟨_, _, hv, .some rfl, fun _ w => ?_⟩
      unfold builtin Builtin.cap_
      simp [run_underlying (hC.d hd), TV.val, slVal, goInt]
    · exact hv.elim
  · obtain ⟨v, u, rfl⟩ : ∃ v u, vs = [v, u] := by
      cases vs with
      | nil => exact hr.elim
      | cons v vs => cases vs with
        | nil => exact hr.2.elim
        | cons u vs => cases vs with
          | nil => exact ⟨v, u, rfl⟩
          | cons _ _ => exact hr.2.2.elim
    obtain rfl := hr.1 _ rfl
    obtain rfl := hr.2.1 _ rfl
    split at hv
    · refine ⟨_, _, hv, .some rfl, fun _ w => ?_⟩
      simp [builtin, Builtin.min_, Builtin.min2, TV.val, mn]
    · exact hv.elim
  · obtain ⟨v, u, rfl⟩ : ∃ v u, vs = [v, u] := by
      cases vs with
      | nil => exact hr.elim
      | cons v vs => cases vs with
        | nil => exact hr.2.elim
        | cons u vs => cases vs with
          | nil => exact ⟨v, u, rfl⟩
          | cons _ _ => exact hr.2.2.elim
    obtain rfl := hr.1 _ rfl
    obtain rfl := hr.2.1 _ rfl
    split at hv
    · refine ⟨_, _, hv, .some rfl, fun _ w => ?_⟩
      simp [builtin, Builtin.max_, Builtin.max2, TV.val, mx]
    · exact hv.elim
  · exact hv.elim

/-! ### Maps -/

theorem str_val_inj {a b : List UInt8} : (Value.string ⟨a.toArray⟩ = Value.string ⟨b.toArray⟩) ↔ a = b := by
  constructor
  · intro h
    injection h with h
    injection h with h
    exact List.toArray_inj h
  · rintro rfl; rfl

def wide : TypeDesc → Bool
  | .array _ _ | .struct _ => true
  | _ => false

theorem keyLike_isKey {d : TypeDesc} {k : TV} (hn : wide d = false) (h : keyLike C d k = true) : MapKept.IsKey d k.val := by
  cases d <;> cases k <;> simp_all [keyLike, MapKept.IsKey, TV.val, wide]

theorem val_bv {n : Nat} (a : Bs n) : (TV.bytes n a).val = bv a := by simp only [TV.val]; rfl

theorem ints_cells : ∀ (fs : List Field) (xs ys : List TV) (o : Nat), keyInts C fs xs o = true → keyInts C fs ys o = true → (intsEq xs ys = true ↔ TVs.cells ys = TVs.cells xs)
  | [], [], [], _, _, _ => by simp [intsEq]
  | f :: fs, .int k a :: xs, .int k' b :: ys, o, h1, h2 => by
    simp only [keyInts, Bool.and_eq_true] at h1 h2
    have ih := ints_cells fs xs ys (o + 1) h1.2 h2.2
    have hk : k = k' := by
      have e1 := h1.1.2
      have e2 := h2.1.2
      cases hd : (C.ti f.type).d with
      | none => rw [hd] at e1; cases e1
      | some d =>
        rw [hd] at e1 e2
        cases d <;> simp [isInt] at e1 e2
        rw [← e1, ← e2]
    subst hk
    simp only [intsEq, Bool.and_eq_true, decide_eq_true_eq, ih, TVs.cells, TV.cells, List.cons_append, List.nil_append, List.cons.injEq, Value.int.injEq, true_and]
    exact and_congr_left fun _ => eq_comm
  | [], x :: _, _, _, h, _ => by simp [keyInts] at h
  | [], [], y :: _, _, _, h => by simp [keyInts] at h
  | f :: _, [], _, _, h, _ => by simp [keyInts] at h
  | f :: _, x :: _, [], _, _, h => by simp [keyInts] at h
  | f :: _, .int .. :: _, .bool _ :: _, _, _, h | f :: _, .int .. :: _, .str _ :: _, _, _, h | f :: _, .int .. :: _, .ptr _ :: _, _, _, h | f :: _, .int .. :: _, .slice _ :: _, _, _, h | f :: _, .int .. :: _, .map _ :: _, _, _, h
  | f :: _, .int .. :: _, .one _ :: _, _, _, h | f :: _, .int .. :: _, .bytes .. :: _, _, _, h | f :: _, .int .. :: _, .words .. :: _, _, _, h | f :: _, .int .. :: _, .agg _ :: _, _, _, h | f :: _, .int .. :: _, .tup _ :: _, _, _, h
  | f :: _, .int .. :: _, .fn .. :: _, _, _, h => by simp [keyInts] at h
  | f :: _, .bool _ :: _, _ :: _, _, h, _ | f :: _, .str _ :: _, _ :: _, _, h, _ | f :: _, .ptr _ :: _, _ :: _, _, h, _ | f :: _, .slice _ :: _, _ :: _, _, h, _ | f :: _, .map _ :: _, _ :: _, _, h, _
  | f :: _, .one _ :: _, _ :: _, _, h, _ | f :: _, .bytes .. :: _, _ :: _, _, h, _ | f :: _, .words .. :: _, _ :: _, _, h, _ | f :: _, .agg _ :: _, _ :: _, _, h, _ | f :: _, .tup _ :: _, _ :: _, _, h, _
  | f :: _, .fn .. :: _, _ :: _, _, h, _ => by simp [keyInts] at h

theorem keyEq_iff {d : TypeDesc} {a b : TV} (ha : keyLike C d a = true) (hb : keyLike C d b = true) : keyEq a b = true ↔ b.val = a.val := by
  cases d <;> cases a <;> simp [keyLike] at ha <;> cases b <;> simp [keyLike] at hb
  · subst ha; subst hb
    simp only [keyEq, decide_eq_true_eq, TV.val, Value.int.injEq, true_and]
    exact eq_comm
  · simp only [keyEq, decide_eq_true_eq, TV.val]
    rw [str_val_inj]
    exact eq_comm
  · obtain ⟨rfl, _⟩ := ha
    obtain ⟨rfl, _⟩ := hb
    simp only [keyEq, decide_eq_true_eq, val_bv]
    exact ⟨fun h => by unfold bv; rw [h], fun h => (bv_inj h).symm⟩
  · simp only [keyEq, TV.val, ints_cells _ _ _ _ ha hb, Value.agg.injEq]
    exact ⟨fun h => by rw [h], fun h => by simpa using h⟩

def entsOf (es : List (TV × TV × Nat)) : List MapEntry := es.map fun e => ({ key := e.1.val, val := e.2.1.val, born := e.2.2 } : MapEntry)

/-- What is needed to ask a key that is an array of bytes. -/
theorem arr_of (hC : C.Ok) {e : TypeId} (he : (C.ti e).d = some (.int .u8)) : C.P.underlying e = some (.int .u8) ∧ (∃ i, C.P.info? e = some i) ∧ C.P.cellsOf e = 1 := by
  have hue := hC.d he
  obtain ⟨i, hi, hsz, _⟩ := hC.info he
  have hl := Ctx.ti_lt (C := C) (t := e) (by simp [he])
  refine ⟨hue, ⟨i, hi⟩, ?_⟩
  rcases hC.size e hl with h1 | ⟨h1, _⟩
  · simp [he, isTup] at h1
  · have h2 : (C.ti e).sh = .int .u8 := by rw [hC.tab e hl]; simp [TI.of, shOf, hue]
    rw [h2] at h1
    have h3 : (C.ti e).size = C.P.cellsOf e := by rw [hC.tab e hl]; rfl
    rw [← h3, ← h1]; rfl

theorem isU8_iff {o : Option TypeDesc} (h : isU8 o = true) : o = some (.int .u8) := by
  unfold isU8 at h
  split at h
  · rfl
  · cases h

/-- Where a key is found. -/
theorem find_now {d : TypeDesc} {k : TV} (hn : wide d = false) (hk : keyLike C d k = true) : ∀ (es : List (TV × TV × Nat)) (i : Nat), AllLike C d es →
    (Instr.findNow d k.val (entsOf es) i = some none ∧ findE k es = none ∧ (∀ v c, putE k v c es = es ++ [(k, v, c)]) ∧ dropE k es = es) ∨
    ∃ (j : Nat) (e : TV × TV × Nat), Instr.findNow d k.val (entsOf es) i = some (some (i + j, e.2.1.val)) ∧ es[j]? = some e ∧ e.1.val = k.val ∧ findE k es = some e.2.1 ∧ (∀ v c, putE k v c es = es.set j (e.1, v, e.2.2)) ∧ dropE k es = es.eraseIdx j
  | [], i, _ => .inl ⟨rfl, rfl, fun _ _ => rfl, rfl⟩
  | e :: es, i, h => by
    have he := h e (List.mem_cons_self ..)
    have hes : AllLike C d es := fun x hx => h x (List.mem_cons_of_mem _ hx)
    have hiff := keyEq_iff hk he
    obtain ⟨r, hr, hri⟩ := MapKept.sameNow_of_keys (keyLike_isKey hn hk) (keyLike_isKey hn he)
    have hent : entsOf (e :: es) = { key := e.1.val, val := e.2.1.val, born := e.2.2 } :: entsOf es := rfl
    by_cases hq : keyEq k e.1 = true
    · right
      have hv := hiff.1 hq
      have hr1 : r = true := hri.2 hv.symm
      refine ⟨0, e, ?_, rfl, hv, ?_, fun v c => ?_, ?_⟩
      · rw [hent]; simp [Instr.findNow, hr, hr1]
      · simp [findE, hq]
      · simp [putE, hq]
      · simp [dropE, hq]
    · have hr0 : r = false := by
        cases r with
        | false => rfl
        | true => exact absurd (hiff.2 (hri.1 rfl).symm) hq
      rcases find_now hn hk es (i + 1) hes with ⟨h1, h2, h3, h4⟩ | ⟨j, e', h1, h2, h3, h4, h5, h6⟩
      · left
        refine ⟨by rw [hent]; simp [Instr.findNow, hr, hr0, h1], by simp [findE, hq, h2], fun v c => by simp [putE, hq, h3], by simp [dropE, hq, h4]⟩
      · right
        refine ⟨j + 1, e', by rw [hent]; simp [Instr.findNow, hr, hr0, h1]; omega, by simpa using h2, h3, by simp [findE, hq, h4], fun v c => by simp [putE, hq, h5], by simp [dropE, hq, h6]⟩


/-- Keys that are asked one by one. -/
theorem find_ask {kt : TypeId} {d : TypeDesc} {k : TV} (hk : keyLike C d k = true) (w : World) (heq : ∀ y : TV, keyLike C d y = true → (Op.equal kt k.val y.val).run C.P w = .ok (keyEq k y) w) : ∀ (es : List (TV × TV × Nat)) (i : Nat), AllLike C d es →
    ((Instr.findAsking kt k.val (entsOf es) i).run C.P w = .ok none w ∧ findE k es = none ∧ (∀ v c, putE k v c es = es ++ [(k, v, c)]) ∧ dropE k es = es) ∨
    ∃ (j : Nat) (e : TV × TV × Nat), (Instr.findAsking kt k.val (entsOf es) i).run C.P w = .ok (some (i + j, e.2.1.val)) w ∧ es[j]? = some e ∧ e.1.val = k.val ∧ findE k es = some e.2.1 ∧ (∀ v c, putE k v c es = es.set j (e.1, v, e.2.2)) ∧ dropE k es = es.eraseIdx j
  | [], i, _ => .inl ⟨by simp [entsOf, Instr.findAsking], rfl, fun _ _ => rfl, rfl⟩
  | x :: es, i, h => by
    have hx := h x (List.mem_cons_self ..)
    have hes : AllLike C d es := fun y hy => h y (List.mem_cons_of_mem _ hy)
    have hent : entsOf (x :: es) = { key := x.1.val, val := x.2.1.val, born := x.2.2 } :: entsOf es := rfl
    have hst : (Instr.findAsking kt k.val (entsOf (x :: es)) i).run C.P w = if keyEq k x.1 = true then .ok (some (i, x.2.1.val)) w else (Instr.findAsking kt k.val (entsOf es) (i + 1)).run C.P w := by
      rw [hent]
      conv => lhs; unfold Instr.findAsking
      simp only [Sem.run_bind, heq x.1 hx, Result.andThen_ok]
      cases keyEq k x.1 <;> simp
    by_cases hq : keyEq k x.1 = true
    · rw [if_pos hq] at hst
      right
      refine ⟨0, x, hst, rfl, (keyEq_iff hk hx).1 hq, by simp [findE, hq], fun v c => by simp [putE, hq], by simp [dropE, hq]⟩
    · rw [if_neg hq] at hst
      rw [hst]
      rcases find_ask hk w heq es (i + 1) hes with ⟨h1, h2, h3, h4⟩ | ⟨j, y, h1, h2, h3, h4, h5, h6⟩
      · left
        exact ⟨h1, by simp [findE, hq, h2], fun v c => by simp [putE, hq, h3], by simp [dropE, hq, h4]⟩
      · right
        refine ⟨j + 1, y, by rw [h1]; congr 3; omega, by simpa using h2, h3, by simp [findE, hq, h4], fun v c => by simp [putE, hq, h5], by simp [dropE, hq, h6]⟩

theorem key_int : ∀ (fs : List Field) (xs : List TV) (o : Nat), keyInts C fs xs o = true → ∀ (j : Nat) (fd : Field) (x : TV), fs[j]? = some fd → xs[j]? = some x → fd.name ≠ "_" ∧ fd.offset = o + j ∧ ∃ k n, x = .int k n ∧ (C.ti fd.type).d = some (.int k)
  | f :: fs, .int k n :: xs, o, h, 0, fd, x, h1, h2 => by
    simp only [keyInts, Bool.and_eq_true] at h
    cases h1; cases h2
    refine ⟨by simpa using h.1.1.1, by simpa using Nat.eq_of_beq_eq_true h.1.1.2, k, n, rfl, ?_⟩
    have e := h.1.2
    cases hd : (C.ti f.type).d with
    | none => rw [hd] at e; cases e
    | some d =>
      rw [hd] at e
      cases d <;> simp [isInt] at e
      rw [e]
  | f :: fs, .int k n :: xs, o, h, j + 1, fd, x, h1, h2 => by
    simp only [keyInts, Bool.and_eq_true] at h
    obtain ⟨a, b, c⟩ := key_int fs xs (o + 1) h.2 j fd x (by simpa using h1) (by simpa using h2)
    exact ⟨a, by omega, c⟩
  | [], _, _, _, j, fd, x, h1, _ => by simp at h1
  | f :: _, [], _, h, _, _, _, _, h2 => by simp at h2
  | f :: _, .bool _ :: _, _, h, _, _, _, _, _ | f :: _, .str _ :: _, _, h, _, _, _, _, _ | f :: _, .ptr _ :: _, _, h, _, _, _, _, _ | f :: _, .slice _ :: _, _, h, _, _, _, _, _ | f :: _, .map _ :: _, _, h, _, _, _, _, _
  | f :: _, .one _ :: _, _, h, _, _, _, _, _ | f :: _, .bytes .. :: _, _, h, _, _, _, _, _ | f :: _, .words .. :: _, _, h, _, _, _, _, _ | f :: _, .agg _ :: _, _, h, _, _, _, _, _ | f :: _, .tup _ :: _, _, h, _, _, _, _, _
  | f :: _, .fn .. :: _, _, h, _, _, _, _, _ => by simp [keyInts] at h

theorem key_len : ∀ (fs : List Field) (xs : List TV) (o : Nat), keyInts C fs xs o = true → fs.length = xs.length ∧ ∀ x ∈ xs, ∃ k n, x = .int k n
  | [], [], _, _ => ⟨rfl, fun x hx => by cases hx⟩
  | f :: fs, .int k n :: xs, o, h => by
    simp only [keyInts, Bool.and_eq_true] at h
    obtain ⟨a, b⟩ := key_len fs xs (o + 1) h.2
    exact ⟨by simp [a], fun x hx => by rcases List.mem_cons.1 hx with rfl | hx; exact ⟨k, n, rfl⟩; exact b x hx⟩
  | [], x :: _, _, h => by simp [keyInts] at h
  | f :: _, [], _, h => by simp [keyInts] at h
  | f :: _, .bool _ :: _, _, h | f :: _, .str _ :: _, _, h | f :: _, .ptr _ :: _, _, h | f :: _, .slice _ :: _, _, h | f :: _, .map _ :: _, _, h
  | f :: _, .one _ :: _, _, h | f :: _, .bytes .. :: _, _, h | f :: _, .words .. :: _, _, h | f :: _, .agg _ :: _, _, h | f :: _, .tup _ :: _, _, h
  | f :: _, .fn .. :: _, _, h => by simp [keyInts] at h

theorem cells_ints : ∀ (xs : List TV), (∀ x ∈ xs, ∃ k n, x = TV.int k n) → TVs.cells xs = xs.map TV.val
  | [], _ => rfl
  | x :: xs, h => by
    obtain ⟨k, n, rfl⟩ := h x (List.mem_cons_self ..)
    simp only [TVs.cells, TV.cells, List.map_cons, TV.val, List.cons_append, List.nil_append, cells_ints xs fun y hy => h y (List.mem_cons_of_mem _ hy)]

theorem part_key (hC : C.Ok) {fs : List Field} {xs : List TV} (h : keyInts C fs xs 0 = true) {j : Nat} {fd : Field} {x : TV} (h1 : fs[j]? = some fd) (h2 : xs[j]? = some x) (w : World) : (part fd.type (TVs.cells xs).toArray fd.offset).run C.P w = .ok x.val w := by
  obtain ⟨_, ho, k, n, rfl, hd⟩ := key_int fs xs 0 h j fd x h1 h2
  unfold part
  simp only [Sem.run_bind, isAgg_run (hC.d hd), Result.andThen_ok, isAggD]
  rw [cells_ints xs (key_len fs xs 0 h).2, ho, Nat.zero_add]
  simp [h2]

theorem eqAgg_key : ∀ (fs : List Field) (xs ys : List TV) (o : Nat), keyInts C fs xs o = true → keyInts C fs ys o = true → eqAgg C fs xs ys = some (intsEq xs ys)
  | [], [], [], _, _, _ => rfl
  | f :: fs, x :: xs, y :: ys, o, h1, h2 => by
    obtain ⟨hn, _, k, a, rfl, hd⟩ := key_int _ _ _ h1 0 f x rfl rfl
    obtain ⟨_, _, k', b, rfl, hd'⟩ := key_int _ _ _ h2 0 f y rfl rfl
    obtain rfl : k = k' := by rw [hd] at hd'; injection hd' with h; injection h
    simp only [keyInts, Bool.and_eq_true] at h1 h2
    have ih := eqAgg_key fs xs ys (o + 1) h1.2 h2.2
    have hn' : (f.name == "_") = false := by simpa using hn
    simp only [eqAgg, hn', eqLeaf, hd, beq_self_eq_true, ih, andO, intsEq]
  | [], x :: _, _, _, h, _ => by simp [keyInts] at h
  | [], [], y :: _, _, _, h => by simp [keyInts] at h
  | f :: _, [], _, _, h, _ => by simp [keyInts] at h
  | f :: _, x :: _, [], _, _, h => by simp [keyInts] at h

/-- How keys of arrays and structs answer to a question. -/
theorem ask_eq (hC : C.Ok) {kt : TypeId} {d : TypeDesc} {k : TV} (hd : (C.ti kt).d = some d) (hw : wide d = true) (hk : keyLike C d k = true) (hp : keyPlain C kt d = true) (w : World) (y : TV) (hy : keyLike C d y = true) :
    (Op.equal kt k.val y.val).run C.P w = .ok (keyEq k y) w := by
  cases d <;> simp [wide] at hw <;> cases k <;> simp [keyLike] at hk <;> cases y <;> simp [keyLike] at hy
  · obtain ⟨rfl, he⟩ := hk
    obtain ⟨rfl, _⟩ := hy
    obtain ⟨hue, ⟨i, hi⟩, hc⟩ := arr_of hC (isU8_iff he)
    rw [val_bv, val_bv]
    exact equal_bytes (hC.d hd) hue hi hc _ _ w
  · rename_i fs xs ys
    have hlt := Ctx.ti_lt (C := C) (t := kt) (by simp [hd])
    have hh : C.P.stoodInHeld kt = false := by
      have h9 : (C.ti kt).held = false := by simpa [keyPlain] using hp
      rw [← h9, hC.tab kt hlt]; rfl
    have hu := hC.d hd
    have hfs : C.P.fieldsOf kt = fs := by unfold Program.fieldsOf; rw [hu]
    simp only [TV.val, keyEq]
    unfold Op.equal Op.maxDepth
    rw [run_equalIn_struct w 9999 kt _ _ (by rw [hfs]; exact hu) hh, hfs]
    exact eqAgg_sound hC 9997 w _ _ fs.toList xs ys _ (eqAgg_key _ _ _ 0 hk hy) (fun j fd x hj hx => part_key hC hk hj hx w) (fun j fd y hj hx => part_key hC hy hj hx w)

/-- Where a key is found, whatever it is. -/
theorem find_run (hC : C.Ok) {kt : TypeId} {d : TypeDesc} {k : TV} (hd : (C.ti kt).d = some d) (hk0 : (keyLike C d k && keyPlain C kt d) = true) (es : List (TV × TV × Nat)) (hl : AllLike C d es) (w : World) :
    ((Instr.findKey kt k.val (entsOf es)).run C.P w = .ok none w ∧ findE k es = none ∧ (∀ v c, putE k v c es = es ++ [(k, v, c)]) ∧ dropE k es = es) ∨
    ∃ (j : Nat) (e : TV × TV × Nat), (Instr.findKey kt k.val (entsOf es)).run C.P w = .ok (some (j, e.2.1.val)) w ∧ es[j]? = some e ∧ e.1.val = k.val ∧ findE k es = some e.2.1 ∧ (∀ v c, putE k v c es = es.set j (e.1, v, e.2.2)) ∧ dropE k es = es.eraseIdx j := by
  have hu := hC.d hd
  rw [Bool.and_eq_true] at hk0
  obtain ⟨hk, hp⟩ := hk0
  cases hw : wide d with
  | true =>
    rw [run_findKey_eq w (by rw [hu]; cases d <;> first | rfl | cases hw)]
    rcases find_ask hk w (fun y hy => ask_eq hC hd hw hk hp w y hy) es 0 hl with h1 | ⟨j, y, h1, h2⟩
    · exact .inl h1
    · rw [Nat.zero_add] at h1
      exact .inr ⟨j, y, h1, h2⟩
  | false =>
    rcases find_now hw hk es 0 hl with ⟨h1, h2⟩ | ⟨j, y, h1, h2⟩
    · exact .inl ⟨MapKept.run_findKey hu h1, h2⟩
    · rw [Nat.zero_add] at h1
      exact .inr ⟨j, y, MapKept.run_findKey hu h1, h2⟩

theorem check_key (hC : C.Ok) {kt : TypeId} {fs : Array Field} {xs : List TV} (hu : C.P.underlying kt = some (.struct fs)) (hk : keyInts C fs.toList xs 0 = true) (em : Bool) (m : Nat) (w : World) : (Instr.checkKey em (m + 2) kt (TV.agg xs).val).run C.P w = .ok () w := by
  rw [show m + 2 = (m + 1) + 1 from rfl, Instr.checkKey]
  simp only [TV.val, Sem.run_bind, run_underlying hu, Result.andThen_ok]
  rw [← Array.forIn_toList]
  obtain ⟨l, hl⟩ : ∃ l, l = fs.toList := ⟨_, rfl⟩
  have each : ∀ fd ∈ l, ∃ (j : Nat) (x : TV), fs.toList[j]? = some fd ∧ xs[j]? = some x := fun fd hf => by
    rw [hl] at hf
    obtain ⟨j, hj⟩ := List.getElem?_of_mem hf
    have hlen := (key_len _ _ _ hk).1
    have hjl := (List.getElem?_eq_some_iff.1 hj).1
    exact ⟨j, xs[j]'(by omega), hj, List.getElem?_eq_getElem (by omega)⟩
  rw [← hl]
  clear hl
  induction l with
  | nil => simp
  | cons f l ih =>
    obtain ⟨j, x, h1, h2⟩ := each f (List.mem_cons_self ..)
    obtain ⟨hn, _, k, n, rfl, hdk⟩ := key_int _ _ _ hk j f x h1 h2
    have hck : (Instr.checkKey em (m + 1) f.type (TV.int k n).val).run C.P w = .ok () w := by
      simp [Instr.checkKey, run_underlying (hC.d hdk), TV.val]
    have ih := ih fun fd hf => each fd (List.mem_cons_of_mem _ hf)
    simp only [List.forIn_cons, Sem.run_bind, hn, ne_eq, not_false_eq_true, if_true, part_key hC hk h1 h2 w, Result.andThen_ok, hck, Sem.run_pure]
    exact ih

theorem check_run (hC : C.Ok) {kt : TypeId} {d : TypeDesc} {k : TV} (hd : (C.ti kt).d = some d) (hk0 : (keyLike C d k && keyPlain C kt d) = true) (em : Bool) (w : World) : (Instr.checkKey em 10000 kt k.val).run C.P w = .ok () w := by
  have hu := hC.d hd
  rw [Bool.and_eq_true] at hk0
  obtain ⟨hk, hp⟩ := hk0
  cases hw : wide d with
  | false => exact MapKept.run_checkKey hu (keyLike_isKey hw hk) em 9999
  | true =>
    cases d <;> simp [wide] at hw <;> cases k <;> simp [keyLike] at hk
    · obtain ⟨rfl, he⟩ := hk
      obtain ⟨hue, ⟨inf, hi⟩, hc⟩ := arr_of hC (isU8_iff he)
      rw [val_bv]
      exact check_bytes hu hue hi hc _ em 9998 w
    · exact check_key hC hu hk em 9998 w

theorem stays_run {d : TypeDesc} {k : TV} {b : Bool} (hk0 : (keyLike C d k && b) = true) (w : World) : (Instr.keyThatStays k.val k.val).run P w = .ok k.val w := by
  rw [Bool.and_eq_true] at hk0
  have hk := hk0.1
  cases hw : wide d with
  | false => exact MapKept.run_keyThatStays (keyLike_isKey hw hk)
  | true =>
    cases d <;> simp [wide] at hw <;> cases k <;> simp [keyLike] at hk
    · obtain ⟨rfl, _⟩ := hk
      rw [val_bv]
      exact stays_bytes _ w
    · rename_i fs xs
      have hb : Instr.sameBits 10000 (TV.agg xs).val (TV.agg xs).val = true := by
        have hx := (key_len _ _ _ hk).2
        rw [show (10000 : Nat) = 9999 + 1 from rfl]
        simp only [TV.val, Instr.sameBits, cells_ints xs hx, beq_self_eq_true, Bool.true_and, List.all_eq_true]
        intro p hp
        have : ∀ (l : List TV), (∀ x ∈ l, ∃ k n, x = TV.int k n) → ∀ q ∈ (l.map TV.val).zip (l.map TV.val), Instr.sameBits 9999 q.1 q.2 = true := by
          intro l
          induction l with
          | nil => intro _ q hq; simp at hq
          | cons v l ih =>
            intro hv q hq
            rw [List.map_cons, List.zip_cons_cons] at hq
            rcases List.mem_cons.1 hq with rfl | hq
            · obtain ⟨k, z, hz⟩ := hv v (List.mem_cons_self ..)
              rw [hz]
              simp [Instr.sameBits, TV.val]
            · exact ih (fun u hu => hv u (List.mem_cons_of_mem _ hu)) q hq
        exact this xs hx p hp
      unfold Instr.keyThatStays
      rw [hb]
      rfl

theorem run_findE (hC : C.Ok) {w : World} {kt : TypeId} {d : TypeDesc} {k : TV} {es : List (TV × TV × Nat)} (hd : (C.ti kt).d = some d) (hk : (keyLike C d k && keyPlain C kt d) = true) (hl : AllLike C d es) :
    ∃ a, (Instr.findKey kt k.val (entsOf es)).run C.P w = .ok a w ∧ a.map (·.2) = (findE k es).map TV.val := by
  rcases find_run hC hd hk es hl w with ⟨h1, h2, _⟩ | ⟨j, e, h1, _, _, h4, _⟩
  · exact ⟨_, h1, by rw [h2]; rfl⟩
  · exact ⟨_, h1, by rw [h4]; rfl⟩

theorem run_zero (hC : C.Ok) {t : TypeId} (h : notTuple (C.ti t).d = true) (w : World) : (zeroValue t).run C.P w = .ok (C.ti t).z.val w := by
  obtain ⟨hs, ht⟩ : (C.ti t).d.isSome = true ∧ isTup (C.ti t).d = false := by
    cases hd : (C.ti t).d with
    | none => rw [hd] at h; cases h
    | some d => rw [hd] at h; cases d <;> first | exact ⟨rfl, rfl⟩ | cases h
  obtain ⟨i, hi, hz⟩ := hC.zero t (Ctx.ti_lt hs) hs
  have hz : i.zero = some (C.ti t).z.val := by
    rcases hz with h1 | h1
    · rw [ht] at h1; cases h1
    · exact h1
  simp [zeroValue, typeInfo, hi, hz]

/-- Reading a map, in whatever world where it stands. -/
theorem vcLookup_sound (hC : C.Ok) {t : TypeId} {m k : Option TV} {M X : Value} {ok : Bool} (hv : vcLookup C t m k ok h K) (hm : Rel m M) (hk : Rel k X) :
    ∃ r v, K r ∧ Rel r v ∧ ∀ w : World, (∀ (b : Nat) (es : List (TV × TV × Nat)) (c : Nat), h[b]? = some (mapO es c) → w.heap[b]? = some (mapO es c)) → (Instr.lookup t M X ok).run C.P w = .ok v w := by
  unfold vcLookup at hv
  split at hv
  · rename_i kt et p kv hd
    obtain rfl := hm _ rfl
    obtain rfl := hk _ rfl
    split at hv
    · rename_i d hkd hn
      split at hv
      · rename_i hlike
        obtain ⟨es, hl, hx, hst⟩ : ∃ es, AllLike C d es ∧ (Ex (C.ti et).sh fun tv => orE (findE kv es) (C.ti et).z = tv ∧ K (some (lookRes ok tv (hasE kv es)))) ∧ ((p = none ∧ es = []) ∨ ∃ b c, p = some b ∧ h[b]? = some (mapO es c)) := by
          cases p with
          | none => exact ⟨[], hv.1, hv.2, .inl ⟨rfl, rfl⟩⟩
          | some b =>
            obtain ⟨es, c, hb, hl, hx⟩ := hv
            exact ⟨es, hl, hx, .inr ⟨b, c, rfl, hb⟩⟩
        obtain ⟨tv, _, he, hK⟩ := ex_iff _ _ hx
        unfold orE at he
        unfold hasE at hK
        refine ⟨_, (lookRes ok tv (findE kv es).isSome).val, hK, .some rfl, fun w hw => ?_⟩
        obtain ⟨a, ha, hav⟩ := run_findE hC (w := w) hkd hlike hl
        have hck := fun e => check_run hC hkd hlike e w
        have hrest : ∀ (M : Value), (∀ es', es' = (entsOf es).toArray → M = .map none ∧ es' = #[] ∨ ∃ b c, M = .map (some b) ∧ w.heap[b]? = some (.map es' c)) → (Instr.lookup t M kv.val ok).run C.P w = .ok (lookRes ok tv (findE kv es).isSome).val w := by
          intro M hM
          unfold Instr.lookup
          rcases hM _ rfl with ⟨rfl, h0⟩ | ⟨b, c, rfl, hb⟩
          · have h00 : entsOf es = [] := by simpa using h0
            rw [h00] at ha
            cases a with
            | none =>
              have hf : findE kv es = none := by
                cases hf : findE kv es with
                | none => rfl
                | some x => rw [hf] at hav; cases hav
              rw [hf] at he ⊢
              simp only [Option.getD_none] at he
              subst he
              cases ok <;> simp [run_underlying (hC.d hd), hck, ha, run_zero hC hn, lookRes, TV.val, TVs.vals]
            | some a =>
              have he0 : es = [] := by simpa [entsOf] using h00
              rw [he0] at hav
              cases hav
          · cases a with
            | none =>
              have hf : findE kv es = none := by
                cases hf : findE kv es with
                | none => rfl
                | some x => rw [hf] at hav; cases hav
              rw [hf] at he ⊢
              simp only [Option.getD_none] at he
              subst he
              cases ok <;> simp [run_underlying (hC.d hd), MapKept.run_getObj_map hb, hck, ha, run_zero hC hn, lookRes, TV.val, TVs.vals]
            | some a =>
              obtain ⟨x, hx, hxv⟩ : ∃ x, findE kv es = some x ∧ a.2 = x.val := by
                cases hf : findE kv es with
                | none => rw [hf] at hav; cases hav
                | some x => rw [hf] at hav; exact ⟨x, rfl, by simpa using hav⟩
              rw [hx] at he ⊢
              simp only [Option.getD_some] at he
              subst he
              obtain ⟨a1, a2⟩ := a
              simp only at hxv
              subst hxv
              cases ok <;> simp [run_underlying (hC.d hd), MapKept.run_getObj_map hb, hck, ha, lookRes, TV.val, TVs.vals]
        refine hrest _ fun es' hes => ?_
        rcases hst with ⟨rfl, rfl⟩ | ⟨b, c, rfl, hb⟩
        · left
          exact ⟨rfl, hes⟩
        · right
          refine ⟨b, c, rfl, ?_⟩
          rw [hes]
          exact hw b _ _ hb
      · exact hv.elim
    · exact hv.elim
  · exact hv.elim

theorem vcMapLen_sound (hC : C.Ok) {ts : Array TypeId} {ty : TypeId} {p : Option Nat} (hv : vcMapLen C ts.toList p h K) :
    ∃ r v, K r ∧ Rel r v ∧ ∀ (cs : Array Bool) (w : World), (∀ (b : Nat) (es : List (TV × TV × Nat)) (c : Nat), h[b]? = some (mapO es c) → w.heap[b]? = some (mapO es c)) → (builtin .len ts ty cs #[(TV.map p).val]).run C.P w = .ok (.value v) w := by
  obtain ⟨ts⟩ := ts
  change vcMapLen C ts p h K at hv
  unfold vcMapLen at hv
  split at hv
  · split at hv
    · rename_i hd
      cases p with
      | none =>
        refine ⟨_, _, hv, .some rfl, fun _ w _ => ?_⟩
        unfold builtin Builtin.len_
        simp [run_underlying (hC.d hd), TV.val, goInt]
      | some b =>
        obtain ⟨es, c, hb, hv⟩ := hv
        refine ⟨_, _, hv, .some rfl, fun _ w hw => ?_⟩
        have hb' := hw b _ _ hb
        unfold mapO at hb'
        unfold builtin Builtin.len_
        simp [run_underlying (hC.d hd), TV.val, goInt, MapKept.run_getObj_map hb']
    · exact hv.elim
  · exact hv.elim

theorem vcPack_sound (hC : C.Ok) {t : TypeId} {x : Option TV} {X : Value} (hv : vcPack C t x K) (hx : Rel x X) : ∃ r v, K r ∧ Rel r v ∧ GivesA C.P (Instr.makeInterface t X) v := by
  unfold vcPack at hv
  split at hv
  · exact hv.elim
  · rename_i d tv hni hd
    obtain rfl := hx _ rfl
    refine ⟨_, _, hv, .some rfl, fun w => ?_⟩
    unfold Instr.makeInterface
    simp only [Sem.run_bind, run_underlying (hC.d hd), Result.andThen_ok]
    cases d <;> first | exact absurd hd (hni _) | rfl
  · exact hv.elim

theorem vcUnpack_sound (hC : C.Ok) {t s : TypeId} {x : Option TV} {X : Value} {ok : Bool} (hv : vcUnpack C x t ok K) (hx : Rel x X) : ∃ r v, K r ∧ Rel r v ∧ GivesA C.P (Instr.typeAssert X s t ok) v := by
  unfold vcUnpack at hv
  split at hv
  · exact hv.elim
  · rename_i d o hni hd
    obtain rfl := hx _ rfl
    obtain ⟨tv, _, ho, hk⟩ := ex_iff _ _ hv
    refine ⟨_, (match ok with | true => TV.tup [tv, .bool true] | false => tv).val, hk, ?_, fun w => ?_⟩
    · cases ok <;> exact .some rfl
    · have hov : (TV.one o).val = .iface t tv.val := ho
      unfold Instr.typeAssert
      rw [hov]
      simp only [Sem.run_bind, run_underlying (hC.d hd), Result.andThen_ok]
      cases d <;> first | exact absurd hd (hni _) | (cases ok <;> simp [TV.val, TVs.vals])
  · exact hv.elim

theorem vcExtract_sound {t : TypeId} {x : TV} (hv : vcExtract C t x K) : ∃ r, K r ∧ Rel r x.val := by
  unfold vcExtract at hv
  split at hv
  · rename_i a
    split at hv
    · exact ⟨_, hv, .some rfl⟩
    · obtain ⟨tv, _, h1, h2⟩ := ex_iff _ _ hv
      exact ⟨_, h2, .some h1.symm⟩
  · rename_i a
    obtain ⟨tv, _, h1, h2⟩ := ex_iff _ _ hv
    exact ⟨_, h2, .some h1.symm⟩
  · exact ⟨_, hv, .some rfl⟩

theorem relParts_map {env : Env} {a : Act} (he : EnvOk env a) : ∀ l : List (Nat × Operand), RelParts (l.map fun p => (p.1, env.ev p.2)) (l.map fun p => (p.1, a.eval p.2))
  | [] => trivial
  | p :: l => ⟨rfl, he.rel p.2, relParts_map he l⟩

theorem vcCallR_sound (hC : C.Ok) {b : Builtin} {ts : Array TypeId} {ty : TypeId} {xs : List (Option TV)} {vs : Array Value}
    (hv : match b, xs with | .len, [some (.map p)] => vcMapLen C ts.toList p h K | _, _ => vcBuiltinR C b ts.toList xs K) (hr : RelL xs vs.toList) :
    ∃ r v, K r ∧ Rel r v ∧ ∀ (cs : Array Bool) (w : World), (∀ (b : Nat) (es : List (TV × TV × Nat)) (c : Nat), h[b]? = some (mapO es c) → w.heap[b]? = some (mapO es c)) → (builtin b ts ty cs vs).run C.P w = .ok (.value v) w := by
  split at hv
  · rename_i p
    obtain ⟨v, rfl⟩ : ∃ v, vs = #[v] := by
      obtain ⟨vs⟩ := vs
      cases vs with
      | nil => exact hr.elim
      | cons v vs => cases vs with
        | nil => exact ⟨v, rfl⟩
        | cons _ _ => exact hr.2.elim
    obtain rfl := hr.1 _ rfl
    exact vcMapLen_sound hC hv
  · obtain ⟨r, v, h1, h2, h3⟩ := vcBuiltinR_sound hC (ty := ty) (vs := vs) hv hr
    exact ⟨r, v, h1, h2, fun cs w _ => h3 cs w⟩

theorem relO_map {env : Env} {a : Act} (he : EnvOk env a) : ∀ l : Option Operand, RelO (l.map env.ev) (l.map a.eval)
  | none => trivial
  | some x => he.rel x

/-- What comes of an operation that leaves the world alone. -/
def GivesOp (P : Program) (o : Oper) (a : Act) (h : Heap) (v : Value) : Prop := ∀ w : World, w.heap = h → (execOp a.eval o).run P w = .ok (.value v) w

def isLoad : Op → Bool
  | .load _ _ => true
  | .convert _ _ _ => true
  | .lookup _ _ _ _ => true
  | .call _ => true
  | _ => false

/-- The same, in whatever world where the operation is no load. -/
def GivesOpA (P : Program) (o : Oper) (a : Act) (h : Heap) (v : Value) : Prop := GivesOp P o a h v ∧ (isLoad o.op = false → ∀ w : World, (execOp a.eval o).run P w = .ok (.value v) w)

theorem givesOp_load {o : Oper} {a : Act} {s : Sem Value} {v : Value} (hl : isLoad o.op = true) (hg : Gives P s h v) (he : execOp a.eval o = (do pure (.value (← s)))) : GivesOpA P o a h v := by
  refine ⟨fun w hw => ?_, fun h0 => by rw [hl] at h0; cases h0⟩
  rw [he]
  simp [hg w hw]

theorem givesOp_of {o : Oper} {a : Act} {s : Sem Value} {v : Value} (hg : GivesA P s v) (he : execOp a.eval o = (do pure (.value (← s)))) : GivesOpA P o a h v := by
  have : ∀ w : World, (execOp a.eval o).run P w = .ok (.value v) w := fun w => by
    rw [he]
    simp [hg w]
  exact ⟨fun w _ => this w, fun _ => this⟩

theorem givesOp_all {o : Oper} {a : Act} {v : Value} (hg : ∀ w : World, (execOp a.eval o).run P w = .ok (.value v) w) : GivesOpA P o a h v := ⟨fun w _ => hg w, fun _ => hg⟩

theorem vcR_sound (hC : C.Ok) {o : Oper} {env : Env} {a : Act} (hv : vcR C o env.ev h K) (he : EnvOk env a) : ∃ r v, K r ∧ Rel r v ∧ GivesOpA C.P o a h v := by
  unfold vcR at hv
  split at hv
  · rename_i x ho
    exact ⟨_, _, hv, he.rel x, givesOp_all fun w => by simp [execOp, ho]⟩
  · rename_i x ho
    exact ⟨_, _, hv, he.rel x, givesOp_all fun w => by simp [execOp, ho]⟩
  · rename_i c x y ho
    split at hv
    · rename_i hc
      refine ⟨_, _, hv, he.rel x, givesOp_all fun w => ?_⟩
      have := he.known hc
      simp [execOp, ho, this, TV.val, asBool]
    · rename_i hc
      refine ⟨_, _, hv, he.rel y, givesOp_all fun w => ?_⟩
      have := he.known hc
      simp [execOp, ho, this, TV.val, asBool]
    · exact hv.elim
  · rename_i t parts ho
    obtain ⟨r, v, h1, h2, h3⟩ := vcBuild_sound hC (parts := parts.map fun p => (p.1, a.eval p.2)) hv (by simpa using relParts_map he parts.toList)
    exact ⟨r, v, h1, h2, givesOp_of h3 (by simp [execOp, ho])⟩
  · rename_i t x ho
    split at hv
    · rename_i p hx
      obtain ⟨l, rfl, hv⟩ := elim_some hv
      obtain ⟨r, v, h1, h2, h3⟩ := vcLoad_sound hC hv
      refine ⟨r, v, h1, h2, givesOp_load (by rw [ho]; rfl) h3 ?_⟩
      have := he.known hx
      simp [execOp, ho, this, TV.val]
    · exact hv.elim
  · rename_i x ho
    split at hv
    · rename_i p hx
      obtain ⟨l, rfl, hv⟩ := elim_some hv
      refine ⟨_, _, hv, .some rfl, givesOp_all fun w => ?_⟩
      have := he.known hx
      simp [execOp, ho, this, TV.val]
    · rename_i g x1 x2 hx
      refine ⟨_, _, hv, .some rfl, givesOp_all fun w => ?_⟩
      have := he.known hx
      simp [execOp, ho, this, TV.val]
    · exact hv.elim
  · rename_i op t x y ty ho
    obtain ⟨r, v, h1, h2, h3⟩ := vcBinA_sound hC hv (he.rel x) (he.rel y) x y
    exact ⟨r, v, h1, h2, givesOp_of h3 (by simp [execOp, ho])⟩
  · rename_i op t x ho
    obtain ⟨r, v, h1, h2, h3⟩ := vcUn_sound (P := C.P) hv (he.rel x)
    exact ⟨r, v, h1, h2, givesOp_of h3 (by simp [execOp, ho])⟩
  · rename_i s d x ho
    obtain ⟨r, v, h1, h2, h3⟩ := vcConv_sound hC hv (he.rel x)
    exact ⟨r, v, h1, h2, givesOp_load (by rw [ho]; rfl) (fun w hw => h3 w (by rw [hw]; exact fun _ _ _ h => h)) (by simp [execOp, ho])⟩
  · rename_i t x f ho
    obtain ⟨r, v, h1, h2, h3⟩ := vcFieldAddr_sound hC hv (he.rel x)
    exact ⟨r, v, h1, h2, givesOp_of h3 (by simp [execOp, ho])⟩
  · rename_i t x f ho
    obtain ⟨r, v, h1, h2, h3⟩ := vcField_sound hC hv (he.rel x)
    exact ⟨r, v, h1, h2, givesOp_of h3 (by simp [execOp, ho])⟩
  · rename_i t x i ho
    obtain ⟨r, v, h1, h2, h3⟩ := vcIndexAddr_sound hC hv (he.rel x) (he.rel i)
    exact ⟨r, v, h1, h2, givesOp_of h3 (by simp [execOp, ho])⟩
  · rename_i t x i ho
    obtain ⟨r, v, h1, h2, h3⟩ := vcIndex_sound hC hv (he.rel x) (he.rel i)
    exact ⟨r, v, h1, h2, givesOp_of h3 (by simp [execOp, ho])⟩
  · rename_i x i ho
    split at hv
    · rename_i xs hx
      split at hv
      · rename_i v hi
        obtain ⟨r, hv, hr⟩ := vcExtract_sound hv
        refine ⟨_, _, hv, hr, givesOp_all fun w => ?_⟩
        have h1 := he.known hx
        have h2 : (TVs.vals xs)[i]? = some v.val := by
          exact vals_get xs i v hi
        simp [execOp, ho, h1, TV.val, Instr.extract, h2]
      · exact hv.elim
    · exact hv.elim
  · rename_i t m k ok ho
    obtain ⟨r, v, h1, h2, h3⟩ := vcLookup_sound hC hv (he.rel m) (he.rel k)
    exact ⟨r, v, h1, h2, givesOp_load (by rw [ho]; rfl) (fun w hw => h3 w (by rw [hw]; exact fun _ _ _ h => h)) (by simp [execOp, ho])⟩
  · rename_i t x ho
    obtain ⟨r, v, h1, h2, h3⟩ := vcPack_sound hC hv (he.rel x)
    exact ⟨r, v, h1, h2, givesOp_of h3 (by simp [execOp, ho])⟩
  · rename_i x s t ok ho
    obtain ⟨r, v, h1, h2, h3⟩ := vcUnpack_sound (s := s) hC hv (he.rel x)
    exact ⟨r, v, h1, h2, givesOp_of h3 (by simp [execOp, ho])⟩
  · rename_i t x lo hi ho
    obtain ⟨r, v, h1, h2, h3⟩ := vcSlice_sound hC hv (he.rel x) (relO_map he lo) (relO_map he hi)
    exact ⟨r, v, h1, h2, givesOp_of h3 (by simp [execOp, ho])⟩
  · rename_i t x lo hi m ho
    obtain ⟨r, v, h1, h2, h3⟩ := vcSlice3_sound hC hv (he.rel x) (relO_map he lo) (relO_map he hi) (he.rel m)
    exact ⟨r, v, h1, h2, givesOp_of h3 (by simp [execOp, ho])⟩
  · rename_i f first cap ho
    split at hv
    · rename_i xs ys h1 h2
      refine ⟨_, _, hv, .some rfl, givesOp_all fun w => ?_⟩
      have e1 := allKnown_vals _ _ _ h1 (he.relL first.toList)
      have e2 := allKnown_vals _ _ _ h2 (he.relL cap.toList)
      have e1' : first.map a.eval = (TVs.vals xs).toArray := by apply Array.toList_inj.1; simpa using e1
      have e2' : cap.map a.eval = (TVs.vals ys).toArray := by apply Array.toList_inj.1; simpa using e2
      simp [execOp, ho, Instr.makeFunc, e1', e2', TV.val]
    · exact hv.elim
  · rename_i c ho
    split at hv
    · rename_i b hb
      obtain ⟨r, v, h1, h2, h3⟩ := vcCallR_sound hC (ty := o.type) (vs := c.args.map a.eval) hv (by simpa using he.relL c.args.toList)
      refine ⟨r, v, h1, h2, fun w hw => ?_, fun hx => by rw [ho] at hx; cases hx⟩
      have := fun cs => h3 cs w (by rw [hw]; exact fun _ _ _ h => h)
      simp [execOp, ho, resolve, hb, invoke, this]
    · exact hv.elim
  · exact hv.elim

end
end Go.Vc
end

section
/- Conditions for the operations that make memory, write it, or call. -/
namespace Go.Vc
open Go

structure SameEnv (w w' : World) : Prop where
  os : w'.os = w.os
  tape : w'.tape = w.tape
  output : w'.output = w.output
  drawn : w.drawn ≤ w'.drawn

theorem SameEnv.refl (w : World) : SameEnv w w := ⟨rfl, rfl, rfl, Nat.le_refl _⟩
theorem SameEnv.trans {a b c : World} (h : SameEnv a b) (k : SameEnv b c) : SameEnv a c := ⟨k.os.trans h.os, k.tape.trans h.tape, k.output.trans h.output, Nat.le_trans h.drawn k.drawn⟩

/-- The same, of draws only where it is asked. -/
structure EnvS (s : Bool) (w w' : World) : Prop where
  os : w'.os = w.os
  tape : w'.tape = w.tape
  output : w'.output = w.output
  drawn : s = true → w.drawn ≤ w'.drawn

theorem EnvS.refl {s : Bool} (w : World) : EnvS s w w := ⟨rfl, rfl, rfl, fun _ => Nat.le_refl _⟩
theorem EnvS.trans {s : Bool} {a b c : World} (h : EnvS s a b) (k : EnvS s b c) : EnvS s a c := ⟨k.os.trans h.os, k.tape.trans h.tape, k.output.trans h.output, fun e => Nat.le_trans (h.drawn e) (k.drawn e)⟩
theorem SameEnv.toS {s : Bool} {w w' : World} (h : SameEnv w w') : EnvS s w w' := ⟨h.os, h.tape, h.output, fun _ => h.drawn⟩

/-- A call returns, and of what it hands back and of the heap behind it something holds. -/
def CallsX (s : Bool) (P : Program) (f : FuncId) (args : List Value) (h : Heap) (R : Value → Heap → Prop) : Prop :=
  ∀ w : World, w.heap = h → Calls P f args.toArray w fun e w' => EnvS s w w' ∧ ∃ v, e = .returned v ∧ R v w'.heap
def CallsH (P : Program) (f : FuncId) (args : List Value) (h : Heap) (R : Value → Heap → Prop) : Prop := CallsX false P f args h R
def CallsS (P : Program) (f : FuncId) (args : List Value) (h : Heap) (R : Value → Heap → Prop) : Prop := CallsX true P f args h R

theorem CallsX.mono {s : Bool} {P : Program} {f : FuncId} {args : List Value} {h : Heap} {R R' : Value → Heap → Prop} (hc : CallsX s P f args h R) (hr : ∀ v h', R v h' → R' v h') : CallsX s P f args h R' :=
  fun w hw => (hc w hw).mono fun _ _ ⟨h1, v, h2, h3⟩ => ⟨h1, v, h2, hr _ _ h3⟩
theorem CallsS.weak {P : Program} {f : FuncId} {args : List Value} {h : Heap} {R : Value → Heap → Prop} (hc : CallsS P f args h R) : CallsH P f args h R :=
  fun w hw => (hc w hw).mono fun _ _ ⟨h1, h2⟩ => ⟨⟨h1.os, h1.tape, h1.output, fun e => by cases e⟩, h2⟩
theorem CallsH.mono {P : Program} {f : FuncId} {args : List Value} {h : Heap} {R R' : Value → Heap → Prop} (hc : CallsH P f args h R) (hr : ∀ v h', R v h' → R' v h') : CallsH P f args h R' :=
  fun w hw => (hc w hw).mono fun _ _ ⟨h1, v, h2, h3⟩ => ⟨h1, v, h2, hr _ _ h3⟩

theorem cel_putc (h : Heap) (b o : Nat) (v : Value) (b' o' : Nat) : cel (putc h b o v) b' o' = if b = b' ∧ o = o' ∧ (cel h b o).isSome = true then some v else cel h b' o' := by
  unfold cel putc
  rw [Array.getElem?_modify]
  by_cases hb : b = b'
  · subst hb
    simp only [if_true, true_and]
    cases hh : h[b]? with
    | none => simp
    | some x =>
      cases x
      case cells c e f =>
        simp only [Option.map_some, Array.getElem?_setIfInBounds]
        by_cases ho : o = o'
        · subst ho
          by_cases hl : o < c.size
          · simp [hl]
          · simp [hl]
        · simp [ho]
      all_goals simp
  · simp [hb]

theorem frz_putc (h : Heap) (b o : Nat) (v : Value) (b' o' : Nat) : frz (putc h b o v) b' o' = frz h b' o' := by
  unfold frz putc
  rw [Array.getElem?_modify]
  by_cases hb : b = b'
  · subst hb
    simp only [if_true]
    cases hh : h[b]? with
    | none => rfl
    | some x => cases x <;> rfl
  · simp [hb]

theorem size_putc (h : Heap) (b o : Nat) (v : Value) : (putc h b o v).size = h.size := by simp [putc]

theorem wok_putc {h : Heap} {b o n : Nat} {b' o' : Nat} {v : Value} (hw : wok h b o n) : wok (putc h b' o' v) b o n := by
  intro j hj
  obtain ⟨h1, h2⟩ := hw j hj
  refine ⟨?_, by rw [frz_putc]; exact h2⟩
  rw [cel_putc]
  split
  · rfl
  · exact h1

section
variable {P : Program} {C : Ctx}

theorem run_store1 {w : World} {b o : Nat} {v : Value} (h1 : (cel w.heap b o).isSome = true) (h2 : frz w.heap b o = false) (hv : isOne v = true) :
    (store ⟨b, o, none⟩ v).run P w = .ok () (w.setCell ⟨b, o, none⟩ v) := by
  obtain ⟨u, hu⟩ := Option.isSome_iff_exists.1 h1
  have hc : w.cell? ⟨b, o, none⟩ = some u := by rw [cell?_eq, hu]
  have hf : w.frozen? ⟨b, o, none⟩ = false := h2
  cases v <;> first | (simp [isOne] at hv; done) | simp [store, Sem.run, hc, hf]

theorem storeCells_run (l : Loc) : ∀ (vs : List Value) (i : Nat) (w : World), wok w.heap l.b (l.o + i) vs.length → (∀ v ∈ vs, isOne v = true) →
    ∃ w', (storeCells l.addr vs i).run P w = .ok () w' ∧ w'.heap = putl w.heap l.b (l.o + i) vs ∧ SameEnv w w'
  | [], i, w, _, _ => ⟨w, rfl, rfl, SameEnv.refl w⟩
  | v :: vs, i, w, hk, h1 => by
    have hk0 := hk 0 (by simp)
    simp only [Nat.add_zero] at hk0
    have hs := run_store1 (P := P) hk0.1 hk0.2 (h1 v (by simp))
    have hk' : wok (w.setCell ⟨l.b, l.o + i, none⟩ v).heap l.b (l.o + (i + 1)) vs.length := by
      rw [setCell_heap]
      refine wok_putc (fun j hj => ?_)
      have := hk (j + 1) (by simp; omega)
      rwa [show l.o + i + (j + 1) = l.o + (i + 1) + j by omega] at this
    obtain ⟨w', e1, e2, e3⟩ := storeCells_run l vs (i + 1) _ hk' (fun u hu => h1 u (by simp [hu]))
    refine ⟨w', ?_, ?_, SameEnv.trans (b := w.setCell ⟨l.b, l.o + i, none⟩ v) ⟨rfl, rfl, rfl, Nat.le_refl _⟩ e3⟩
    · simp only [storeCells, Sem.run_bind, addr_add]
      show ((store ⟨l.b, l.o + i, none⟩ v).run P w).andThen _ = _
      rw [hs]
      exact e1
    · rw [e2, setCell_heap]
      rfl

mutual
/-- What may be stored. -/
def TV.plain : TV → Bool
  | .tup _ | .any _ => false
  | .agg xs => TVs.plain xs
  | _ => true
def TVs.plain : List TV → Bool
  | [] => true
  | x :: xs => TV.plain x && TVs.plain xs
end

mutual
theorem TV.plain_cells : ∀ t : TV, t.plain = true → ∀ v ∈ t.cells, isOne v = true
  | .int .., _, v, hv | .bool .., _, v, hv | .str .., _, v, hv | .ptr .., _, v, hv | .map .., _, v, hv | .fn .., _, v, hv => by
    simp only [TV.cells, List.mem_singleton] at hv; subst hv; rfl
  | .slice .., _, v, hv => by simp only [TV.cells, List.mem_singleton] at hv; subst hv; rfl
  | .one x, _, v, hv => by simp only [TV.cells, List.mem_singleton] at hv; subst hv; exact x.h
  | .bytes n b, _, v, hv => by simp only [TV.cells, List.mem_map] at hv; obtain ⟨c, _, rfl⟩ := hv; rfl
  | .words k n b, _, v, hv => by simp only [TV.cells, List.mem_map] at hv; obtain ⟨c, _, rfl⟩ := hv; rfl
  | .tup xs, h, v, hv => by simp [TV.plain] at h
  | .any x, h, v, hv => by simp [TV.plain] at h
  | .agg xs, h, v, hv => TVs.plain_cells xs (by simpa [TV.plain] using h) v (by simpa [TV.cells] using hv)
theorem TVs.plain_cells : ∀ ts : List TV, TVs.plain ts = true → ∀ v ∈ TVs.cells ts, isOne v = true
  | [], _, v, hv => by simp [TVs.cells] at hv
  | x :: xs, h, v, hv => by
    simp only [TVs.plain, Bool.and_eq_true] at h
    simp only [TVs.cells, List.mem_append] at hv
    rcases hv with hv | hv
    · exact TV.plain_cells x h.1 v hv
    · exact TVs.plain_cells xs h.2 v hv
end

/-- So many elements of a size, read from a slice. -/
def slAt (h : Heap) (s : Sl) (size : Nat) (cs : List Value) : Prop :=
  cs.length = s.len * size ∧ (s.len = 0 ∧ s.a = none ∨ ∃ l, s.a = some l ∧ ∀ j, j < cs.length → cel h l.b (l.o + j) = cs[j]?)

def zeros (z : TV) : Nat → List Value
  | 0 => []
  | n + 1 => z.cells ++ zeros z n

/-- append: elements 'new' behind those of s. -/
def vcAppend (C : Ctx) (e : TypeId) (s : Sl) (n : Nat) (new : List Value) (h : Heap) (K : Sl → Heap → Prop) : Prop :=
  ∃ old : List Value, slAt h s (C.ti e).size old ∧ (s.len + n) * (C.ti e).bytes ≤ 70368744177664 ∧ 0 < (C.ti e).bytes ∧
    (s.len + n ≤ s.cap → (n = 0 ∨ s.a.isSome = true) ∧ ∀ l, s.a = some l → wok h l.b (l.o + s.len * (C.ti e).size) new.length ∧
      K ⟨some l, s.len + n, s.cap⟩ (putl h l.b (l.o + s.len * (C.ti e).size) new)) ∧
    (s.len + n ≤ s.cap → s.a = none → K ⟨none, s.len + n, s.cap⟩ h) ∧
    (s.cap < s.len + n → ∀ c, s.len + n ≤ c → K ⟨some ⟨h.size, 0⟩, s.len + n, c⟩ (h.push (row (old ++ new ++ zeros (C.ti e).z (c - (s.len + n))) e)))

theorem cells_addr {w : World} {l : Loc} {cs : List Value} (h : ∀ j, j < cs.length → cel w.heap l.b (l.o + j) = cs[j]?) : ∀ j v, cs[j]? = some v → w.cell? (l.addr.add j) = some v := by
  intro j v hj
  have hlt : j < cs.length := (List.getElem?_eq_some_iff.1 hj).1
  rw [addr_add]
  show w.cell? ⟨l.b, l.o + j, none⟩ = _
  rw [cell?_eq, h j hlt, hj]

theorem firstCells_run {w : World} {s : Sl} {size : Nat} {cs : List Value} (h : slAt w.heap s size cs) : (Builtin.firstCells size s.len (slVal s)).run P w = .ok cs.toArray w := by
  obtain ⟨h1, h2⟩ := h
  obtain ⟨a, len, cap⟩ := s
  rcases h2 with ⟨h0, ha⟩ | ⟨l, ha, hc⟩
  · dsimp only at h0 ha h1
    subst h0; subst ha
    have : cs = [] := List.eq_nil_of_length_eq_zero (by omega)
    subst this
    exact run_firstCells_none w size 0 0 cap
  · dsimp only at ha h1
    subst ha
    exact run_firstCells_some w size len l.addr len cap cs h1 (cells_addr hc)

theorem zeroCells_eq (z : TV) (n : Nat) : Builtin.zeroCells z.cells.toArray n = (zeros z n).toArray := by
  unfold Builtin.zeroCells
  apply Array.toList_inj.1
  simp only [Array.toList_map, Array.toList_range, List.size_toArray]
  have hz : ∀ m, (zeros z m).length = m * z.cells.length := by
    intro m
    induction m with
    | zero => simp [zeros]
    | succ m ih => simp [zeros, ih, Nat.succ_mul, Nat.add_comm]
  have hg : ∀ m i, i < m * z.cells.length → (zeros z m)[i]? = z.cells[i % z.cells.length]? := by
    intro m
    induction m with
    | zero => intro i hi; omega
    | succ m ih =>
      intro i hi
      simp only [zeros]
      by_cases hl : i < z.cells.length
      · rw [List.getElem?_append_left hl, Nat.mod_eq_of_lt hl]
      · rw [List.getElem?_append_right (by omega), ih (i - z.cells.length) (by rw [Nat.succ_mul] at hi; omega)]
        rw [Nat.mod_eq_sub_mod (by omega : i ≥ z.cells.length)]
  apply List.ext_getElem?
  intro i
  by_cases hi : i < n * z.cells.length
  · rw [hg n i hi]
    have hpos : 0 < z.cells.length := by
      rcases Nat.eq_zero_or_pos z.cells.length with h | h
      · rw [h] at hi; omega
      · exact h
    have hm := Nat.mod_lt i hpos
    simp [hi, hm]
  · rw [List.getElem?_eq_none (by simp; omega), List.getElem?_eq_none (by rw [hz]; omega)]

theorem vcAppend_sound (hC : C.Ok) {t u ty e : TypeId} {s : Sl} {n : Nat} {new : List Value} {h : Heap} {K : Option TV → Heap → Prop} (hv : vcAppend C e s n new h fun s' h' => K (some (.slice s')) h')
    (ht : (C.ti t).d = some (.slice e)) (he : (C.ti e).d.isSome = true) (hu : (∃ e', C.P.underlying u = some (.slice e')) ∨ C.P.underlying u = some .string) {X : Value} (hone : ∀ v ∈ new, isOne v = true)
    (hlen : ∀ w : World, (Builtin.lenOf X).run C.P w = .ok n w) (hnew : ∀ w : World, w.heap = h → (Builtin.firstCells (C.ti e).size n X).run C.P w = .ok new.toArray w)
    (hnt : isTup (C.ti e).d = false) (_hnl : new.length = n * (C.ti e).size)
    (w : World) (hw : w.heap = h) : ∃ r v w', (Builtin.append_ #[t, u] ty #[(TV.slice s).val, X]).run C.P w = .ok v w' ∧ K r w'.heap ∧ Rel r v ∧ SameEnv w w' := by
  subst hw
  obtain ⟨old, hold, hb1, hb0, hroom, hnil, hgrow⟩ := hv
  obtain ⟨d', hd'⟩ := Option.isSome_iff_exists.1 he
  obtain ⟨i, hi, hsz, hby⟩ := hC.info hd'
  obtain ⟨i2, hi2, hz2⟩ := hC.zero e (Ctx.ti_lt he) he
  obtain rfl : i = i2 := by rw [hi] at hi2; exact Option.some.inj hi2
  have hz : i.zero = some (C.ti e).z.val := by
    rcases hz2 with h1 | h1
    · rw [hnt] at h1; cases h1
    · exact h1
  have hut := hC.d ht
  have hc : C.P.cellsOf e = (C.ti e).size := by rw [← hsz]; simp [Program.cellsOf, hi]
  have hle : s.len + n ≤ 70368744177664 := by
    have : s.len + n ≤ (s.len + n) * (C.ti e).bytes := Nat.le_mul_of_pos_right _ hb0
    omega
  by_cases hr : s.len + n ≤ s.cap
  · cases ha : s.a with
    | none =>
      obtain ⟨h0, _⟩ := hroom hr
      have h0 : n = 0 := by rcases h0 with h0 | h0; exact h0; rw [ha] at h0; cases h0
      refine ⟨_, _, w, ?_, hnil hr ha, .some rfl, SameEnv.refl w⟩
      unfold Builtin.append_
      simp only [TV.val, slVal, ha, Option.map_none]
      rcases hu with ⟨e', hdu⟩ | hdu <;> simp [run_underlying hut, run_sizeOf w hi, run_underlying hdu, hr, hc, hnew w rfl, hlen]
    | some l =>
      obtain ⟨_, hl⟩ := hroom hr
      obtain ⟨hk, hKK⟩ := hl l ha
      obtain ⟨w', e1, e2, e3⟩ := storeCells_run (P := C.P) ⟨l.b, l.o + s.len * (C.ti e).size⟩ new 0 w hk hone
      refine ⟨_, _, w', ?_, by rw [e2]; exact hKK, .some rfl, e3⟩
      unfold Builtin.append_
      simp only [TV.val, slVal, ha, Option.map_some]
      rcases hu with ⟨e', hdu⟩ | hdu <;> simp [run_underlying hut, run_sizeOf w hi, run_underlying hdu, hr, hc, hnew w rfl, hlen, addr_add, e1]
  · have hcap := nextslicecap_le (need := s.len + n) (old := s.cap) (by omega)
    have hfit : ¬ (281474976710656 < Builtin.nextslicecap (s.len + n) s.cap * (C.ti e).bytes) := by
      have := Nat.mul_le_mul_right (C.ti e).bytes hcap
      rw [Nat.mul_assoc] at this
      omega
    have h63 : ¬ (9223372036854775807 < ((s.len : Int) + (n : Int))) := by omega
    have hold' := firstCells_run (P := C.P) (w := w.drew) hold
    have hnew' := hnew w.drew rfl
    refine ⟨some (.slice ⟨some ⟨w.heap.size, 0⟩, s.len + n, grownCap w (s.len + n) s.cap e⟩), _, w.drew.alloc (.cells (old.toArray ++ (new.toArray ++ Builtin.zeroCells (C.ti e).z.cells.toArray (grownCap w (s.len + n) s.cap e - (s.len + n)))) e), ?_, ?_, .some rfl, ⟨rfl, rfl, rfl, Nat.le_succ _⟩⟩
    · unfold Builtin.append_
      simp only [TV.val, slVal] at hold' ⊢
      have h63' : ¬ (9223372036854775807 < ((s.len : Int) + (n : Int)) ∧ (C.ti e).bytes = 0) := by omega
      have hti' := run_typeInfo (P := C.P) (w := w.drew) hi
      have hsize := run_sizeOf (P := C.P) w hi
      have hti := run_typeInfo (P := C.P) (w := w) hi
      have hzv : (zeroValue e).run C.P w.drew = .ok (C.ti e).z.val w.drew := by simp [zeroValue, typeInfo, hi, hz]
      rcases hu with ⟨e', hdu⟩ | hdu
      all_goals simp [run_underlying hut, hsize, hti, run_underlying hdu, hlen, hr, hc, hby, hfit]
      all_goals simp [h63', Question.forced, hti', hold', hnew', hzv, newRow, grownCap, TV.val_cells, Loc.addr]
    · have hc : s.len + n ≤ grownCap w (s.len + n) s.cap e := by
        simp only [grownCap, Question.cut]
        omega
      have := hgrow (by omega) _ hc
      rw [zeroCells_eq]
      show K _ (w.heap.push _)
      unfold row at this
      simpa using this

def vcAppendOp (C : Ctx) (ts : List TypeId) (xs : List (Option TV)) (h : Heap) (K : Option TV → Heap → Prop) : Prop :=
  match ts, xs with
  | [t, u], [some (.slice s), some (.slice x)] => match (C.ti t).d, (C.ti u).d with
    | some (.slice e), some (.slice _) => match notTuple (C.ti e).d with
      | true => ∃ new, slAt h x (C.ti e).size new ∧ (∀ v ∈ new, isOne v = true) ∧ vcAppend C e s x.len new h fun s' h' => K (some (.slice s')) h'
      | false => False
    | _, _ => False
  | [t, u], [some (.slice s), some (.str x)] => match (C.ti t).d, (C.ti u).d with
    | some (.slice e), some .string => match (C.ti e).d with
      | some (.int .u8) => vcAppend C e s x.length (x.map fun c => .int .u8 (c.toNat : Int)) h fun s' h' => K (some (.slice s')) h'
      | _ => False
    | _, _ => False
  | [t, u], [some (.slice s), some (.int .i64 n)] => match (C.ti t).d, (C.ti u).d with
    | some (.slice e), some (.int _) => match (C.ti e).d, (C.ti e).z with
      | some (.int .u8), .int .u8 z => 0 ≤ n ∧ n * ((C.ti e).bytes : Int) ≤ 70368744177664 ∧ vcAppend C e s n.toNat (List.replicate n.toNat (.int .u8 z)) h fun s' h' => K (some (.slice s')) h'
      | _, _ => False
    | _, _ => False
  | _, _ => False

theorem notTuple_isSome {d : Option TypeDesc} (h : notTuple d = true) : d.isSome = true ∧ isTup d = false := by
  cases d with
  | none => cases h
  | some d => cases d <;> first | exact ⟨rfl, rfl⟩ | cases h

theorem relL2 {x y : Option TV} {vs : List Value} (h : RelL [x, y] vs) : ∃ v u, vs = [v, u] ∧ Rel x v ∧ Rel y u := by
  cases vs with
  | nil => exact h.elim
  | cons v vs => cases vs with
    | nil => exact h.2.elim
    | cons u vs => cases vs with
      | nil => exact ⟨v, u, rfl, h.1, h.2.1⟩
      | cons _ _ => exact h.2.2.elim

theorem zeros_u8 (z : Int) : ∀ n, zeros (.int .u8 z) n = List.replicate n (.int .u8 z)
  | 0 => rfl
  | n + 1 => by rw [zeros, zeros_u8 z n]; rfl

theorem vcAppendZ_sound (hC : C.Ok) {t u ty e : TypeId} {s : Sl} {m : Int} {k : IntKind} {h : Heap} {K : Option TV → Heap → Prop} (h0 : 0 ≤ m) (hm : m * ((C.ti e).bytes : Int) ≤ 70368744177664) (hv : vcAppend C e s m.toNat (zeros (C.ti e).z m.toNat) h fun s' h' => K (some (.slice s')) h')
    (ht : (C.ti t).d = some (.slice e)) (he : (C.ti e).d.isSome = true) (hu : C.P.underlying u = some (.int k)) (hnt : isTup (C.ti e).d = false) (hone : ∀ v ∈ zeros (C.ti e).z m.toNat, isOne v = true)
    (w : World) (hw : w.heap = h) : ∃ r v w', (Builtin.append_ #[t, u] ty #[(TV.slice s).val, .int .i64 m]).run C.P w = .ok v w' ∧ K r w'.heap ∧ Rel r v ∧ SameEnv w w' := by
  subst hw
  obtain ⟨old, hold, hb1, hb0, hroom, hnil, hgrow⟩ := hv
  obtain ⟨d', hd'⟩ := Option.isSome_iff_exists.1 he
  obtain ⟨i, hi, hsz, hby⟩ := hC.info hd'
  obtain ⟨i2, hi2, hz2⟩ := hC.zero e (Ctx.ti_lt he) he
  obtain rfl : i = i2 := by rw [hi] at hi2; exact Option.some.inj hi2
  have hz : i.zero = some (C.ti e).z.val := by
    rcases hz2 with h1 | h1
    · rw [hnt] at h1; cases h1
    · exact h1
  have hzs : (C.ti e).z.size = (C.ti e).size := by
    rcases hC.size e (Ctx.ti_lt he) with h1 | ⟨_, h1⟩
    · rw [hnt] at h1; cases h1
    · exact h1
  have hut := hC.d ht
  have hc : C.P.cellsOf e = (C.ti e).size := by rw [← hsz]; simp [Program.cellsOf, hi]
  obtain ⟨n, rfl⟩ := Int.eq_ofNat_of_zero_le h0
  simp only [Int.toNat_natCast] at hb1 hroom hnil hgrow hone
  have hn1 : n ≤ n * (C.ti e).bytes := Nat.le_mul_of_pos_right _ hb0
  have hm' : n * (C.ti e).bytes ≤ 70368744177664 := by
    have : ((n * (C.ti e).bytes : Nat) : Int) ≤ 70368744177664 := by rw [Int.natCast_mul]; exact hm
    omega
  have hle : s.len + n ≤ 70368744177664 := by
    have : s.len + n ≤ (s.len + n) * (C.ti e).bytes := Nat.le_mul_of_pos_right _ hb0
    omega
  have hwrap : IntKind.wrap .i64 (n : Int) = (n : Int) := IntWalk.i64_in _ ⟨by omega, by omega⟩
  have hneg : ¬ ((n : Int) < 0) := by omega
  have hbig : ¬ (281474976710656 < (n : Int) * ((C.ti e).bytes : Int)) := by
    rw [← Int.natCast_mul]
    omega
  have hzl : (C.ti e).z.cells.length = (C.ti e).size := by rw [TV.cells_length, hzs]
  have hempty : n * (C.ti e).size = 0 → zeros (C.ti e).z n = [] := fun h => by
    apply List.eq_nil_of_length_eq_zero
    rw [← List.size_toArray, ← zeroCells_eq]
    simp [Builtin.zeroCells, hzl, h]
  have happ : ∀ w : World, (if n * (C.ti e).size = 0 then (pure #[] : Sem (Array Value)) else (zeroValue e).bind fun z => pure (Builtin.zeroCells z.cells n)).run C.P w = .ok (zeros (C.ti e).z n).toArray w := by
    intro w
    have hzv : (zeroValue e).run C.P w = .ok (C.ti e).z.val w := by simp [zeroValue, typeInfo, hi, hz]
    by_cases h9 : n * (C.ti e).size = 0
    · rw [if_pos h9, hempty h9]; rfl
    · rw [if_neg h9]
      show ((zeroValue e) >>= fun z => pure (Builtin.zeroCells z.cells n)).run C.P w = _
      simp [hzv, TV.val_cells, zeroCells_eq]
  have hti := run_typeInfo (P := C.P) (w := w) hi
  have hsize := run_sizeOf (P := C.P) w hi
  by_cases hr : s.len + n ≤ s.cap
  · cases ha : s.a with
    | none =>
      obtain ⟨h0', _⟩ := hroom hr
      have h0' : n = 0 := by rcases h0' with h0' | h0'; exact h0'; rw [ha] at h0'; cases h0'
      refine ⟨_, _, w, ?_, hnil hr ha, .some rfl, SameEnv.refl w⟩
      subst h0'
      unfold Builtin.append_
      simp only [TV.val, slVal, ha, Option.map_none]
      have hr' : s.len ≤ s.cap := by omega
      simp [run_underlying hut, run_underlying hu, hsize, hti, hc, asInt, asIntOf, hr', show IntKind.wrap .i64 0 = 0 from rfl]
    | some l =>
      obtain ⟨_, hl⟩ := hroom hr
      obtain ⟨hk, hKK⟩ := hl l ha
      obtain ⟨w', e1, e2, e3⟩ := storeCells_run (P := C.P) ⟨l.b, l.o + s.len * (C.ti e).size⟩ (zeros (C.ti e).z n) 0 w hk hone
      refine ⟨_, _, w', ?_, by rw [e2]; exact hKK, .some rfl, e3⟩
      have hz0 : (zeroValue e).run C.P w = .ok (C.ti e).z.val w := by simp [zeroValue, typeInfo, hi, hz]
      unfold Builtin.append_
      simp only [TV.val, slVal, ha, Option.map_some]
      by_cases h9 : n * (C.ti e).size = 0
      · have hz9 := hempty h9
        rw [hz9] at e1
        simp [run_underlying hut, run_underlying hu, hsize, hti, hc, asInt, asIntOf, hr, hwrap, hneg, hby, hbig, h9, addr_add, e1]
      · simp [run_underlying hut, run_underlying hu, hsize, hti, hc, asInt, asIntOf, hr, hwrap, hneg, hby, hbig, h9, hz0, TV.val_cells, zeroCells_eq, addr_add, e1]
  · have hcap := nextslicecap_le (need := s.len + n) (old := s.cap) (by omega)
    have hfit : ¬ (281474976710656 < Builtin.nextslicecap (s.len + n) s.cap * (C.ti e).bytes) := by
      have := Nat.mul_le_mul_right (C.ti e).bytes hcap
      rw [Nat.mul_assoc] at this
      omega
    have h63 : ¬ (9223372036854775807 < ((s.len : Int) + (n : Int))) := by omega
    have hold' := firstCells_run (P := C.P) (w := w.drew) hold
    refine ⟨some (.slice ⟨some ⟨w.heap.size, 0⟩, s.len + n, grownCap w (s.len + n) s.cap e⟩), _, w.drew.alloc (.cells (old.toArray ++ ((zeros (C.ti e).z n).toArray ++ Builtin.zeroCells (C.ti e).z.cells.toArray (grownCap w (s.len + n) s.cap e - (s.len + n)))) e), ?_, ?_, .some rfl, ⟨rfl, rfl, rfl, Nat.le_succ _⟩⟩
    · unfold Builtin.append_
      simp only [TV.val, slVal] at hold' ⊢
      have hti' := run_typeInfo (P := C.P) (w := w.drew) hi
      have hzv : (zeroValue e).run C.P w.drew = .ok (C.ti e).z.val w.drew := by simp [zeroValue, typeInfo, hi, hz]
      by_cases h9 : n * (C.ti e).size = 0
      · have hz9 := hempty h9
        simp [run_underlying hut, run_underlying hu, hsize, hti, hc, asInt, asIntOf, hr, hwrap, hneg, hby, hbig, hfit]
        simp [h63, h9, hz9, Question.forced, hti', hold', hzv, newRow, grownCap, TV.val_cells, Loc.addr]
      · simp [run_underlying hut, run_underlying hu, hsize, hti, hc, asInt, asIntOf, hr, hwrap, hneg, hby, hbig, hfit]
        simp [h63, h9, Question.forced, hti', hold', hzv, newRow, grownCap, TV.val_cells, zeroCells_eq, Loc.addr]
    · have hc : s.len + n ≤ grownCap w (s.len + n) s.cap e := by
        simp only [grownCap, Question.cut]
        omega
      have := hgrow (by omega) _ hc
      rw [zeroCells_eq]
      show K _ (w.heap.push _)
      unfold row at this
      simpa using this

theorem vcAppendOp_sound (hC : C.Ok) {ts : Array TypeId} {ty : TypeId} {xs : List (Option TV)} {vs : Array Value} {h : Heap} {K : Option TV → Heap → Prop} (hv : vcAppendOp C ts.toList xs h K) (hr : RelL xs vs.toList)
    (w : World) (hw : w.heap = h) : ∃ r v w', (Builtin.append_ ts ty vs).run C.P w = .ok v w' ∧ K r w'.heap ∧ Rel r v ∧ SameEnv w w' := by
  obtain ⟨ts⟩ := ts
  obtain ⟨vs⟩ := vs
  change vcAppendOp C ts xs h K at hv
  change RelL xs vs at hr
  unfold vcAppendOp at hv
  split at hv
  · obtain ⟨v, u, rfl, h1, h2⟩ := relL2 hr
    obtain rfl := h1 _ rfl
    obtain rfl := h2 _ rfl
    split at hv
    · rename_i e e' hd hd'
      split at hv
      · rename_i hn
        obtain ⟨hs, ht⟩ := notTuple_isSome hn
        obtain ⟨new, ha, hone, hv⟩ := hv
        exact vcAppend_sound hC hv hd hs (.inl ⟨_, hC.d hd'⟩) hone (fun w => by simp [TV.val, slVal, Builtin.lenOf]) (fun w hw => by subst hw; exact firstCells_run ha) ht ha.1 w hw
      · exact hv.elim
    · exact hv.elim
  · obtain ⟨v, u, rfl, h1, h2⟩ := relL2 hr
    obtain rfl := h1 _ rfl
    obtain rfl := h2 _ rfl
    split at hv
    · rename_i e hd hd'
      split at hv
      · rename_i he
        have hsz : (C.ti e).size = 1 := by
          have hl := Ctx.ti_lt (C := C) (t := e) (by simp [he])
          rcases hC.size e hl with h1 | ⟨h1, _⟩
          · simp [he, isTup] at h1
          · have h2 : (C.ti e).sh = .int .u8 := by rw [hC.tab e hl]; simp [TI.of, shOf, hC.d he]
            rw [h2] at h1; rw [← h1]; rfl
        refine vcAppend_sound hC hv hd (by simp [he]) (.inr (hC.d hd')) ?_ (fun w => by simp [TV.val, Builtin.lenOf, bsize]) (fun w hw => ?_) (by simp [he, isTup]) (by simp [hsz]) w hw
        · intro v hv
          simp only [List.mem_map] at hv
          obtain ⟨c, _, rfl⟩ := hv
          rfl
        · simp [TV.val, Builtin.firstCells, ByteArray.data_extract]
      · exact hv.elim
    · exact hv.elim
  · obtain ⟨v, u, rfl, h1, h2⟩ := relL2 hr
    obtain rfl := h1 _ rfl
    obtain rfl := h2 _ rfl
    split at hv
    · rename_i _ n _ _ e k hd hd'
      split at hv
      · rename_i z hde hz
        obtain ⟨h0, hm, hv⟩ := hv
        have hzz : zeros (C.ti e).z n.toNat = List.replicate n.toNat (.int .u8 z) := by
          rw [hz]; exact zeros_u8 z _
        exact vcAppendZ_sound hC h0 hm (by rw [hzz]; exact hv) hd (by rw [hde]; rfl) (hC.d hd') (by rw [hde]; rfl) (by
          rw [hzz]
          intro v hv
          rw [List.eq_of_mem_replicate hv]
          rfl) w hw
      · exact hv.elim
    · exact hv.elim
  · exact hv.elim

/-- What bytes of a string are laid as. -/
def strRow (bs : List UInt8) (c : Nat) (e : TypeId) : Obj := .cells ((bs.map fun (b : UInt8) => Value.int .u8 (b.toNat : Int)) ++ List.replicate (c - bs.length) (Value.int .u8 0)).toArray e (c, c + 1)

def vcUpdate (C : Ctx) (t : TypeId) (m k x : Option TV) (h : Heap) (K : Option TV → Heap → Prop) : Prop :=
  match (C.ti t).d, m, k, x with
  | some (.map kt _), some (.map p), some kv, some tv => match (C.ti kt).d with
    | some d => match keyLike C d kv && keyPlain C kt d with
      | true => Nn p fun r => ∃ es c, h[r]? = some (mapO es c) ∧ AllLike C d es ∧ Bind (h.setIfInBounds r (mapO (putE kv tv c es) (clockE kv c es))) fun h' => K none h'
      | false => False
    | none => False
  | _, _, _, _ => False

def vcDelete (C : Ctx) (ts : List TypeId) (m k : Option TV) (h : Heap) (K : Option TV → Heap → Prop) : Prop :=
  match ts, m, k with
  | t :: _, some (.map p), some kv => match (C.ti t).d with
    | some (.map kt _) => match (C.ti kt).d with
      | some d => match keyLike C d kv && keyPlain C kt d with
        | true => Nn p fun r => ∃ es c, h[r]? = some (mapO es c) ∧ AllLike C d es ∧ Bind (h.setIfInBounds r (mapO (dropE kv es) c)) fun h' => K (some (.tup [])) h'
        | false => False
      | none => False
    | _ => False
  | _, _, _ => False

/-- A step of a loop over a map into which nothing has been laid since the loop began. -/
def vcNext (p : Option Loc) (h : Heap) (K : Option TV → Heap → Prop) : Prop :=
  Nn p fun l => l.o = 0 ∧ ∃ bm since c0 seen es c, h[l.b]? = some (.mapIter (some bm) since seen c0) ∧ h[bm]? = some (mapO es c) ∧ (∀ e ∈ es, e.2.2 < since) ∧ since ≤ c0 ∧
    ((∀ e ∈ es, seen.contains e.2.2 = true) → K (some (.tup [.bool false])) h) ∧
    ∀ e ∈ es, seen.contains e.2.2 = false → K (some (.tup [.bool true, e.1, e.2.1])) (h.setIfInBounds l.b (.mapIter (some bm) since (seen.push e.2.2) c))

/-- The step's key and value. -/
def vcEntry (p : Option Loc) (h : Heap) (K : Option TV → Prop) : Prop :=
  Nn p fun l => l.o = 0 ∧ ∃ bm since seen es c e, h[l.b]? = some (.mapIter (some bm) since (Array.push seen e.2.2) c) ∧ h[bm]? = some (mapO es c) ∧ e ∈ es ∧ (es.map (·.2.2)).Nodup ∧
    K (some (.tup [.any (TV.val e.1), .any (TV.val e.2.1)]))

/-- copy: as many elements as the shorter of the two has. -/
def vcCopy (C : Ctx) (ts : List TypeId) (xs : List (Option TV)) (h : Heap) (K : Option TV → Heap → Prop) : Prop :=
  match ts, xs with
  | [t, u], [some (.slice d), some (.slice s)] => match (C.ti t).d, (C.ti u).d with
    | some (.slice e), some (.slice _) => match notTuple (C.ti e).d with
      | true => ∃ new, slAt h ⟨s.a, Nat.min s.len d.len, Nat.min s.len d.len⟩ (C.ti e).size new ∧ (∀ v ∈ new, isOne v = true) ∧ (d.a = none → K (some (.int .i64 (Nat.min s.len d.len : Nat))) h) ∧
          ∀ l, d.a = some l → wok h l.b l.o new.length ∧ Bind (putl h l.b l.o new) fun h' => K (some (.int .i64 (Nat.min s.len d.len : Nat))) h'
      | false => False
    | _, _ => False
  | [t, u], [some (.slice d), some (.str x)] => match (C.ti t).d, (C.ti u).d with
    | some (.slice e), some .string => match (C.ti e).d with
      | some (.int .u8) => (d.a = none → K (some (.int .i64 (Nat.min x.length d.len : Nat))) h) ∧
          ∀ l, d.a = some l → wok h l.b l.o (Nat.min x.length d.len) ∧ Bind (putl h l.b l.o ((x.take (Nat.min x.length d.len)).map fun c => Value.int .u8 (c.toNat : Int))) fun h' => K (some (.int .i64 (Nat.min x.length d.len : Nat))) h'
      | _ => False
    | _, _ => False
  | _, _ => False

theorem vcCopy_sound {C : Ctx} (hC : C.Ok) {ts : Array TypeId} {ty : TypeId} {xs : List (Option TV)} {vs : Array Value} {h : Heap} {K : Option TV → Heap → Prop} (hv : vcCopy C ts.toList xs h K) (hr : RelL xs vs.toList)
    (w : World) (hw : w.heap = h) : ∃ r v w', (Builtin.copy_ ts ty vs).run C.P w = .ok v w' ∧ K r w'.heap ∧ Rel r v ∧ SameEnv w w' := by
  subst hw
  obtain ⟨ts⟩ := ts
  obtain ⟨vs⟩ := vs
  change vcCopy C ts xs w.heap K at hv
  change RelL xs vs at hr
  unfold vcCopy at hv
  split at hv
  · rename_i t u d s
    obtain ⟨v, u', rfl, h1, h2⟩ := relL2 hr
    obtain rfl := h1 _ rfl
    obtain rfl := h2 _ rfl
    split at hv
    · rename_i e e' hd hd'
      split at hv
      · rename_i hn
        obtain ⟨hs, ht⟩ := notTuple_isSome hn
        obtain ⟨new, ha, hone, hnil, hput⟩ := hv
        obtain ⟨de, hde⟩ := Option.isSome_iff_exists.1 hs
        obtain ⟨i, hi, hsz, hby⟩ := hC.info hde
        have hut := hC.d hd
        have hc : C.P.cellsOf e = (C.ti e).size := by rw [← hsz]; simp [Program.cellsOf, hi]
        have hf := firstCells_run (P := C.P) (w := w) ha
        have hf' : (Builtin.firstCells (C.ti e).size (Nat.min s.len d.len) (slVal s)).run C.P w = .ok new.toArray w := by
          rw [← hf]
          simp only [slVal]
          cases s.a <;> rfl
        have hl : (Builtin.lenOf (slVal s)).run C.P w = .ok s.len w := by simp [slVal, Builtin.lenOf]
        cases hda : d.a with
        | none =>
          refine ⟨_, _, w, ?_, hnil hda, .some rfl, SameEnv.refl w⟩
          unfold Builtin.copy_
          have e1 : (TV.slice d).val = .slice none d.len d.cap := by simp [TV.val, slVal, hda]
          have e2 : (TV.slice s).val = slVal s := rfl
          rw [e1, e2]
          simp [run_underlying hut, hl, run_sizeOf w hi, hc, hf', goInt, TV.val]
        | some l =>
          obtain ⟨hwk, hK⟩ := hput l hda
          obtain ⟨w', g1, g2, g3⟩ := storeCells_run (P := C.P) l new 0 w (by simpa using hwk) hone
          refine ⟨_, _, w', ?_, by rw [g2]; exact hK, .some rfl, g3⟩
          unfold Builtin.copy_
          have e1 : (TV.slice d).val = .slice (some l.addr) d.len d.cap := by simp [TV.val, slVal, hda]
          have e2 : (TV.slice s).val = slVal s := rfl
          rw [e1, e2]
          simp [run_underlying hut, hl, run_sizeOf w hi, hc, hf', goInt, TV.val, g1]
      · exact hv.elim
    · exact hv.elim
  · rename_i t u d x
    obtain ⟨v, u', rfl, h1, h2⟩ := relL2 hr
    obtain rfl := h1 _ rfl
    obtain rfl := h2 _ rfl
    split at hv
    · rename_i e hd hd'
      split at hv
      · rename_i hde
        obtain ⟨hnil, hput⟩ := hv
        obtain ⟨i, hi, hsz, hby⟩ := hC.info hde
        have hut := hC.d hd
        have hc : C.P.cellsOf e = (C.ti e).size := by rw [← hsz]; simp [Program.cellsOf, hi]
        have hl : (Builtin.lenOf (.string ⟨x.toArray⟩)).run C.P w = .ok x.length w := by simp [Builtin.lenOf, bsize]
        have hf' : (Builtin.firstCells (C.ti e).size (Nat.min x.length d.len) (.string ⟨x.toArray⟩)).run C.P w = .ok ((x.take (Nat.min x.length d.len)).map fun c => Value.int .u8 (c.toNat : Int)).toArray w := by
          simp [Builtin.firstCells, ByteArray.data_extract]
        cases hda : d.a with
        | none =>
          refine ⟨_, _, w, ?_, hnil hda, .some rfl, SameEnv.refl w⟩
          unfold Builtin.copy_
          have e1 : (TV.slice d).val = .slice none d.len d.cap := by simp [TV.val, slVal, hda]
          rw [e1]
          simp [run_underlying hut, hl, run_sizeOf w hi, hc, hf', goInt, TV.val]
        | some l =>
          obtain ⟨hwk, hK⟩ := hput l hda
          have hlen : ((x.take (Nat.min x.length d.len)).map fun c => Value.int .u8 (c.toNat : Int)).length = Nat.min x.length d.len := by
            rw [List.length_map, List.length_take]
            exact Nat.min_eq_left (Nat.min_le_left _ _)
          obtain ⟨w', g1, g2, g3⟩ := storeCells_run (P := C.P) l ((x.take (Nat.min x.length d.len)).map fun c => Value.int .u8 (c.toNat : Int)) 0 w (by rw [hlen]; simpa using hwk) (fun v hv => by
            obtain ⟨c, _, rfl⟩ := List.mem_map.1 hv
            rfl)
          refine ⟨_, _, w', ?_, by rw [g2]; exact hK, .some rfl, g3⟩
          unfold Builtin.copy_
          have e1 : (TV.slice d).val = .slice (some l.addr) d.len d.cap := by simp [TV.val, slVal, hda]
          rw [e1]
          have e2 : (some #[(Value.slice (some l.addr) d.len d.cap), (TV.str x).val]).isSome = true := rfl
          rw [List.map_take] at g1
          simp [run_underlying hut, hl, run_sizeOf w hi, hc, hf', goInt, TV.val, g1]
      · exact hv.elim
    · exact hv.elim
  · exact hv.elim

/-- A call of a function enters it. -/
def EntP (P : Program) (f : FuncId) : Prop := ∀ (args : Array Value) (w : World), (callFunc f args).run P w = .ok (.enter f args) w

/-- The method of a name, of a value that is packed with its type: the function, and what it is handed first. -/
def MethodAt (P : Program) (h : Heap) (t : TypeId) (v : Value) (name : String) (f : FuncId) (rv : Value) : Prop :=
  EntP P f ∧ ∀ w : World, w.heap = h → (method (P.types.size + Made.depth) t v name).run P w = .ok (f, rv) w

/-- The function that adds with a carry: it has no body of its own. -/
def isAdd64 (C : Ctx) (g : FuncId) : Bool := match C.P.funcs[g]? with
  | some fn => fn.body.isNone && ((fn.name == "math/bits.Add64") && (Extern.findNext fn).isNone)
  | none => false

/-- Every operation. -/
def vcOp (C : Ctx) (o : Oper) (ρ : Operand → Option TV) (h : Heap) (K : Option TV → Heap → Prop) : Prop :=
  match o.op with
  | .alloc t => match notTuple (C.ti t).d with
    | true => Bind (newTV h (C.ti t).z t) fun h' => K (some (.ptr (some ⟨h.size, 0⟩))) h'
    | false => False
  | .box t x => match ρ x with
    | some tv => Bind (newTV h tv t) fun h' => K (some (.ptr (some ⟨h.size, 0⟩))) h'
    | none => False
  | .buildSlice t len parts => match (C.ti t).d with
    | some (.slice e) => match notTuple (C.ti e).d, Nat.ble (len * (C.ti e).size) 16777216, setParts (List.replicate len (C.ti e).z) (parts.toList.map fun p => (p.1, ρ p.2)) with
      | true, true, some xs => K (some (.slice ⟨some ⟨h.size, 0⟩, len, len⟩)) (h.push (row (TVs.cells xs) e))
      | _, _, _ => False
    | _ => False
  | .store t a x => match ρ a, ρ x with
    | some (.ptr p), some tv => match (C.ti t).d.isSome, Nat.beq tv.size (C.ti t).size, tv.plain with
      | true, true, true => Nn p fun l => wok h l.b l.o tv.size ∧ Bind (tv.put h l.b l.o) fun h' => K none h'
      | _, _, _ => False
    | _, _ => False
  | .makeSlice t l c => match (C.ti t).d, ρ l, ρ c with
    | some (.slice e), some (.int _ l), some (.int _ c) => match notTuple (C.ti e).d with
      | true => 0 ≤ l ∧ l ≤ c ∧ ((C.ti e).bytes : Int) * c ≤ 281474976710656 ∧ c < 9223372036854775808 ∧ K (some (.slice ⟨some ⟨h.size, 0⟩, l.toNat, c.toNat⟩)) (h.push (row (zeros (C.ti e).z c.toNat) e))
      | false => False
    | _, _, _ => False
  | .sliceToArrayPointer arr x => match (C.ti arr).d, ρ x with
    | some (.array n _), some (.slice s) => n ≤ s.len ∧ K (some (.ptr s.a)) h
    | _, _ => False
  | .call c => match c.callee with
    | .builtin .append => vcAppendOp C c.argTypes.toList (c.args.toList.map ρ) h K
    | .builtin .copy => vcCopy C c.argTypes.toList (c.args.toList.map ρ) h K
    | .builtin .delete => match c.args.toList.map ρ with
      | [m, k] => vcDelete C c.argTypes.toList m k h K
      | _ => False
    | .builtin _ => vcR C o ρ h fun r => K r h
    | .value f => match ρ f, allKnown (c.args.toList.map ρ) with
      | some (.fn (.func g) first cap), some args => match C.ent.getD g false with
        | true => CallsX C.strict C.P g (TVs.vals (first ++ args ++ cap)) h fun v h' => Ex (C.ti o.type).sh fun tv => v = tv.val ∧ K (some tv) h'
        | false => match isAdd64 C g, first ++ args ++ cap with
          | true, [.int .u64 x, .int .u64 y, .int .u64 z] => 0 ≤ x ∧ 0 ≤ y ∧ 0 ≤ z ∧ z ≤ 1 ∧ K (some (.tup [.int .u64 ((x + y + z) % 18446744073709551616), .int .u64 ((x + y + z) / 18446744073709551616)])) h
          | _, _ => False
      | some (.one u), some args => ∃ g first cap, u.v = .func (.func g) first cap ∧ EntP C.P g ∧ CallsX C.strict C.P g (first.toList ++ TVs.vals args ++ cap.toList) h fun v h' => Ex (C.ti o.type).sh fun tv => v = tv.val ∧ K (some tv) h'
      | _, _ => False
    | .invoke recv name => match ρ recv, allKnown (c.args.toList.map ρ) with
      | some (.one u), some args => ∃ t x f rv, u.v = .iface t x ∧ MethodAt C.P h t x name f rv ∧ CallsX C.strict C.P f (rv :: TVs.vals args) h fun v h' => Ex (C.ti o.type).sh fun tv => v = tv.val ∧ K (some tv) h'
      | _, _ => False
  | .convert s d x => match (C.ti s).d, (C.ti d).d, ρ x with
    | some .string, some (.slice e), some (.str bs) => match (C.ti e).d with
      | some (.int .u8) => ∀ c, bs.length ≤ c → K (some (.slice ⟨some ⟨h.size, 0⟩, bs.length, c⟩)) (h.push (strRow bs c e))
      | _ => False
    | _, _, y => vcConv C s d y h fun r => K r h
  | .makeMap t none => match (C.ti t).d with
    | some (.map _ _) => K (some (.map (some h.size))) (h.push (mapO [] 0))
    | _ => False
  | .mapUpdate t m k x => vcUpdate C t (ρ m) (ρ k) (ρ x) h K
  | .insert t m k x => vcUpdate C t (ρ m) (ρ k) (ρ x) h K
  | .range t x => match (C.ti t).d, ρ x with
    | some (.map _ _), some (.map p) => Nn p fun r => ∃ es c, h[r]? = some (mapO es c) ∧ K (some (.ptr (some ⟨h.size, 0⟩))) (h.push (.mapIter (some r) c #[] c))
    | _, _ => False
  | .next it false => match ρ it with
    | some (.ptr p) => vcNext p h K
    | _ => False
  | .entry it => match ρ it with
    | some (.ptr p) => vcEntry p h fun r => K r h
    | _ => False
  | _ => vcR C o ρ h fun r => K r h

end
end Go.Vc
end

section
/- Every operation does what its condition says; then regions in the order of the text. -/
namespace Go.Vc
open Go

section
variable {P : Program} {C : Ctx}

theorem vals_append : ∀ xs ys : List TV, TVs.vals (xs ++ ys) = TVs.vals xs ++ TVs.vals ys
  | [], ys => rfl
  | x :: xs, ys => by simp only [List.cons_append, TVs.vals, vals_append xs ys]

theorem zeros_rep (z : TV) : ∀ n, zeros z n = TVs.cells (List.replicate n z)
  | 0 => rfl
  | n + 1 => by simp only [zeros, List.replicate_succ, TVs.cells, zeros_rep z n]

theorem size_take_uniform {size : Nat} : ∀ (len : Nat) (zs : List TV), zs.map TV.size = List.replicate len size → ∀ (i : Nat) (z : TV), zs[i]? = some z → TVs.size (zs.take i) = i * size ∧ z.size = size
  | len, [], _, i, z, hi => by simp at hi
  | 0, x :: xs, h, i, z, hi => by simp at h
  | len + 1, x :: xs, h, 0, z, hi => by
    simp only [List.map_cons, List.replicate_succ, List.cons.injEq] at h
    simp only [List.getElem?_cons_zero, Option.some.injEq] at hi
    subst hi
    exact ⟨by simp [TVs.size], h.1⟩
  | len + 1, x :: xs, h, i + 1, z, hi => by
    simp only [List.map_cons, List.replicate_succ, List.cons.injEq] at h
    simp only [List.getElem?_cons_succ] at hi
    obtain ⟨e1, e2⟩ := size_take_uniform len xs h.2 i z hi
    exact ⟨by simp only [List.take_succ_cons, TVs.size, e1, h.1, Nat.succ_mul]; omega, e2⟩

theorem zeroRun (hC : C.Ok) {t : TypeId} (h : notTuple (C.ti t).d = true) (w : World) : (zeroValue t).run C.P w = .ok (C.ti t).z.val w := by
  obtain ⟨hs, ht⟩ := notTuple_isSome h
  obtain ⟨i, hi, hz⟩ := hC.zero t (Ctx.ti_lt hs) hs
  have hz : i.zero = some (C.ti t).z.val := by
    rcases hz with h1 | h1
    · rw [ht] at h1; cases h1
    · exact h1
  simp [zeroValue, typeInfo, hi, hz]

theorem sizeRun (hC : C.Ok) {t : TypeId} (h : (C.ti t).d.isSome = true) (w : World) : (sizeOf t).run C.P w = .ok (C.ti t).size w := by
  obtain ⟨d, hd⟩ := Option.isSome_iff_exists.1 h
  obtain ⟨i, hi, hs, _⟩ := hC.info hd
  rw [run_sizeOf w hi]
  simp [Program.cellsOf, hi, hs]

theorem zsize (hC : C.Ok) {t : TypeId} (h : notTuple (C.ti t).d = true) : (C.ti t).z.size = (C.ti t).size := by
  obtain ⟨hs, ht⟩ := notTuple_isSome h
  rcases hC.size t (Ctx.ti_lt hs) with h1 | h1
  · rw [ht] at h1; cases h1
  · exact h1.2

/-- What an operation comes to: a value, in a world whose heap is told. -/
def Does (s : Bool) (P : Program) (o : Oper) (a : Act) (w : World) (K : Option TV → Heap → Prop) : Prop :=
  (∃ r v w', (execOp a.eval o).run P w = .ok (.value v) w' ∧ K r w'.heap ∧ Rel r v ∧ SameEnv w w') ∨
  (∃ w', (execOp a.eval o).run P w = .ok .skip w' ∧ K none w'.heap ∧ SameEnv w w') ∨
  (∃ f args, (execOp a.eval o).run P w = .ok (.enter f args.toArray) w ∧ CallsX s P f args w.heap fun v h' => ∃ r, Rel r v ∧ K r h')

theorem Does.wp {s : Bool} {o : Oper} {a : Act} {w : World} {K : Option TV → Heap → Prop} (h : Does s P o a w K) {next : Act → World → Prop} {Q : Exit → Act → World → Prop}
    (hn : ∀ r v w', K r w'.heap → Rel r v → EnvS s w w' → next (a.put o.dst v) w') : o.wp P a w next Q := by
  unfold Oper.wp
  rcases h with ⟨r, v, w', e, hk, hr, hs⟩ | ⟨w', e, hk, hs⟩ | ⟨f, args, e, hc⟩
  · rw [e]; exact hn r v w' hk hr hs.toS
  · rw [e]; exact hn none undef w' hk (Rel.none _) hs.toS
  · rw [e]
    refine (hc w rfl).mono fun e w' => ?_
    rintro ⟨hs, v, rfl, r, hr, hk⟩
    exact hn r v w' hk hr hs

theorem does_of_R {o : Oper} {env : Env} {a : Act} {w : World} {K : Option TV → Heap → Prop} (hC : C.Ok) (he : EnvOk env a) (h : vcR C o env.ev w.heap fun r => K r w.heap) : Does C.strict C.P o a w K := by
  obtain ⟨r, v, h1, h2, h3⟩ := vcR_sound hC h he
  exact .inl ⟨r, v, w, h3.1 w rfl, h1, h2, SameEnv.refl w⟩

/-! ### Maps -/

theorem ents_set {es : List (TV × TV × Nat)} {j : Nat} {e : TV × TV × Nat} {kv tv : TV} (hj : es[j]? = some e) (hk : e.1.val = kv.val) :
    ((entsOf es).modify j fun x => { key := kv.val, val := tv.val, born := x.born }) = entsOf (es.set j (e.1, tv, e.2.2)) := by
  apply List.ext_getElem?
  intro i
  rw [List.getElem?_modify]
  simp only [entsOf, List.getElem?_map, List.getElem?_set]
  by_cases h : j = i
  · subst h
    have hlt : j < es.length := (List.getElem?_eq_some_iff.1 hj).1
    rw [if_pos rfl, if_pos hlt, hj]
    simp [hk]
  · rw [if_neg h]
    simp [h]

theorem ents_erase {es : List (TV × TV × Nat)} {j : Nat} : (entsOf es).eraseIdx j = entsOf (es.eraseIdx j) := by
  simp [entsOf, ChangeMaps.map_eraseIdx]

theorem vcUpdate_sound (hC : C.Ok) {t : TypeId} {m k x : Option TV} {M X V : Value} {w : World} {K : Option TV → Heap → Prop} (hv : vcUpdate C t m k x w.heap K) (hm : Rel m M) (hk : Rel k X) (hx : Rel x V) :
    ∃ w', (Instr.mapUpdate t M X V).run C.P w = .ok () w' ∧ K none w'.heap ∧ SameEnv w w' := by
  unfold vcUpdate at hv
  split at hv
  · rename_i kt et p kv tv hd
    obtain rfl := hm _ rfl
    obtain rfl := hk _ rfl
    obtain rfl := hx _ rfl
    split at hv
    · rename_i d hkd
      split at hv
      · rename_i hlike
        obtain ⟨r, rfl, es, c, hb, hl, hv⟩ := elim_some hv
        have hb' : w.heap[r]? = some (.map (entsOf es).toArray c) := hb
        have hck := fun e => check_run hC hkd hlike e w
        refine ⟨{ w with heap := w.heap.setIfInBounds r (mapO (putE kv tv c es) (clockE kv c es)) }, ?_, hv, ⟨rfl, rfl, rfl, Nat.le_refl _⟩⟩
        rcases find_run hC hkd hlike es hl w with ⟨h1, h2, h3, _⟩ | ⟨j, e, h1, h2, h3, h4, h5, _⟩
        · have hf := h1
          have e1 : (entsOf es).toArray.push { key := kv.val, val := tv.val, born := c } = (entsOf (es ++ [(kv, tv, c)])).toArray := by
            simp [entsOf]
          have e2 : mapO (putE kv tv c es) (clockE kv c es) = .map (entsOf (es ++ [(kv, tv, c)])).toArray (c + 1) := by
            unfold clockE
            rw [h3, h2]
            rfl
          rw [e2]
          simp [Instr.mapUpdate, run_underlying (hC.d hd), TV.val, MapKept.run_getObj_map hb', hck, hf, MapKept.run_setObj_map _ hb', e1]
        · have hf := h1
          have e1 := ents_set (tv := tv) h2 h3
          have e2 : mapO (putE kv tv c es) (clockE kv c es) = .map (entsOf (es.set j (e.1, tv, e.2.2))).toArray c := by
            unfold clockE
            rw [h5, h4]
            rfl
          have hj : (entsOf es).toArray[j]? = some { key := e.1.val, val := e.2.1.val, born := e.2.2 } := by simp [entsOf, h2]
          have hks := stays_run (P := C.P) hlike w
          have hj2 : (entsOf es)[j]? = some { key := e.1.val, val := e.2.1.val, born := e.2.2 } := by simp [entsOf, h2]
          rw [e2]
          simp [Instr.mapUpdate, run_underlying (hC.d hd), TV.val, MapKept.run_getObj_map hb', hck, hf, hj2, h3, hks, MapKept.run_setObj_map _ hb', e1]
      · exact hv.elim
    · exact hv.elim
  · exact hv.elim

theorem vcDelete_sound (hC : C.Ok) {ts : Array TypeId} {ty : TypeId} {m k : Option TV} {M X : Value} {w : World} {K : Option TV → Heap → Prop} (hv : vcDelete C ts.toList m k w.heap K) (hm : Rel m M) (hk : Rel k X) :
    ∃ w', (Builtin.delete_ ts ty #[M, X]).run C.P w = .ok (.tuple #[]) w' ∧ K (some (.tup [])) w'.heap ∧ SameEnv w w' := by
  obtain ⟨ts⟩ := ts
  change vcDelete C ts m k w.heap K at hv
  unfold vcDelete at hv
  split at hv
  · rename_i t _ p kv
    obtain rfl := hm _ rfl
    obtain rfl := hk _ rfl
    split at hv
    · rename_i kt et hd
      split at hv
      · rename_i d hkd
        split at hv
        · rename_i hlike
          obtain ⟨r, rfl, es, c, hb, hl, hv⟩ := elim_some hv
          have hb' : w.heap[r]? = some (.map (entsOf es).toArray c) := hb
          have hck := fun e => check_run hC hkd hlike e w
          refine ⟨{ w with heap := w.heap.setIfInBounds r (mapO (dropE kv es) c) }, ?_, hv, ⟨rfl, rfl, rfl, Nat.le_refl _⟩⟩
          rcases find_run hC hkd hlike es hl w with ⟨h1, _, _, h4⟩ | ⟨j, e, h1, h2, _, _, _, h6⟩
          · have hf := h1
            have e2 : mapO (dropE kv es) c = .map (entsOf es).toArray c := by rw [h4]; rfl
            rw [e2]
            simp [Builtin.delete_, run_underlying (hC.d hd), TV.val, MapKept.run_getObj_map hb', hck, hf, MapKept.run_setObj_map _ hb']
          · have hf := h1
            have e1 := ents_erase (es := es) (j := j)
            have e2 : mapO (dropE kv es) c = .map (entsOf (es.eraseIdx j)).toArray c := by rw [h6]; rfl
            rw [e2]
            simp [Builtin.delete_, run_underlying (hC.d hd), TV.val, MapKept.run_getObj_map hb', hck, hf, MapKept.run_setObj_map _ hb', e1]
        · exact hv.elim
      · exact hv.elim
    · exact hv.elim
  · exact hv.elim

theorem vcNext_sound {p : Option Loc} {ty : TypeId} {w : World} {K : Option TV → Heap → Prop} (hv : vcNext p w.heap K) :
    ∃ r v w', (Instr.next (TV.ptr p).val false ty).run P w = .ok v w' ∧ K r w'.heap ∧ Rel r v ∧ SameEnv w w' := by
  obtain ⟨⟨b, o⟩, rfl, h0, bm, since, c0, seen, es, c, hr, hb, hold, hsc, hend, hstep⟩ := elim_some hv
  simp only at h0 hr hend hstep
  subst h0
  have hb' : w.heap[bm]? = some (.map (entsOf es).toArray c) := hb
  have hold' : ∀ x ∈ (entsOf es).toArray.toList, x.born < since := fun x hx => by
    simp only [entsOf] at hx
    obtain ⟨e, he, rfl⟩ := List.mem_map.1 hx
    exact hold e he
  rcases run_next_at (P := P) w ty b bm since c0 seen _ c hr hb' hold' hsc with ⟨hz, hrun⟩ | ⟨e, he, w1, hw1, hrun⟩
  · refine ⟨_, _, w, hrun, hend fun e he => ?_, .some rfl, SameEnv.refl w⟩
    have : leftOf (entsOf es).toArray seen = #[] := Array.eq_empty_of_size_eq_zero hz
    unfold leftOf at this
    rw [Array.filter_eq_empty_iff] at this
    have := this { key := e.1.val, val := e.2.1.val, born := e.2.2 } (by simp only [entsOf, List.mem_toArray]; exact List.mem_map.2 ⟨e, he, rfl⟩)
    simpa using this
  · unfold leftOf at he
    simp only [Array.toList_filter, List.mem_filter] at he
    obtain ⟨he, hs⟩ := he
    simp only [entsOf] at he
    obtain ⟨e', he', rfl⟩ := List.mem_map.1 he
    refine ⟨some (.tup [.bool true, e'.1, e'.2.1]), _, _, hrun, ?_, .some rfl, ?_⟩
    · have := hstep e' he' (by simpa using hs)
      rcases hw1 with rfl | rfl
      · exact this
      · exact this
    · rcases hw1 with rfl | rfl
      · exact ⟨rfl, rfl, rfl, Nat.le_refl _⟩
      · exact ⟨rfl, rfl, rfl, Nat.le_succ _⟩

theorem vcEntry_sound {p : Option Loc} {w : World} {K : Option TV → Prop} (hv : vcEntry p w.heap K) :
    ∃ r v, (Instr.entry (TV.ptr p).val).run P w = .ok v w ∧ K r ∧ Rel r v := by
  obtain ⟨⟨b, o⟩, rfl, h0, bm, since, seen, es, c, e, hr, hb, he, hn, hk⟩ := elim_some hv
  simp only at h0 hr
  subst h0
  have hb' : w.heap[bm]? = some (.map (entsOf es).toArray c) := hb
  refine ⟨_, _, run_entry_at (P := P) w b bm since seen (entsOf es).toArray c { key := e.1.val, val := e.2.1.val, born := e.2.2 } hr hb' ?_ ?_, hk, .some ?_⟩
  · simp only [entsOf]
    exact List.mem_map.2 ⟨e, he, rfl⟩
  · simp only [entsOf, List.map_map]
    exact hn
  · simp [TV.val, TVs.vals]

theorem isAdd64_fn {g : FuncId} (h : isAdd64 C g = true) : ∃ fn, C.P.funcs[g]? = some fn ∧ fn.body.isNone = true ∧ fn.name = "math/bits.Add64" ∧ Extern.findNext fn = none := by
  unfold isAdd64 at h
  split at h
  · rename_i fn hfn
    rw [Bool.and_eq_true, Bool.and_eq_true] at h
    exact ⟨fn, hfn, h.1, by simpa using h.2.1, by simpa using h.2.2⟩
  · cases h

theorem find_add64 {fn : Func} (h : fn.name = "math/bits.Add64") : Extern.find fn = some add64Entry := by
  unfold Extern.find
  rw [h]
  rfl

theorem vcOp_sound (hC : C.Ok) {o : Oper} {env : Env} {a : Act} {w : World} {K : Option TV → Heap → Prop} (hv : vcOp C o env.ev w.heap K) (he : EnvOk env a) : Does C.strict C.P o a w K := by
  unfold vcOp at hv
  split at hv
  · rename_i t ho
    split at hv
    · rename_i hn
      left
      refine ⟨_, _, w.alloc (row (C.ti t).z.cells t), ?_, hv, .some rfl, ⟨rfl, rfl, rfl, Nat.le_refl _⟩⟩
      simp [execOp, ho, Instr.alloc, zeroRun hC hn, newVar, newRow, TV.val_cells, TV.val, row, Loc.addr]
    · exact hv.elim
  · rename_i t x ho
    split at hv
    · rename_i tv hx
      left
      refine ⟨_, _, w.alloc (row tv.cells t), ?_, hv, .some rfl, ⟨rfl, rfl, rfl, Nat.le_refl _⟩⟩
      simp [execOp, ho, Instr.box, he.known hx, newVar, newRow, TV.val_cells, TV.val, row, Loc.addr]
    · exact hv.elim
  · rename_i t len parts ho
    split at hv
    · rename_i e hd
      split at hv
      · rename_i xs hn hb hset
        left
        refine ⟨_, _, w.alloc (row (TVs.cells xs) e), ?_, hv, .some rfl, ⟨rfl, rfl, rfl, Nat.le_refl _⟩⟩
        have hb' : ¬ (16777216 < len * (C.ti e).size) := by
          have : len * (C.ti e).size ≤ 16777216 := by simpa using hb
          omega
        obtain ⟨hs, _⟩ := notTuple_isSome hn
        have hzs := zsize hC hn
        have hfill : Instr.fill (fun i => some (i * (C.ti e).size, (C.ti e).size)) (TVs.cells (List.replicate len (C.ti e).z)).toArray (parts.map fun p => (p.1, a.eval p.2)).toList = some (TVs.cells xs).toArray :=
          setParts_fill' (sizes := List.replicate len (C.ti e).size) (fun zs i z hz hi => by
            obtain ⟨e1, e2⟩ := size_take_uniform len zs hz i z hi
            rw [e1, e2]) _ _ _ xs (by simpa using relParts_map he parts.toList) hset (by simp [hzs])
        have hcells : Builtin.zeroCells (C.ti e).z.cells.toArray len = (TVs.cells (List.replicate len (C.ti e).z)).toArray := by
          rw [← zeros_rep, ← zeroCells_eq]
        have hzl : (C.ti e).z.cells.toArray.size = (C.ti e).size := by rw [List.size_toArray, TV.cells_length, hzs]
        have hrun := run_underlying (hC.d hd)
        have hsr := sizeRun hC hs
        have hzr := zeroRun hC hn
        by_cases h0 : len * (C.ti e).size = 0
        · have hnil : TVs.cells (List.replicate len (C.ti e).z) = [] := by
            apply List.eq_nil_of_length_eq_zero
            rw [← zeros_rep, ← List.size_toArray, ← zeroCells_eq]
            simp [Builtin.zeroCells, TV.cells_length, hzs, h0]
          rw [hnil] at hfill
          simp only [Array.toList_map] at hfill
          have hr0 : (Array.map (fun _ : Nat => (default : Value)) (Array.range 0)) = #[] := by apply Array.toList_inj.1; simp
          simp [execOp, ho, Instr.buildSlice, hrun, hsr, h0, hr0, hfill, newRow, TV.val, slVal, row, Loc.addr]
        · have hz2 : ((Array.range (len * (C.ti e).size)).map fun i => (C.ti e).z.val.cells[i % (C.ti e).z.val.cells.size]!) = (TVs.cells (List.replicate len (C.ti e).z)).toArray := by
            rw [← hcells, TV.val_cells]
            unfold Builtin.zeroCells
            rw [hzl]
          simp only [Array.toList_map] at hfill
          simp [execOp, ho, Instr.buildSlice, hrun, hsr, h0, hb', hzr, hz2, hfill, newRow, TV.val, slVal, row, Loc.addr]
      · exact hv.elim
    · exact hv.elim
  · rename_i t x y ho
    split at hv
    · rename_i p tv hx hy
      split at hv
      · rename_i hs hsz hp
        obtain ⟨l, rfl, hk, hv⟩ := elim_some hv
        right; left
        have hsz' : tv.size = (C.ti t).size := by simpa using hsz
        obtain ⟨w', e1, e2, e3⟩ := storeCells_run (P := C.P) l tv.cells 0 w (by rw [TV.cells_length]; exact hk) (TV.plain_cells tv hp)
        refine ⟨w', ?_, by rw [e2]; exact hv, e3⟩
        have h1 := he.known hx
        have h2 := he.known hy
        have hne : tv.cells.length = (C.ti t).size := by rw [TV.cells_length, hsz']
        simp [execOp, ho, Instr.storeAt, h1, h2, TV.val, Instr.sureAddr, storeVar, sizeRun hC hs, TV.val_cells, hne, e1]
      · exact hv.elim
    · exact hv.elim
  · rename_i t x y ho
    split at hv
    · rename_i e k1 l k2 c hd hx hy
      split at hv
      · rename_i hn
        obtain ⟨h0, h1, h2, h3, hv⟩ := hv
        left
        refine ⟨_, _, w.alloc (row (zeros (C.ti e).z c.toNat) e), ?_, hv, .some rfl, ⟨rfl, rfl, rfl, Nat.le_refl _⟩⟩
        obtain ⟨hs, _⟩ := notTuple_isSome hn
        obtain ⟨d', hd'⟩ := Option.isSome_iff_exists.1 hs
        obtain ⟨i, hi, hsz, hby⟩ := hC.info hd'
        have e1 := he.known hx
        have e2 := he.known hy
        have hzs := zsize hC hn
        have hw1 : IntKind.i64.wrap l = l := IntWalk.i64_in _ (by omega)
        have hw2 : IntKind.i64.wrap c = c := IntWalk.i64_in _ (by omega)
        have hlow : ¬ (l < 0) := by omega
        have hlc : ¬ (c < l) := by omega
        have hc0 : ¬ (c < 0) := by omega
        have hbig : ¬ (281474976710656 < ((C.ti e).bytes : Int) * c) := by omega
        have hti := run_typeInfo (P := C.P) (w := w) hi
        have hrun := run_underlying (hC.d hd)
        have hsr := sizeRun hC hs
        have hzr := zeroRun hC hn
        have hzl : (C.ti e).z.cells.toArray.size = (C.ti e).size := by rw [List.size_toArray, TV.cells_length, hzs]
        have hz2 : ((Array.range (c.toNat * (C.ti e).size)).map fun i => (C.ti e).z.val.cells[i % (C.ti e).z.val.cells.size]!) = (zeros (C.ti e).z c.toNat).toArray := by
          rw [← zeroCells_eq, TV.val_cells]
          unfold Builtin.zeroCells
          rw [hzl]
        by_cases h00 : c.toNat * (C.ti e).size = 0
        · have hnil : zeros (C.ti e).z c.toNat = [] := by
            apply List.eq_nil_of_length_eq_zero
            rw [← List.size_toArray, ← zeroCells_eq]
            simp [Builtin.zeroCells, TV.cells_length, hzs, h00]
          have hr0 : (Array.map (fun _ : Nat => (default : Value)) (Array.range 0)) = #[] := by apply Array.toList_inj.1; simp
          simp [execOp, ho, Instr.makeSlice, e1, e2, TV.val, asInt, asIntOf, hrun, hti, hby, hw1, hw2, hlow, hlc, hc0, hbig, hsr, h00, hr0, hnil, newRow, slVal, row, Loc.addr]
        · simp [execOp, ho, Instr.makeSlice, e1, e2, TV.val, asInt, asIntOf, hrun, hti, hby, hw1, hw2, hlow, hlc, hc0, hbig, hsr, h00, hzr, hz2, newRow, slVal, row, Loc.addr]
      · exact hv.elim
    · exact hv.elim
  · rename_i t x ho
    split at hv
    · rename_i n e s hd hx
      obtain ⟨hn, hv⟩ := hv
      left
      have e1 := he.known hx
      have hrun := run_underlying (hC.d hd) (w := w)
      refine ⟨_, .pointer (s.a.map Loc.addr), w, ?_, hv, .some rfl, SameEnv.refl w⟩
      have hlt : ¬ (s.len < n) := by omega
      simp [execOp, ho, Instr.arrayAt, e1, TV.val, slVal, hrun, hlt]
    · exact hv.elim
  · rename_i c ho
    split at hv
    · rename_i hb
      left
      obtain ⟨r, v, w', e1, e2, e3, e4⟩ := vcAppendOp_sound hC (ts := c.argTypes) (ty := o.type) (vs := c.args.map a.eval) hv (by simpa using he.relL c.args.toList) w rfl
      refine ⟨r, v, w', ?_, e2, e3, e4⟩
      simp [execOp, ho, resolve, hb, invoke, builtin, e1]
    · rename_i hb
      left
      obtain ⟨r, v, w', e1, e2, e3, e4⟩ := vcCopy_sound hC (ts := c.argTypes) (ty := o.type) (vs := c.args.map a.eval) hv (by simpa using he.relL c.args.toList) w rfl
      refine ⟨r, v, w', ?_, e2, e3, e4⟩
      simp [execOp, ho, resolve, hb, invoke, builtin, e1]
    · rename_i hb
      split at hv
      · rename_i m k hmk
        have hrl := he.relL c.args.toList
        rw [hmk] at hrl
        obtain ⟨M, X, hMX, hM, hX⟩ := relL2 hrl
        obtain ⟨w', e1, e2, e3⟩ := vcDelete_sound hC (ty := o.type) hv hM hX
        left
        refine ⟨_, _, w', ?_, e2, .some rfl, e3⟩
        have hargs : c.args.map a.eval = #[M, X] := by apply Array.toList_inj.1; simpa using hMX
        simp [execOp, ho, resolve, hb, invoke, builtin, hargs, e1, TV.val, TVs.vals]
      · exact hv.elim
    · exact does_of_R hC he hv
    · rename_i f hf
      split at hv
      · rename_i g first cap args hfv hargs
        split at hv
        · rename_i hent
          right; right
          obtain ⟨fn, hfn, hbody, hname⟩ := hC.ent g hent
          refine ⟨g, TVs.vals (first ++ args ++ cap), ?_, ?_⟩
          · have e1 := he.known hfv
            have e2 := allKnown_vals _ _ _ hargs (he.relL c.args.toList)
            have e2' : c.args.map a.eval = (TVs.vals args).toArray := by apply Array.toList_inj.1; simpa using e2
            have hname' : ¬ fn.name = "runtime.NumGoroutine" := by simpa using hname
            have hb3 : ¬ fn.body = none := by intro hx; rw [hx] at hbody; cases hbody
            simp [execOp, ho, resolve, hf, e1, TV.val, Deferred.ofValue, invoke, callFunc, hfn, hname', hb3, e2', vals_append]
          · refine hv.mono fun v h' hx => ?_
            obtain ⟨tv, _, h2, h3⟩ := ex_iff _ _ hx
            exact ⟨some tv, .some h2, h3⟩
        · split at hv
          · rename_i x y z hadd hlist
            obtain ⟨fn, hfn, hb, hname, hnext⟩ := isAdd64_fn hadd
            obtain ⟨hx, hy, hz0, hz1, hk⟩ := hv
            left
            refine ⟨_, _, w, ?_, hk, .some rfl, SameEnv.refl w⟩
            have e1 := he.known hfv
            have e2 := allKnown_vals _ _ _ hargs (he.relL c.args.toList)
            have e2' : c.args.map a.eval = (TVs.vals args).toArray := by apply Array.toList_inj.1; simpa using e2
            have e3 : (TVs.vals first).toArray ++ (TVs.vals args).toArray ++ (TVs.vals cap).toArray = #[.int .u64 x, .int .u64 y, .int .u64 z] := by
              have h9 := congrArg TVs.vals hlist
              rw [vals_append, vals_append] at h9
              apply Array.toList_inj.1
              simpa [TVs.vals, TV.val] using h9
            have hnm : (fn.name == "runtime.NumGoroutine") = false := by rw [hname]; decide
            have hrun := run_callFunc_extern hfn hnm hb hnext (find_add64 hname) (#[.int .u64 x, .int .u64 y, .int .u64 z]) w
            rw [run_add64 x y z hx hy hz0 hz1 w] at hrun
            have hrun' : (callFunc g #[.int .u64 x, .int .u64 y, .int .u64 z]).run C.P w = .ok (.value (.tuple #[.int .u64 ((x + y + z) % 18446744073709551616), .int .u64 ((x + y + z) / 18446744073709551616)])) w := hrun
            simp only [execOp, ho, resolve, hf, e1, TV.val, Deferred.ofValue, invoke, e2', Sem.run_bind, Sem.run_pure, Result.andThen_ok]
            simp only [e3, hrun', TVs.vals, TV.val]
          · exact hv.elim
      · rename_i u args hfv hargs
        obtain ⟨g, first, cap, hu, hent, hc⟩ := hv
        right; right
        refine ⟨g, first.toList ++ TVs.vals args ++ cap.toList, ?_, ?_⟩
        · have e1 := he.known hfv
          have e2 := allKnown_vals _ _ _ hargs (he.relL c.args.toList)
          have e2' : c.args.map a.eval = (TVs.vals args).toArray := by apply Array.toList_inj.1; simpa using e2
          have e3 := hent (first ++ (TVs.vals args).toArray ++ cap) w
          have e4 : (first.toList ++ TVs.vals args ++ cap.toList).toArray = first ++ (TVs.vals args).toArray ++ cap := by apply Array.toList_inj.1; simp
          simp only [execOp, ho, resolve, hf, e1, TV.val, hu, Deferred.ofValue, invoke, e2', Sem.run_bind, Sem.run_pure, Result.andThen_ok]
          rw [e3, e4]
        · refine hc.mono fun v h' hx => ?_
          obtain ⟨tv, _, h2, h3⟩ := ex_iff _ _ hx
          exact ⟨some tv, .some h2, h3⟩
      · exact hv.elim
    · rename_i recv name hf
      split at hv
      · rename_i u args hfv hargs
        obtain ⟨t, x, f, rv, hu, ⟨hent, hm⟩, hc⟩ := hv
        right; right
        refine ⟨f, rv :: TVs.vals args, ?_, ?_⟩
        · have e1 := he.known hfv
          have e2 := allKnown_vals _ _ _ hargs (he.relL c.args.toList)
          have e2' : c.args.map a.eval = (TVs.vals args).toArray := by apply Array.toList_inj.1; simpa using e2
          have e3 := hent (#[rv] ++ (TVs.vals args).toArray) w
          have e4 : (rv :: TVs.vals args).toArray = #[rv] ++ (TVs.vals args).toArray := by apply Array.toList_inj.1; simp
          have e5 : (#[Value.iface t x] ++ (TVs.vals args).toArray).extract 1 (#[Value.iface t x] ++ (TVs.vals args).toArray).size = (TVs.vals args).toArray := by apply Array.toList_inj.1; simp
          have e6 := hm w rfl
          have e7 : (#[Value.iface t x] ++ (TVs.vals args).toArray)[0]? = some (Value.iface t x) := by simp
          simp only [execOp, ho, resolve, hf, e1, TV.val, hu, invoke, e2', Sem.run_bind, Sem.run_pure, Result.andThen_ok, e7, e5, callMethod, run_program, e6]
          rw [e3, e4]
        · refine hc.mono fun v h' hx => ?_
          obtain ⟨tv, _, h2, h3⟩ := ex_iff _ _ hx
          exact ⟨some tv, .some h2, h3⟩
      · exact hv.elim
  · rename_i s d x ho
    split at hv
    · rename_i e bs h1 h2 hx
      split at hv
      · rename_i hd
        left
        have hc : bs.length ≤ grownCap w bs.length 0 e := by
          simp only [grownCap, Question.cut]
          omega
        have hz : (⟨bs.toArray⟩ : ByteArray).size = bs.length := by simp [ByteArray.size]
        have hrun := run_bytes_of_string (P := C.P) w s d e ⟨bs.toArray⟩ (hC.d h1) (hC.d h2) (hC.d hd)
        have hrow : bytesRow ⟨bs.toArray⟩ (grownCap w (⟨bs.toArray⟩ : ByteArray).size 0 e) = ((bs.map fun (b : UInt8) => Value.int .u8 (b.toNat : Int)) ++ List.replicate (grownCap w bs.length 0 e - bs.length) (Value.int .u8 0)).toArray := by
          rw [hz]
          unfold bytesRow
          rw [hz]
          simp
        have hsize : (bytesRow ⟨bs.toArray⟩ (grownCap w (⟨bs.toArray⟩ : ByteArray).size 0 e)).size = grownCap w bs.length 0 e := by
          rw [hrow]
          simp
          omega
        have hk := hv _ hc
        rw [hsize, hrow, hz] at hrun
        refine ⟨some (.slice ⟨some ⟨w.heap.size, 0⟩, bs.length, grownCap w bs.length 0 e⟩), _, w.drew.alloc (strRow bs (grownCap w bs.length 0 e) e), ?_, ?_, .some rfl, ?_⟩
        · have e1 := he.known hx
          simp only [execOp, ho, e1, TV.val, Sem.run_bind, hrun, Result.andThen_ok, Sem.run_pure]
          rfl
        · exact hk
        · exact ⟨rfl, rfl, rfl, Nat.le_succ _⟩
      · exact hv.elim
    · refine does_of_R hC he ?_
      unfold vcR
      simp only [ho]
      exact hv
  · rename_i t ho
    split at hv
    · rename_i kt et hd
      left
      refine ⟨_, _, w.alloc (mapO [] 0), ?_, hv, .some rfl, ⟨rfl, rfl, rfl, Nat.le_refl _⟩⟩
      simp [execOp, ho, Instr.makeMap, TV.val, mapO]
    · exact hv.elim
  · rename_i t m k x ho
    obtain ⟨w', e1, e2, e3⟩ := vcUpdate_sound hC hv (he.rel m) (he.rel k) (he.rel x)
    right; left
    exact ⟨w', by simp [execOp, ho, e1], e2, e3⟩
  · rename_i t m k x ho
    obtain ⟨w', e1, e2, e3⟩ := vcUpdate_sound hC hv (he.rel m) (he.rel k) (he.rel x)
    right; left
    exact ⟨w', by simp [execOp, ho, e1], e2, e3⟩
  · rename_i t x ho
    split at hv
    · rename_i kt et p hd hx
      obtain ⟨r, rfl, es, c, hb, hv⟩ := elim_some hv
      left
      refine ⟨_, _, w.alloc (.mapIter (some r) c #[] c), ?_, hv, .some rfl, ⟨rfl, rfl, rfl, Nat.le_refl _⟩⟩
      have hb' : w.heap[r]? = some (.map (entsOf es).toArray c) := hb
      have e1 := he.known hx
      simp [execOp, ho, Instr.range, e1, TV.val, run_underlying (hC.d hd), MapKept.run_getObj_map hb', Loc.addr]
    · exact hv.elim
  · rename_i it ho
    split at hv
    · rename_i p hx
      obtain ⟨r, v, w', e1, e2, e3, e4⟩ := vcNext_sound (P := C.P) (ty := o.type) hv
      left
      have h1 := he.known hx
      exact ⟨r, v, w', by simp [execOp, ho, h1, e1], e2, e3, e4⟩
    · exact hv.elim
  · rename_i it ho
    split at hv
    · rename_i p hx
      obtain ⟨r, v, e1, e2, e3⟩ := vcEntry_sound (P := C.P) hv
      left
      have h1 := he.known hx
      exact ⟨r, v, w, by simp [execOp, ho, h1, e1], e2, e3, SameEnv.refl w⟩
    · exact hv.elim
  · exact does_of_R hC he hv

end
end Go.Vc
end

section
/- A region that draws its order: operations that only reckon or read are taken first; those that make, write or call wait for one another. -/
namespace Go.Vc
open Go

/-- What stood stands. -/
structure Ext (h h' : Heap) : Prop where
  size : h.size ≤ h'.size
  same : ∀ b, b < h.size → h'[b]? = h[b]?

theorem Ext.refl (h : Heap) : Ext h h := ⟨Nat.le_refl _, fun _ _ => rfl⟩
theorem Ext.trans {a b c : Heap} (h : Ext a b) (k : Ext b c) : Ext a c := ⟨Nat.le_trans h.size k.size, fun i hi => (k.same i (Nat.lt_of_lt_of_le hi h.size)).trans (h.same i hi)⟩
theorem Ext.cel {h h' : Heap} (e : Ext h h') {b o : Nat} (hb : b < h.size) : cel h' b o = cel h b o := by unfold Vc.cel; rw [e.same b hb]
theorem Ext.frz {h h' : Heap} (e : Ext h h') {b o : Nat} (hb : b < h.size) : frz h' b o = frz h b o := by unfold Vc.frz; rw [e.same b hb]
theorem Ext.push (h : Heap) (x : Obj) : Ext h (h.push x) := ⟨by simp, fun b hb => by rw [Array.getElem?_push, if_neg (by omega)]⟩

theorem cel_lt {h : Heap} {b o : Nat} {v : Value} (hc : cel h b o = some v) : b < h.size := by
  unfold cel at hc
  split at hc
  · rename_i hb
    exact (Array.getElem?_eq_some_iff.1 hb).1
  · cases hc

theorem TV.at_ext {h h' : Heap} (e : Ext h h') {b o : Nat} {t : TV} (ha : t.at h b o) : t.at h' b o := by
  rw [TV.at_iff] at ha ⊢
  intro j hj
  have h1 := ha j hj
  have hl : j < t.cells.length := by rw [TV.cells_length]; exact hj
  rw [List.getElem?_eq_getElem hl] at h1 ⊢
  rw [e.cel (cel_lt h1), h1]

/-- A block that nothing can be read from. -/
def hole : Obj := .cells #[] 0 (0, 0)

/-- What stood stands, but for the holes. -/
structure Sub (h h' : Heap) : Prop where
  same : ∀ (b : Nat) (o : Obj), h[b]? = some o → o ≠ hole → h'[b]? = some o

theorem Sub.refl (h : Heap) : Sub h h := ⟨fun _ _ h _ => h⟩
theorem Sub.trans {a b c : Heap} (h : Sub a b) (k : Sub b c) : Sub a c := ⟨fun i o ho hn => k.same i o (h.same i o ho hn) hn⟩
theorem Ext.sub {h h' : Heap} (e : Ext h h') : Sub h h' := ⟨fun b _ ho _ => (e.same b (Array.getElem?_eq_some_iff.1 ho).1).trans ho⟩
theorem Sub.cel {h h' : Heap} (e : Sub h h') {b o : Nat} {v : Value} (hc : cel h b o = some v) : cel h' b o = some v := by
  unfold Vc.cel at hc
  split at hc
  · rename_i c t f hb
    have := e.same b _ hb (by rintro h; cases h; simp at hc)
    unfold Vc.cel
    rw [this]
    exact hc
  · cases hc
theorem Sub.map {h h' : Heap} (e : Sub h h') {b : Nat} {es : List (TV × TV × Nat)} {c : Nat} (hb : h[b]? = some (mapO es c)) : h'[b]? = some (mapO es c) := e.same b _ hb (by intro h; cases h)
theorem TV.at_sub {h h' : Heap} (e : Sub h h') {b o : Nat} {t : TV} (ha : t.at h b o) : t.at h' b o := by
  rw [TV.at_iff] at ha ⊢
  intro j hj
  have h1 := ha j hj
  have hl : j < t.cells.length := by rw [TV.cells_length]; exact hj
  rw [List.getElem?_eq_getElem hl] at h1 ⊢
  exact e.cel h1

/-- What must stand: what stood before the step, or at the region's beginning, or as much of that as is given. -/
inductive Bas where
  | now
  | at (h : Heap)
  | sub (h : Heap)
def baseB (B : Bas) (h : Heap) : Heap := match B with
  | .now => h
  | .at h0 => h0
  | .sub h0 => h0
def extB (B : Bas) (h h' : Heap) : Prop := match B with
  | .now => Ext h h'
  | .at h0 => Ext h0 h'
  | .sub h0 => Sub h0 h'
theorem extB_sub {B : Bas} {h h' : Heap} (e : extB B h h') : Sub (baseB B h) h' := by
  cases B with
  | now => exact Ext.sub e
  | «at» h0 => exact Ext.sub e
  | sub h0 => exact e

section
variable {P : Program} {ops : Array Oper} {Q : Exit → Act → World → Prop} {ex : Nat → Bool} {B : Bas}

/-- Whatever order: each operation that is not excused leaves what stood. -/
def anyX (P : Program) (ops : Array Oper) (Q : Exit → Act → World → Prop) (ex : Nat → Bool) (B : Bas) : Nat → Array Bool → Act → World → Prop
  | 0, l, a, w => Region.ready .any ops l = [] ∧ Q .normal a w
  | n + 1, l, a, w => (Region.ready .any ops l = [] → Q .normal a w) ∧
    ∀ i ∈ Region.ready .any ops l, wpOp P ops Q i (fun a' w' => (ex i = true ∨ Sub (baseB B w.heap) w'.heap ∨ w'.heap = w.heap) ∧ anyX P ops Q ex B n (l.setIfInBounds i true) a' w') a w

theorem any_of_anyX : ∀ (n : Nat) (l : Array Bool) (a : Act) (w : World), anyX P ops Q ex B n l a w → wpAny P .any ops Q n l a w
  | 0, _, _, _, h => h
  | n + 1, _, _, _, h => ⟨h.1, fun i hi => wpOp_mono (fun _ _ g => any_of_anyX n _ _ _ g.2) (h.2 i hi)⟩

def waits (oj : Oper) (i : Nat) : Bool := oj.after.toList.any fun e => Region.binds .any e && Nat.beq e.on i

theorem waits_ready {oj : Oper} {i j : Nat} {l : Array Bool} (hw : waits oj i = true) (hj : ops[j]? = some oj) (hr : j ∈ Region.ready .any ops l) : l.getD i false = true := by
  obtain ⟨_, o, ho, hall⟩ := mem_ready.1 hr
  rw [hj] at ho
  injection ho with ho
  subst ho
  unfold waits at hw
  obtain ⟨e, he, hb⟩ := List.any_eq_true.1 hw
  simp only [Bool.and_eq_true] at hb
  have := hall e (by simpa using he) hb.1
  rwa [Nat.eq_of_beq_eq_true hb.2] at this

/-- What is done has all that it waits for done. -/
def Closed (ops : Array Oper) (l : Array Bool) : Prop := ∀ (i : Nat) (oi : Oper), ops[i]? = some oi → l.getD i false = true → ∀ k, waits oi k = true → l.getD k false = true

theorem getD_set {l : Array Bool} {i k : Nat} (h : l.getD k false = true) : (l.setIfInBounds i true).getD k false = true := by
  have hk : k < l.size := by
    rcases Nat.lt_or_ge k l.size with h1 | h1
    · exact h1
    · simp [Array.getElem?_eq_none h1] at h
  simp only [Array.getD_eq_getD_getElem?, Array.getElem?_setIfInBounds] at h ⊢
  split
  · split <;> simp_all
  · exact h

theorem Closed.set {l : Array Bool} {j : Nat} (hc : Closed ops l) (hr : j ∈ Region.ready .any ops l) : Closed ops (l.setIfInBounds j true) := by
  intro i oi hi hd k hk
  refine getD_set ?_
  by_cases hij : i = j
  · subst hij
    exact waits_ready hk hi hr
  · refine hc i oi hi ?_ k hk
    simp only [Array.getD_eq_getD_getElem?, Array.getElem?_setIfInBounds, if_neg (Ne.symm hij)] at hd
    simpa [Array.getD_eq_getD_getElem?] using hd

/-- What an operation waits for, itself or through others, as bits. -/
def ancOf (ms : List Nat) : List Edge → Nat
  | [] => 0
  | e :: es => match Region.binds .any e with
    | true => Nat.lor (ancOf ms es) (Nat.lor (Nat.pow 2 e.on) (ms.getD e.on 0))
    | false => ancOf ms es

def ancGo : List Oper → List Nat → List Nat
  | [], ms => ms
  | o :: os, ms => ancGo os (ms ++ [ancOf ms o.after.toList])

/-- Does i wait for k, itself or through others? -/
def waitsT (all : List Oper) (i k : Nat) : Bool := Nat.testBit ((ancGo all []).getD i 0) k

def PM (ops : Array Oper) (m : Nat) (o : Oper) : Prop := ∀ l, Closed ops l → (∀ k, waits o k = true → l.getD k false = true) → ∀ k, Nat.testBit m k = true → l.getD k false = true

theorem ancOf_sound {ops : Array Oper} {ms : List Nat} (hm : ∀ (i m : Nat), ms[i]? = some m → ∃ o, ops[i]? = some o ∧ PM ops m o) {l : Array Bool} (hc : Closed ops l) : ∀ (es : List Edge), (∀ e ∈ es, Region.binds .any e = true → l.getD e.on false = true) →
    ∀ k, Nat.testBit (ancOf ms es) k = true → l.getD k false = true
  | [], _, k, hk => by simp [ancOf] at hk
  | e :: es, h, k, hk => by
    unfold ancOf at hk
    split at hk
    · rename_i hb
      have he := h e (List.mem_cons_self ..) hb
      have hk' : (ancOf ms es ||| (2 ^ e.on ||| ms.getD e.on 0)).testBit k = true := hk
      rw [Nat.testBit_or, Nat.testBit_or, Bool.or_eq_true_iff, Bool.or_eq_true_iff] at hk'
      rcases hk' with h1 | h1 | h1
      · exact ancOf_sound hm hc es (fun e he => h e (List.mem_cons_of_mem _ he)) k h1
      · rw [Nat.testBit_two_pow] at h1
        have : e.on = k := by simpa using h1
        rw [← this]
        exact he
      · cases hx : ms[e.on]? with
        | none => simp [List.getD, hx] at h1
        | some m =>
          obtain ⟨o', ho', pm⟩ := hm _ _ hx
          simp only [List.getD, hx, Option.getD_some] at h1
          exact pm l hc (fun k hk => hc e.on o' ho' he k hk) k h1
    · exact ancOf_sound hm hc es (fun e he => h e (List.mem_cons_of_mem _ he)) k hk

theorem ancGo_sound {all : List Oper} : ∀ (os pre : List Oper) (ms : List Nat), all = pre ++ os → ms.length = pre.length → (∀ (i m : Nat), ms[i]? = some m → ∃ o, all.toArray[i]? = some o ∧ PM all.toArray m o) →
    ∀ (i m : Nat), (ancGo os ms)[i]? = some m → ∃ o, all.toArray[i]? = some o ∧ PM all.toArray m o
  | [], _, _, _, _, hm => hm
  | o :: os, pre, ms, ha, hl, hm => by
    refine ancGo_sound os (pre ++ [o]) (ms ++ [ancOf ms o.after.toList]) (by rw [ha]; simp) (by simp [hl]) fun i m hi => ?_
    rw [List.getElem?_append] at hi
    split at hi
    · exact hm i m hi
    · rename_i hlt
      have h0 : i - ms.length = 0 := by
        rcases Nat.eq_zero_or_pos (i - ms.length) with h | h
        · exact h
        · rw [List.getElem?_eq_none (by simp; omega)] at hi; cases hi
      rw [h0] at hi
      simp only [List.getElem?_cons_zero, Option.some.injEq] at hi
      subst hi
      have hi2 : i = pre.length := by omega
      refine ⟨o, by rw [ha, hi2]; simp, fun l hc hw k hk => ancOf_sound hm hc o.after.toList (fun e he hb => hw e.on ?_) k hk⟩
      unfold waits
      exact List.any_eq_true.2 ⟨e, he, by simp [hb]⟩

theorem waitsT_ready {all : List Oper} {l : Array Bool} (hc : Closed all.toArray l) {i k : Nat} (h : waitsT all i k = true) (hr : i ∈ Region.ready .any all.toArray l) : l.getD k false = true := by
  unfold waitsT at h
  cases hx : (ancGo all [])[i]? with
  | none => simp [List.getD, hx] at h
  | some m =>
    obtain ⟨o, ho, pm⟩ := ancGo_sound all [] [] rfl rfl (by simp) i m hx
    simp only [List.getD, hx, Option.getD_some] at h
    exact pm l hc (fun k hk => waits_ready hk ho hr) k h

theorem ready_getD {l : Array Bool} {i : Nat} (h : i ∈ Region.ready .any ops l) : l.getD i false = false := by
  have hiu := (mem_ready.1 h).1
  rcases Nat.lt_or_ge i l.size with h1 | h1
  · simp [h1] at hiu ⊢; exact hiu
  · simp [Array.getElem?_eq_none h1]

theorem YieldsIf.ext {oi : Oper} {v : Value} {a : Act} {h h' : Heap} (hy : YieldsIf P ops (fun w => Sub h w.heap) oi v a) (e : Sub h h') : YieldsIf P ops (fun w => Sub h' w.heap) oi v a :=
  hy.imp (fun ⟨h1, h2⟩ => ⟨h1, fun w hw => h2 w (e.trans hw)⟩) id

theorem base_step {oi : Oper} {v : Value} {a : Act} {h h' : Heap} (hy : YieldsIf P ops (fun w => Sub (baseB B h) w.heap) oi v a) (e : Sub (baseB B h) h') : YieldsIf P ops (fun w => Sub (baseB B h') w.heap) oi v a ∧ Sub (baseB B h') h' := by
  cases B with
  | now => exact ⟨YieldsIf.ext hy e, Sub.refl _⟩
  | «at» h0 => exact ⟨hy, e⟩
  | sub h0 => exact ⟨hy, e⟩

/-- An operation that may come up, and yields the same as long as what stood stands, may be taken first. -/
theorem anyX_first {i : Nat} {oi : Oper} {v : Value} (hi : ops[i]? = some oi) (hsel : Region.noSelect ops = true)
    (hQ : ∀ c a w, Q (.panic c) (a.put oi.dst v) w → Q (.panic c) a w)
    (hap : ∀ l j oj, Closed ops l → ops[j]? = some oj → j ≠ i → i ∈ Region.ready .any ops l → j ∈ Region.ready .any ops l → oi.apart ops oj = true ∧ ex j = false) :
    ∀ (n : Nat) (l : Array Bool) (a : Act) (w : World), Closed ops l → i ∈ Region.ready .any ops l → YieldsIf P ops (fun w' => Sub (baseB B w.heap) w'.heap) oi v a → Sub (baseB B w.heap) w.heap →
      anyX P ops Q ex B n (l.setIfInBounds i true) (a.put oi.dst v) w → anyX P ops Q ex B (n + 1) l a w := by
  intro n
  induction n with
  | zero =>
    intro l a w hcl hr hy hbs H
    refine ⟨fun h0 => (by rw [h0] at hr; cases hr), fun j hj => ?_⟩
    by_cases hji : j = i
    · subst hji
      exact hy.wpOp hi hbs ⟨.inr (.inr rfl), H⟩
    · have hr' := ready_mono hj hji
      rw [H.1] at hr'
      cases hr'
  | succ n ih =>
    intro l a w hcl hr hy hbs H
    refine ⟨fun h0 => (by rw [h0] at hr; cases hr), fun j hj => ?_⟩
    by_cases hji : j = i
    · subst hji
      exact hy.wpOp hi hbs ⟨.inr (.inr rfl), H⟩
    · obtain ⟨hju, oj, hoj, hall⟩ := mem_ready.1 hj
      obtain ⟨hap', hexj⟩ := hap l j oj hcl hoj hji hr hj
      have h1 := H.2 j (ready_mono hj hji)
      have h2 := wpOp_putIf hoj hap' (fun cs b => Region.noSelect_spec hsel i oi cs b hi) (fun cs b => Region.noSelect_spec hsel j oj cs b hoj) hQ hy h1
      refine wpOp_mono (fun a' w' h3 => ?_) h2
      have hS' : Sub (baseB B w.heap) w'.heap := by
        rcases h3.2.1 with h4 | h4 | h4
        · rw [hexj] at h4; cases h4
        · exact h4
        · rw [h4]; exact hbs
      refine ⟨.inr (.inl hS'), ih (l.setIfInBounds j true) a' w' (hcl.set hj) (ready_mono hr (Ne.symm hji)) (base_step h3.1 hS').1 (base_step h3.1 hS').2 ?_⟩
      rw [Array.setIfInBounds_comm _ _ hji]
      exact h3.2.2

/-- An operation that may come up, and yields the same whatever stands, may be taken first. -/
theorem anyX_first0 {i : Nat} {oi : Oper} {v : Value} (hi : ops[i]? = some oi) (hsel : Region.noSelect ops = true)
    (hQ : ∀ c a w, Q (.panic c) (a.put oi.dst v) w → Q (.panic c) a w)
    (hap : ∀ l j oj, Closed ops l → ops[j]? = some oj → j ≠ i → i ∈ Region.ready .any ops l → j ∈ Region.ready .any ops l → oi.apart ops oj = true) :
    ∀ (n : Nat) (l : Array Bool) (a : Act) (w : World), Closed ops l → i ∈ Region.ready .any ops l → YieldsIf P ops (fun _ => True) oi v a →
      anyX P ops Q ex B n (l.setIfInBounds i true) (a.put oi.dst v) w → anyX P ops Q ex B (n + 1) l a w := by
  intro n
  induction n with
  | zero =>
    intro l a w hcl hr hy H
    refine ⟨fun h0 => (by rw [h0] at hr; cases hr), fun j hj => ?_⟩
    by_cases hji : j = i
    · subst hji
      exact hy.wpOp hi trivial ⟨.inr (.inr rfl), H⟩
    · have hr' := ready_mono hj hji
      rw [H.1] at hr'
      cases hr'
  | succ n ih =>
    intro l a w hcl hr hy H
    refine ⟨fun h0 => (by rw [h0] at hr; cases hr), fun j hj => ?_⟩
    by_cases hji : j = i
    · subst hji
      exact hy.wpOp hi trivial ⟨.inr (.inr rfl), H⟩
    · obtain ⟨hju, oj, hoj, hall⟩ := mem_ready.1 hj
      have hap' := hap l j oj hcl hoj hji hr hj
      have h1 := H.2 j (ready_mono hj hji)
      have h2 := wpOp_putIf hoj hap' (fun cs b => Region.noSelect_spec hsel i oi cs b hi) (fun cs b => Region.noSelect_spec hsel j oj cs b hoj) hQ hy h1
      refine wpOp_mono (fun a' w' h3 => ?_) h2
      refine ⟨h3.2.1, ih (l.setIfInBounds j true) a' w' (hcl.set hj) (ready_mono hr (Ne.symm hji)) h3.1 ?_⟩
      rw [Array.setIfInBounds_comm _ _ hji]
      exact h3.2.2

/-! ### The order that is walked -/

/-- 0: reckons; 1: a load; 2: makes, writes, calls, or is not known here. -/
def kindOf (C : Ctx) (o : Oper) : Nat :=
  match o.op with
  | .move _ | .assign _ | .pick _ _ _ | .build _ _ | .nilCheck _ | .binOp _ _ _ _ _ | .unOp _ _ _ | .fieldAddr _ _ _ | .field _ _ _ | .indexAddr _ _ _ | .index _ _ _ | .extract _ _ | .slice _ _ _ _ _ | .makeFunc _ _ _ | .makeInterface _ _ | .typeAssert _ _ _ _ => 0
  | .load _ _ => 1
  | .lookup _ _ _ _ => 1
  | .convert s d _ => match (C.ti s).d, (C.ti d).d with
    | some .string, some (.slice _) => 2
    | _, _ => 0
  | .call c => match c.callee with
    | .builtin .len => match c.argTypes.toList with
      | [t] => match (C.ti t).d with
        | some (.map _ _) => 1
        | _ => 0
      | _ => 0
    | .builtin .min | .builtin .max | .builtin .cap => 0
    | _ => 2
  | _ => 2

/-- Whether an operation hangs on what the region itself has made. -/
def lateAt (C : Ctx) (all : List Oper) : Nat → Nat → Bool
  | 0, _ => true
  | n + 1, i => match all[i]? with
    | some o => o.after.toList.any fun e => match e.ground, all[e.on]? with
      | .data, some oe => match kindOf C oe with
        | 2 => true
        | _ => lateAt C all n e.on
      | _, _ => false
    | none => true

/-- Taken first as soon as it may come up. -/
def early (C : Ctx) (all : List Oper) (i : Nat) : Bool :=
  match all[i]? with
  | some o => match kindOf C o with
    | 0 => true
    | 1 => !lateAt C all 40 i
    | _ => false
  | none => false

/-- Taken first, and it looks at memory. -/
def reads (C : Ctx) (all : List Oper) (i : Nat) : Bool :=
  match all[i]? with
  | some o => match isLoad o.op with
    | true => early C all i
    | false => false
  | none => false

/-- Excused: whatever looks at memory and is taken early waits for this, or this for it. -/
def exB (C : Ctx) (all : List Oper) (j : Nat) : Bool :=
  (List.range all.length).all fun i => match Nat.beq i j with
    | true => true
    | false => match reads C all i with
      | true => waitsT all j i || waitsT all i j
      | false => true

def apartB (all : List Oper) : Bool :=
  (List.range all.length).all fun i => (List.range all.length).all fun j => match Nat.beq i j with
    | true => true
    | false => match all[i]?, all[j]? with
      | some oi, some oj => waits oj i || (waits oi j || (oi.apart all.toArray oj || (waitsT all j i || waitsT all i j)))
      | _, _ => false

def readyL (all : List Oper) (l : List Bool) : List Nat := Region.ready .any all.toArray l.toArray

def firstEarly (C : Ctx) (all : List Oper) : List Nat → Option Nat
  | [] => none
  | i :: is => match early C all i with
    | true => some i
    | false => firstEarly C all is

end

section
variable {C : Ctx}

theorem early_stable (hC : C.Ok) {o : Oper} {env : Env} {a : Act} {h0 : Heap} {K : Option TV → Prop} (hv : vcR C o env.ev h0 K) (he : EnvOk env a) :
    ∃ r v, K r ∧ Rel r v ∧ ∀ w : World, Sub h0 w.heap → (execOp a.eval o).run C.P w = .ok (.value v) w := by
  cases hl : isLoad o.op with
  | false =>
    obtain ⟨r, v, h1, h2, h3⟩ := vcR_sound hC hv he
    exact ⟨r, v, h1, h2, fun w _ => h3.2 hl w⟩
  | true =>
    cases ho : o.op with
    | load t x =>
      unfold vcR at hv
      rw [ho] at hv
      dsimp only at hv
      split at hv
      · rename_i p hx
        obtain ⟨l, rfl, hv⟩ := elim_some hv
        unfold vcLoad at hv
        split at hv
        · rename_i hn
          obtain ⟨tv, hs, ha, hk⟩ := ex_iff _ _ hv
          refine ⟨some tv, tv.val, hk, .some rfl, fun w hw => ?_⟩
          have h1 := load_run hC hn hs (TV.at_sub hw ha)
          have h2 := he.known hx
          simp [execOp, ho, h2, TV.val, h1]
        · exact hv.elim
      · exact hv.elim
    | convert s d x =>
      unfold vcR at hv
      rw [ho] at hv
      dsimp only at hv
      obtain ⟨r, v, h1, h2, h3⟩ := vcConv_sound hC hv (he.rel x)
      exact ⟨r, v, h1, h2, fun w hw => by simp [execOp, ho, h3 w (fun b o v hb => hw.cel hb)]⟩
    | lookup t m k ok =>
      unfold vcR at hv
      rw [ho] at hv
      dsimp only at hv
      obtain ⟨r, v, h1, h2, h3⟩ := vcLookup_sound hC hv (he.rel m) (he.rel k)
      exact ⟨r, v, h1, h2, fun w hw => by simp [execOp, ho, h3 w (fun b es c hb => hw.map hb)]⟩
    | call c =>
      unfold vcR at hv
      rw [ho] at hv
      dsimp only at hv
      split at hv
      · rename_i b hb
        obtain ⟨r, v, h1, h2, h3⟩ := vcCallR_sound hC (ty := o.type) (vs := c.args.map a.eval) hv (by simpa using he.relL c.args.toList)
        refine ⟨r, v, h1, h2, fun w hw => ?_⟩
        have := fun cs => h3 cs w (fun b es c hb => hw.map hb)
        simp [execOp, ho, resolve, hb, invoke, this]
      · exact hv.elim
    | _ => rw [ho] at hl; cases hl

end
end Go.Vc
end

section
/- Conditions for whole bodies: regions in the order of the text, branches, joins, loops, results. -/
namespace Go.Vc
open Go

/-! ### Slots that a piece of code writes -/

def bit (d : Nat) : Nat := Nat.shiftLeft 1 d

def maskOps : List Oper → Nat
  | [] => 0
  | o :: os => match o.dst with
    | some d => Nat.lor (bit d) (maskOps os)
    | none => maskOps os

def maskCode : Code → Nat
  | .region _ ops _ => maskOps ops.toList
  | .seq a b => Nat.lor (maskCode a) (maskCode b)
  | .cond _ a b => Nat.lor (maskCode a) (maskCode b)
  | .block _ c => maskCode c
  | .loop c => maskCode c
  | _ => 0

structure Keep (m : Nat) (env env' : Env) : Prop where
  len : env'.length = env.length
  slot : ∀ i, m.testBit i = false → env'[i]? = env[i]?

theorem Keep.refl (m : Nat) (env : Env) : Keep m env env := ⟨rfl, fun _ _ => rfl⟩
theorem Keep.trans {m : Nat} {a b c : Env} (h : Keep m a b) (k : Keep m b c) : Keep m a c := ⟨k.len.trans h.len, fun i hi => (k.slot i hi).trans (h.slot i hi)⟩
theorem Keep.mono {m n : Nat} {a b : Env} (h : Keep m a b) (hs : ∀ i, n.testBit i = false → m.testBit i = false) : Keep n a b := ⟨h.len, fun i hi => h.slot i (hs i hi)⟩

theorem lor_left {m n : Nat} : ∀ i, (Nat.lor m n).testBit i = false → m.testBit i = false := fun i h => by
  have : (m ||| n).testBit i = false := h
  rw [Nat.testBit_or] at this
  simp only [Bool.or_eq_false_iff] at this
  exact this.1
theorem lor_right {m n : Nat} : ∀ i, (Nat.lor m n).testBit i = false → n.testBit i = false := fun i h => by
  have : (m ||| n).testBit i = false := h
  rw [Nat.testBit_or] at this
  simp only [Bool.or_eq_false_iff] at this
  exact this.2

theorem bit_ne {d i : Nat} (h : (bit d).testBit i = false) : d ≠ i := by
  rintro rfl
  have : (1 <<< d).testBit d = false := h
  simp at this

theorem keep_put (o : Option Tmp) (env : Env) (r : Option TV) {m : Nat} (hm : ∀ d, o = some d → ∀ i, m.testBit i = false → d ≠ i) : Keep m env (env.put o r) := by
  cases o with
  | none => exact Keep.refl _ _
  | some d =>
    refine ⟨by simp [Env.put], fun i hi => ?_⟩
    simp only [Env.put]
    rw [List.getElem?_set_ne (hm d rfl i hi)]

/-! ### A region in the order of the text -/

/-- One of two, by a test. -/
def If (b : Bool) (p q : Prop) : Prop := match b with
  | true => p
  | false => q

theorem If.split {b : Bool} {p q : Prop} (h1 : b = true → p) (h2 : b = false → q) : If b p q := by
  cases b
  · exact h2 rfl
  · exact h1 rfl

theorem If.iff {b : Bool} {p q : Prop} : If b p q ↔ (b = true → p) ∧ (b = false → q) := by
  cases b <;> simp [If]

theorem If.dec {c p q : Prop} [Decidable c] : If (decide c) p q ↔ (c → p) ∧ (¬ c → q) := by
  rw [If.iff]; simp

def wantedTV (all : List Oper) (o : Oper) (env : Env) : Option Bool :=
  match o.guard with
  | none => some true
  | some (j, want) => match all[j]? with
    | some oj => match oj.dst with
      | some d => match env.getD d none with
        | some (.bool true) => some want
        | some (.bool false) => some (!want)
        | some (.tup []) => some false
        | _ => none
      | none => none
    | none => none

def isGuard (i : Nat) : List Oper → Bool
  | [] => false
  | o :: os => match o.guard with
    | some (j, _) => match Nat.beq j i with
      | true => true
      | false => isGuard i os
    | none => isGuard i os

def splitG (used : Bool) (r : Option TV) (K : Option TV → Prop) : Prop :=
  match used, r with
  | true, some (.bool b) => If b (K (some (.bool true))) (K (some (.bool false)))
  | _, r => K r

def vcOps (C : Ctx) (all : List Oper) : List Oper → Nat → Env → Heap → (Env → Heap → Prop) → Prop
  | [], _, env, h, Q => Q env h
  | o :: rest, i, env, h, Q => match wantedTV all o env with
    | some true => vcOp C o env.ev h fun r h' => splitG (isGuard i rest) r fun r' => vcOps C all rest (i + 1) (env.put o.dst r') h' Q
    | some false => vcOps C all rest (i + 1) (env.put o.dst (some (.tup []))) h Q
    | none => False

section
variable {P : Program} {C : Ctx}

theorem splitG_sound {used : Bool} {r : Option TV} {K : Option TV → Prop} (h : splitG used r K) {v : Value} (hr : Rel r v) : ∃ r', Rel r' v ∧ K r' := by
  unfold splitG at h
  split at h
  · rename_i b
    obtain rfl := hr _ rfl
    cases b
    · exact ⟨_, .some rfl, h⟩
    · exact ⟨_, .some rfl, h⟩
  · exact ⟨r, hr, h⟩

theorem wanted_sound {all : List Oper} {o : Oper} {env : Env} {a : Act} (he : EnvOk env a) {b : Bool} (h : wantedTV all o env = some b) : Region.wanted o (yielded all.toArray a.tmps) = b := by
  unfold wantedTV at h
  unfold Region.wanted
  split at h
  · rename_i hg
    rw [hg]
    exact Option.some.inj h
  · rename_i j want hg
    rw [hg]
    dsimp only
    split at h
    · rename_i oj hj
      split at h
      · rename_i d hd
        have hslot : ∀ tv, env.getD d none = some tv → a.tmps[d]? = some tv.val := fun tv htv => by
          refine he.slot d tv ?_
          rw [List.getD_eq_getElem?_getD] at htv
          cases hh : env[d]? with
          | none => rw [hh] at htv; cases htv
          | some y => rw [hh] at htv; simp at htv; rw [htv]
        have hy : yielded all.toArray a.tmps j = match a.tmps[d]? with | some (.bool b) => some b | _ => none := by
          unfold yielded
          have : all.toArray[j]? = some oj := by simpa using hj
          rw [this]
          simp only [Option.bind_some, hd]
          cases a.tmps[d]? with
          | none => rfl
          | some v => cases v <;> rfl
        rw [hy]
        split at h
        · rename_i hv
          rw [hslot _ hv]
          obtain rfl := Option.some.inj h
          cases want <;> rfl
        · rename_i hv
          rw [hslot _ hv]
          obtain rfl := Option.some.inj h
          cases want <;> rfl
        · rename_i hv
          rw [hslot _ hv]
          obtain rfl := Option.some.inj h
          cases want <;> rfl
        · cases h
      · cases h
    · cases h

theorem vcOps_sound (hC : C.Ok) {all : List Oper} {QQ : Exit → Act → World → Prop} {env0 : Env} {w0 : World} {m : Nat} {Q : Env → Heap → Prop}
    (hQ : ∀ env a w, EnvOk env a → EnvS C.strict w0 w → Keep m env0 env → Q env w.heap → QQ .normal a w) :
    ∀ (rest : List Oper) (i : Nat) (env : Env) (a : Act) (w : World), vcOps C all rest i env w.heap Q → EnvOk env a → EnvS C.strict w0 w → Keep m env0 env → (∀ j, m.testBit j = false → (maskOps rest).testBit j = false) →
      wpList C.P all.toArray QQ rest a w
  | [], i, env, a, w, hv, he, hs, hk, _ => hQ env a w he hs hk hv
  | o :: rest, i, env, a, w, hv, he, hs, hk, hm => by
    have hm' : ∀ j, m.testBit j = false → (maskOps rest).testBit j = false := fun j hj => by
      have := hm j hj
      unfold maskOps at this
      split at this
      · exact lor_right j this
      · exact this
    have hd : ∀ d, o.dst = some d → ∀ j, m.testBit j = false → d ≠ j := fun d hdd j hj => by
      have := hm j hj
      unfold maskOps at this
      rw [hdd] at this
      exact bit_ne (lor_left j this)
    simp only [vcOps] at hv
    unfold wpList
    split at hv
    · rename_i hw
      rw [if_pos (wanted_sound he hw)]
      refine .inl ((vcOp_sound hC hv he).wp fun r v w' hr hrel hsame => ?_)
      obtain ⟨r', hrel', hr'⟩ := splitG_sound hr hrel
      exact vcOps_sound hC hQ rest (i + 1) _ _ w' hr' (he.put o.dst hrel') (hs.trans hsame) (hk.trans (keep_put o.dst env r' hd)) hm'
    · rename_i hw
      rw [if_neg (by rw [wanted_sound he hw]; simp)]
      exact vcOps_sound hC hQ rest (i + 1) _ _ w hv (he.put o.dst (.some rfl)) hs (hk.trans (keep_put o.dst env _ hd)) hm'
    · exact hv.elim

end

def conj : List Nat → (Nat → Prop) → Prop
  | [], _ => True
  | x :: xs, f => match xs with
    | [] => f x
    | _ :: _ => f x ∧ conj xs f

theorem conj_mem {f : Nat → Prop} : ∀ {l : List Nat}, conj l f → ∀ x ∈ l, f x
  | [], _, x, hx => by cases hx
  | y :: ys, h, x, hx => by
    unfold conj at h
    split at h
    · simp only [List.mem_singleton] at hx
      rw [hx]; exact h
    · rcases List.mem_cons.1 hx with rfl | hx
      · exact h.1
      · exact conj_mem h.2 x hx

/-- A region in which a store may come ahead of something that is read: what is read early is read at the beginning, and has to stand until the end. -/
def isStore (o : Op) : Bool := match o with
  | .store _ _ _ => true
  | .insert _ _ _ _ => true
  | _ => false

def storeEx (C : Ctx) (all : List Oper) : List Oper → Nat → Bool
  | [], _ => false
  | o :: os, j => match isStore o.op with
    | true => match exB C all j with
      | true => storeEx C all os (j + 1)
      | false => true
    | false => storeEx C all os (j + 1)

def baseOf (C : Ctx) (all : List Oper) (h : Heap) : Bas := match storeEx C all all 0 with
  | true => .at h
  | false => .now

theorem baseOf_base (C : Ctx) (all : List Oper) (h : Heap) : baseB (baseOf C all h) h = h := by
  unfold baseOf
  split <;> rfl

/-- Does a region read early, and do what may change things? -/
def looseR (C : Ctx) (all : List Oper) : Bool := match C.loose with
  | false => false
  | true => match (List.range all.length).any fun i => reads C all i with
    | false => false
    | true => (List.range all.length).any fun j => match all[j]? with
      | some o => match kindOf C o with
        | 2 => !exB C all j
        | _ => false
      | none => false

/-- What has to stand in a region. -/
def withBase (C : Ctx) (all : List Oper) (h : Heap) (K : Bas → Prop) : Prop := match looseR C all with
  | true => ∃ h0 : Heap, Sub h0 h ∧ K (.sub h0)
  | false => K (baseOf C all h)

theorem withBase_out {C : Ctx} {all : List Oper} {h : Heap} {K : Bas → Prop} (hv : withBase C all h K) : ∃ B, Sub (baseB B h) h ∧ K B := by
  unfold withBase at hv
  split at hv
  · obtain ⟨h0, e, k⟩ := hv
    exact ⟨.sub h0, e, k⟩
  · exact ⟨_, by rw [baseOf_base]; exact Sub.refl _, hv⟩

/-- Where an early operation looks. -/
def heapAt (B : Bas) (h : Heap) (o : Oper) : Heap := match B with
  | .now => h
  | .at h0 => match isLoad o.op with
    | true => h0
    | false => h
  | .sub h0 => match isLoad o.op with
    | true => h0
    | false => h

theorem heapAt_load {B : Bas} {h : Heap} {o : Oper} (hl : isLoad o.op = true) : heapAt B h o = baseB B h := by
  cases B with
  | now => rfl
  | «at» h0 => unfold heapAt; rw [hl]; rfl
  | sub h0 => unfold heapAt; rw [hl]; rfl

theorem heapAt_not {B : Bas} {h : Heap} {o : Oper} (hl : isLoad o.op = false) : heapAt B h o = h := by
  cases B with
  | now => rfl
  | «at» h0 => unfold heapAt; rw [hl]
  | sub h0 => unfold heapAt; rw [hl]

theorem extB_base {B : Bas} {h h' : Heap} (e : extB B h h') : Sub (baseB B h') h' := by
  cases B with
  | now => exact Sub.refl _
  | «at» h0 => exact Ext.sub e
  | sub h0 => exact e

/-- What was read at the beginning may be read then alone. -/
def okLoad (B : Bas) (mv : Bool) (o : Oper) : Bool := match B with
  | .now => true
  | .at _ => match mv with
    | false => true
    | true => !isLoad o.op
  | .sub _ => match mv with
    | false => true
    | true => !isLoad o.op

/-- Is something still to be read early? -/
def moreReads (C : Ctx) (all : List Oper) (l : List Bool) : Bool := (List.range all.length).any fun i => match reads C all i with
  | true => !l.getD i false
  | false => false

/-- Excused now: where part of what stood is given, and something is still to be read there, nothing is. -/
def exNow (C : Ctx) (all : List Oper) (B : Bas) (l : List Bool) (r : Nat) : Bool := match B with
  | .now => exB C all r
  | .at _ => exB C all r
  | .sub _ => match exB C all r with
    | false => false
    | true => !moreReads C all l

theorem exNow_ex {C : Ctx} {all : List Oper} {B : Bas} {l : List Bool} {r : Nat} (h : exNow C all B l r = true) : exB C all r = true := by
  unfold exNow at h
  split at h
  · exact h
  · exact h
  · split at h
    · cases h
    · assumption

/-- A region whose order is drawn. -/
def drawGo (C : Ctx) (all : List Oper) (B : Bas) : Nat → Bool → List Bool → Env → Heap → (Env → Heap → Prop) → Prop
  | 0, _, l, env, h, Q => match readyL all l with
    | [] => Q env h
    | _ :: _ => False
  | n + 1, mv, l, env, h, Q => match readyL all l with
    | [] => Q env h
    | r :: rs => match firstEarly C all (r :: rs) with
      | some i => match all[i]? with
        | some o => match okLoad B mv o with
          | true => match wantedTV all o env with
            | some true => vcR C o env.ev (heapAt B h o) fun r => splitG (isGuard i all) r fun r' => drawGo C all B n mv (l.set i true) (env.put o.dst r') h Q
            | some false => drawGo C all B n mv (l.set i true) (env.put o.dst (some (.tup []))) h Q
            | none => False
          | false => False
        | none => False
      | none => conj (r :: rs) fun r => match all[r]? with
        | some o => match wantedTV all o env with
          | some true => match exNow C all B l r with
            | true => vcOp C o env.ev h fun x h' => splitG (isGuard r all) x fun x' => drawGo C all B n true (l.set r true) (env.put o.dst x') h' Q
            | false => vcOp C o env.ev h fun x h' => extB B h h' ∧ splitG (isGuard r all) x fun x' => drawGo C all B n mv (l.set r true) (env.put o.dst x') h' Q
          | some false => drawGo C all B n mv (l.set r true) (env.put o.dst (some (.tup []))) h Q
          | none => False
        | none => False

section
variable {C : Ctx}

def noneB (all : List Oper) : List Bool := all.map fun _ => false

theorem firstEarly_mem {C : Ctx} {all : List Oper} : ∀ (l : List Nat) (i : Nat), firstEarly C all l = some i → i ∈ l ∧ early C all i = true
  | [], i, h => by cases h
  | x :: xs, i, h => by
    unfold firstEarly at h
    split at h
    · rename_i hx
      injection h with h
      subst h
      exact ⟨by simp, hx⟩
    · obtain ⟨h1, h2⟩ := firstEarly_mem xs i h
      exact ⟨by simp [h1], h2⟩

theorem early_apart {C : Ctx} {all : List Oper} (h : apartB all = true) {i : Nat} {oi : Oper} (he : early C all i = true) (hi : all[i]? = some oi) (l : Array Bool) (j : Nat) (oj : Oper) (hc : Closed all.toArray l)
    (hj : all.toArray[j]? = some oj) (hne : j ≠ i) (hri : i ∈ Region.ready .any all.toArray l) (hrj : j ∈ Region.ready .any all.toArray l) :
    oi.apart all.toArray oj = true ∧ (isLoad oi.op = true → exB C all j = false) := by
  have hj0 : all[j]? = some oj := by simpa using hj
  have hb : Nat.beq i j = false := by
    cases hh : Nat.beq i j with
    | false => rfl
    | true => exact absurd (Nat.eq_of_beq_eq_true hh).symm hne
  have di := ready_getD hri
  have dj := ready_getD hrj
  have n1 : waitsT all j i = false := by
    cases hw : waitsT all j i with
    | false => rfl
    | true => rw [waitsT_ready hc hw hrj] at di; cases di
  have n2 : waitsT all i j = false := by
    cases hw : waitsT all i j with
    | false => rfl
    | true => rw [waitsT_ready hc hw hri] at dj; cases dj
  have n3 : waits oj i = false := by
    cases hw : waits oj i with
    | false => rfl
    | true => rw [waits_ready hw hj hrj] at di; cases di
  have n4 : waits oi j = false := by
    cases hw : waits oi j with
    | false => rfl
    | true => rw [waits_ready hw (by simpa using hi) hri] at dj; cases dj
  refine ⟨?_, ?_⟩
  · unfold apartB at h
    have h1 := List.all_eq_true.1 (List.all_eq_true.1 h i (List.mem_range.2 (List.getElem?_eq_some_iff.1 hi).1)) j (List.mem_range.2 (List.getElem?_eq_some_iff.1 hj0).1)
    rw [hb, hi, hj0] at h1
    simpa [n1, n2, n3, n4] using h1
  · intro hld
    cases hx : exB C all j with
    | false => rfl
    | true =>
      unfold exB at hx
      have h1 := List.all_eq_true.1 hx i (List.mem_range.2 (List.getElem?_eq_some_iff.1 hi).1)
      have hrd : reads C all i = true := by
        unfold reads
        rw [hi]
        dsimp only
        rw [hld]
        exact he
      rw [hb, hrd, n1, n2] at h1
      cases h1

theorem mask_mem {m : Nat} : ∀ (all : List Oper), (∀ j, m.testBit j = false → (maskOps all).testBit j = false) → ∀ o ∈ all, ∀ d, o.dst = some d → ∀ j, m.testBit j = false → d ≠ j
  | [], _, o, ho, _, _, _, _ => by cases ho
  | x :: xs, hm, o, ho, d, hd, j, hj => by
    have h1 := hm j hj
    unfold maskOps at h1
    rcases List.mem_cons.1 ho with rfl | ho
    · rw [hd] at h1
      exact bit_ne (lor_left j h1)
    · refine mask_mem xs (fun j hj => ?_) o ho d hd j hj
      have h2 := hm j hj
      unfold maskOps at h2
      split at h2
      · exact lor_right j h2
      · exact h2

theorem set_toArray (l : List Bool) (i : Nat) : (l.set i true).toArray = l.toArray.setIfInBounds i true := by
  apply Array.toList_inj.1
  simp

theorem ok_base {B : Bas} {mv : Bool} {o : Oper} {h : Heap} (hk : okLoad B mv o = true) (hl : isLoad o.op = true) (hm : mv = false → Sub (baseB B h) h) : Sub (baseB B h) h := by
  cases B with
  | now => exact Sub.refl _
  | «at» h0 =>
    cases mv with
    | false => exact hm rfl
    | true =>
      unfold okLoad at hk
      dsimp only at hk
      rw [hl] at hk
      cases hk
  | sub h0 =>
    cases mv with
    | false => exact hm rfl
    | true =>
      unfold okLoad at hk
      dsimp only at hk
      rw [hl] at hk
      cases hk

theorem drawGo_sound (hC : C.Ok) {all : List Oper} (hap : apartB all = true) (hsel : Region.noSelect all.toArray = true) {QQ : Exit → Act → World → Prop} {env0 : Env} {w0 : World} {m : Nat} {Q : Env → Heap → Prop} {B : Bas}
    (hm : ∀ j, m.testBit j = false → (maskOps all).testBit j = false) (hp : ∀ c a w, ¬ QQ (.panic c) a w)
    (hQ : ∀ env a w, EnvOk env a → EnvS C.strict w0 w → Keep m env0 env → Q env w.heap → QQ .normal a w) :
    ∀ (n : Nat) (mv : Bool) (l : List Bool) (env : Env) (a : Act) (w : World), drawGo C all B n mv l env w.heap Q → (mv = false → Sub (baseB B w.heap) w.heap) → EnvOk env a → EnvS C.strict w0 w → Keep m env0 env → Closed all.toArray l.toArray →
      anyX C.P all.toArray QQ (exB C all) B n l.toArray a w
  | 0, mv, l, env, a, w, hv, hmv, he, hs, hk, _ => by
    simp only [drawGo] at hv
    split at hv
    · rename_i hr
      exact ⟨hr, hQ env a w he hs hk hv⟩
    · exact hv.elim
  | n + 1, mv, l, env, a, w, hv, hmv, he, hs, hk, hcl => by
    simp only [drawGo] at hv
    split at hv
    · rename_i hr
      have hr' : Region.ready .any all.toArray l.toArray = [] := hr
      exact ⟨fun _ => hQ env a w he hs hk hv, by rw [hr']; simp⟩
    · rename_i r rs hr
      have hr' : Region.ready .any all.toArray l.toArray = r :: rs := hr
      split at hv
      · rename_i i hfe
        obtain ⟨hmem, hearly⟩ := firstEarly_mem _ _ hfe
        split at hv
        · rename_i o hi
          have hi' : all.toArray[i]? = some o := by simpa using hi
          have ho : o ∈ all := List.mem_of_getElem? hi
          have hkd := mask_mem all hm o ho
          have hri : i ∈ Region.ready .any all.toArray l.toArray := by rw [hr']; exact hmem
          have step : ∀ (v : Value) (env' : Env), ((isLoad o.op = true → YieldsIf C.P all.toArray (fun w' => Sub (baseB B w.heap) w'.heap) o v a ∧ Sub (baseB B w.heap) w.heap) ∧ (isLoad o.op = false → YieldsIf C.P all.toArray (fun _ => True) o v a)) → drawGo C all B n mv (l.set i true) env' w.heap Q → EnvOk env' (a.put o.dst v) → Keep m env0 env' →
              anyX C.P all.toArray QQ (exB C all) B (n + 1) l.toArray a w := by
            intro v env' hy hd he' hk'
            have ih := drawGo_sound hC hap hsel hm hp hQ n mv (l.set i true) env' (a.put o.dst v) w hd hmv he' hs hk' (by rw [set_toArray]; exact hcl.set hri)
            rw [set_toArray] at ih
            cases hld : isLoad o.op with
            | true =>
              exact anyX_first hi' hsel (fun c a w h => absurd h (hp c _ w))
                (fun l j oj hc hj hne hri hrj => (early_apart hap hearly hi l j oj hc hj hne hri hrj).imp id (fun h => h hld)) n l.toArray a w hcl hri (hy.1 hld).1 (hy.1 hld).2 ih
            | false =>
              exact anyX_first0 hi' hsel (fun c a w h => absurd h (hp c _ w))
                (fun l j oj hc hj hne hri hrj => (early_apart hap hearly hi l j oj hc hj hne hri hrj).1) n l.toArray a w hcl hri (hy.2 hld) ih
          split at hv
          rotate_left
          · exact hv.elim
          rename_i hokl
          split at hv
          · rename_i hw
            cases hld : isLoad o.op with
            | true =>
              have hbw := ok_base hokl hld hmv
              rw [heapAt_load hld] at hv
              obtain ⟨x, v, h1, h2, h3⟩ := early_stable hC hv he
              obtain ⟨x', hrel', hx'⟩ := splitG_sound h1 h2
              exact step v _ ⟨fun _ => ⟨.inl ⟨wanted_sound he hw, fun w' hw' => h3 w' hw'⟩, hbw⟩, fun hf => (by rw [hld] at hf; cases hf)⟩ hx' (he.put o.dst hrel') (hk.trans (keep_put o.dst env x' hkd))
            | false =>
              rw [heapAt_not hld] at hv
              obtain ⟨x, v, h1, h2, h3⟩ := vcR_sound hC hv he
              obtain ⟨x', hrel', hx'⟩ := splitG_sound h1 h2
              exact step v _ ⟨fun hf => (by rw [hld] at hf; cases hf), fun _ => .inl ⟨wanted_sound he hw, fun w' _ => h3.2 hld w'⟩⟩ hx' (he.put o.dst hrel') (hk.trans (keep_put o.dst env x' hkd))
          · rename_i hw
            exact step undef _ ⟨fun hld => ⟨.inr ⟨wanted_sound he hw, rfl⟩, ok_base hokl hld hmv⟩, fun _ => .inr ⟨wanted_sound he hw, rfl⟩⟩ hv (he.put o.dst (.some rfl)) (hk.trans (keep_put o.dst env _ hkd))
          · exact hv.elim
        · exact hv.elim
      · refine ⟨fun h0 => (by rw [hr'] at h0; cases h0), fun j hj => ?_⟩
        have hcl' := hcl.set hj
        have hv := conj_mem hv j (by rw [← hr']; exact hj)
        split at hv
        · rename_i o hi
          have hi' : all.toArray[j]? = some o := by simpa using hi
          have ho : o ∈ all := List.mem_of_getElem? hi
          have hkd := mask_mem all hm o ho
          unfold wpOp
          rw [hi']
          dsimp only
          split at hv
          · rename_i hw
            rw [if_pos (wanted_sound he hw)]
            split at hv
            · rename_i hx
              refine .inl ((vcOp_sound hC hv he).wp fun x v w' hxx hrel hsame => ?_)
              obtain ⟨x', hrel', hx'⟩ := splitG_sound hxx hrel
              have ih := drawGo_sound hC hap hsel hm hp hQ n true (l.set j true) _ _ w' hx' (fun h => by cases h) (he.put o.dst hrel') (hs.trans hsame) (hk.trans (keep_put o.dst env x' hkd)) (by rw [set_toArray]; exact hcl')
              rw [set_toArray] at ih
              exact ⟨.inl (exNow_ex hx), ih⟩
            · refine .inl ((vcOp_sound hC hv he).wp fun x v w' hxx hrel hsame => ?_)
              obtain ⟨hext, hxx⟩ := hxx
              obtain ⟨x', hrel', hx'⟩ := splitG_sound hxx hrel
              have ih := drawGo_sound hC hap hsel hm hp hQ n mv (l.set j true) _ _ w' hx' (fun _ => extB_base hext) (he.put o.dst hrel') (hs.trans hsame) (hk.trans (keep_put o.dst env x' hkd)) (by rw [set_toArray]; exact hcl')
              rw [set_toArray] at ih
              exact ⟨.inr (.inl (extB_sub hext)), ih⟩
          · rename_i hw
            rw [if_neg (by rw [wanted_sound he hw]; simp)]
            have ih := drawGo_sound hC hap hsel hm hp hQ n mv (l.set j true) _ _ w hv hmv (he.put o.dst (.some rfl)) hs (hk.trans (keep_put o.dst env _ hkd)) (by rw [set_toArray]; exact hcl')
            rw [set_toArray] at ih
            exact ⟨.inr (.inr rfl), ih⟩
          · exact hv.elim
        · exact hv.elim

theorem closed_none (all : List Oper) : Closed all.toArray (noneB all).toArray := by
  intro i oi hi hd k hk
  have : (noneB all)[i]? = some false ∨ (noneB all)[i]? = none := by
    unfold noneB
    rw [List.getElem?_map]
    cases all[i]? <;> simp
  simp only [Array.getD_eq_getD_getElem?, List.getElem?_toArray] at hd
  rcases this with h1 | h1 <;> rw [h1] at hd <;> cases hd

end

/-! ### What is carried over a join or a loop's head -/

def TV.S : TV → Type
  | .int _ _ => Int
  | .bool _ => Bool
  | .str _ => List UInt8
  | .ptr _ => Option Loc
  | .slice _ => Sl
  | .map _ => Option Nat
  | .one _ => One
  | .bytes n _ => Bs n
  | .words _ n _ => Ws n
  | .agg _ => Unit
  | .tup _ => Unit
  | .fn _ _ _ => Unit
  | .any _ => Unit

/-- The data of a value. -/
def TV.dat : (t : TV) → t.S
  | .int _ n => n
  | .bool b => b
  | .str s => s
  | .ptr p => p
  | .slice s => s
  | .map r => r
  | .one v => v
  | .bytes _ b => b
  | .words _ _ w => w
  | .agg _ => ()
  | .tup _ => ()
  | .fn _ _ _ => ()
  | .any _ => ()

/-- A value of the same shape with other data. -/
def TV.mk : (t : TV) → t.S → TV
  | .int k _, n => .int k n
  | .bool _, b => .bool b
  | .str _, s => .str s
  | .ptr _, p => .ptr p
  | .slice _, s => .slice s
  | .map _, r => .map r
  | .one _, v => .one v
  | .bytes n _, b => .bytes n b
  | .words k n _, w => .words k n w
  | .agg xs, _ => .agg xs
  | .tup xs, _ => .tup xs
  | .fn f a b, _ => .fn f a b
  | .any v, _ => .any v

/-- The data of a value that has the shape of another one. -/
def TV.proj : (t : TV) → TV → Option t.S
  | .int k _, .int k' n => match k == k' with | true => some n | false => none
  | .bool _, .bool b => some b
  | .str _, .str s => some s
  | .ptr _, .ptr p => some p
  | .slice _, .slice s => some s
  | .map _, .map r => some r
  | .one _, .one v => some v
  | .bytes n _, .bytes m b => if h : m = n then some (h ▸ b) else none
  | .words k n _, .words k' m w => match k == k' with
    | true => if h : m = n then some (h ▸ w) else none
    | false => none
  | _, _ => none

theorem TV.proj_mk (t u : TV) (d : t.S) (h : t.proj u = some d) : t.mk d = u := by
  cases t <;> cases u <;> simp only [TV.proj, reduceCtorEq] at h
  case int.int k n k' n' =>
    split at h
    · rename_i hk
      have hk := beq_iff_eq.1 hk
      subst hk
      injection h with h
      subst h; rfl
    · cases h
  case bytes.bytes =>
    split at h
    · rename_i e; subst e; injection h with h; subst h; rfl
    · cases h
  case words.words =>
    split at h
    · rename_i hk
      have hk := beq_iff_eq.1 hk
      subst hk
      split at h
      · rename_i e; subst e; injection h with h; subst h; rfl
      · cases h
    · cases h
  all_goals
    injection h with h
    subst h
    rfl

abbrev Tl := List (Nat × TV)

def Tl.S : Tl → Type
  | [] => Unit
  | [x] => x.2.S
  | x :: y :: xs => x.2.S × Tl.S (y :: xs)

def Tl.dat : (T : Tl) → T.S
  | [] => ()
  | [x] => x.2.dat
  | x :: y :: xs => (x.2.dat, Tl.dat (y :: xs))

def Tl.put : (T : Tl) → T.S → Env → Env
  | [], _, env => env
  | [x], s, env => env.set x.1 (some (x.2.mk s))
  | x :: y :: xs, s, env => Tl.put (y :: xs) s.2 (env.set x.1 (some (x.2.mk s.1)))

def projAt (t : TV) (r : Option TV) : Option t.S :=
  match r with
  | some u => t.proj u
  | none => none

def Tl.proj : (T : Tl) → Env → Option T.S
  | [], _ => some ()
  | [x], env => projAt x.2 (env.getD x.1 none)
  | x :: y :: xs, env => match projAt x.2 (env.getD x.1 none), Tl.proj (y :: xs) env with
    | some a, some b => some (a, b)
    | _, _ => none

def forget (m : Nat) : Nat → Env → Env
  | _, [] => []
  | i, x :: xs => (match Nat.testBit m i with | true => none | false => x) :: forget m (i + 1) xs

def upd (env : Env) (m : Nat) (T : Tl) (s : T.S) : Env := T.put s (forget m 0 env)

def canCarry : TV → Bool
  | .fn _ _ _ => false
  | .any _ => false
  | .tup _ => false
  | .agg _ => false
  | _ => true

def carried (m : Nat) : Nat → Env → Tl
  | _, [] => []
  | i, x :: xs => match Nat.testBit m i, x with
    | true, some t => match canCarry t with
      | true => (i, t) :: carried m (i + 1) xs
      | false => carried m (i + 1) xs
    | _, _ => carried m (i + 1) xs

theorem forget_get (m : Nat) : ∀ (env : Env) (k i : Nat), (forget m k env)[i]? = if m.testBit (k + i) then (env[i]?).map fun _ => none else env[i]?
  | [], k, i => by simp [forget]
  | x :: xs, k, 0 => by
    simp only [forget, List.getElem?_cons_zero, Nat.add_zero]
    cases m.testBit k <;> simp
  | x :: xs, k, i + 1 => by
    simp only [forget, List.getElem?_cons_succ]
    rw [forget_get m xs (k + 1) i, show k + 1 + i = k + (i + 1) by omega]

theorem forget_len (m : Nat) : ∀ (env : Env) (k : Nat), (forget m k env).length = env.length
  | [], k => rfl
  | x :: xs, k => by simp [forget, forget_len m xs (k + 1)]

theorem carried_bit (m : Nat) : ∀ (env : Env) (k : Nat) (x : Nat × TV), x ∈ carried m k env → m.testBit x.1 = true
  | [], k, x, h => by simp [carried] at h
  | y :: ys, k, x, h => by
    unfold carried at h
    split at h
    · rename_i hb
      split at h
      · rcases List.mem_cons.1 h with rfl | h
        · exact hb
        · exact carried_bit m ys (k + 1) x h
      · exact carried_bit m ys (k + 1) x h
    · exact carried_bit m ys (k + 1) x h

theorem projAt_some {t : TV} {env : Env} {i : Nat} {d : t.S} (h : projAt t (env.getD i none) = some d) : env[i]? = some (some (t.mk d)) := by
  unfold projAt at h
  split at h
  · rename_i u hu
    rw [TV.proj_mk t u d h]
    rw [List.getD_eq_getElem?_getD] at hu
    cases hh : env[i]? with
    | none => rw [hh] at hu; cases hu
    | some y => rw [hh] at hu; simp at hu; rw [hu]
  · cases h

theorem EnvOk.set {env : Env} {a : Act} (he : EnvOk env a) {i : Nat} {tv : TV} (h : a.tmps[i]? = some tv.val) : EnvOk (env.set i (some tv)) a := by
  refine ⟨he.defers, by simp [he.size], fun j u hj => ?_⟩
  rw [List.getElem?_set] at hj
  by_cases hij : i = j
  · subst hij
    rw [if_pos rfl] at hj
    split at hj
    · injection hj with hj; injection hj with hj; subst hj; exact h
    · cases hj
  · rw [if_neg hij] at hj
    exact he.slot j u hj

theorem put_ok {env' : Env} {a : Act} (he : EnvOk env' a) : ∀ (T : Tl) (s : T.S) (e0 : Env), EnvOk e0 a → T.proj env' = some s → EnvOk (T.put s e0) a
  | [], _, e0, h0, _ => h0
  | [x], s, e0, h0, hp => h0.set (he.slot _ _ (projAt_some hp))
  | x :: y :: xs, s, e0, h0, hp => by
    simp only [Tl.proj] at hp
    split at hp
    · rename_i d b h1 h2
      injection hp with hp
      subst hp
      exact put_ok he (y :: xs) b _ (h0.set (he.slot _ _ (projAt_some h1))) h2
    · cases hp

theorem put_keep {m : Nat} : ∀ (T : Tl) (s : T.S) (e0 : Env), (∀ x ∈ T, m.testBit x.1 = true) → Keep m e0 (T.put s e0)
  | [], _, e0, _ => Keep.refl _ _
  | [x], s, e0, h => ⟨by simp [Tl.put], fun i hi => by
      simp only [Tl.put]
      have hb := h x (by simp)
      rw [List.getElem?_set_ne (by rintro rfl; rw [hb] at hi; cases hi)]⟩
  | x :: y :: xs, s, e0, h => by
    have hb := h x (by simp)
    refine Keep.trans (b := e0.set x.1 (some (x.2.mk s.1))) ⟨by simp, fun i hi => ?_⟩ (put_keep (y :: xs) s.2 _ (fun z hz => h z (by simp [hz])))
    rw [List.getElem?_set_ne (by rintro rfl; rw [hb] at hi; cases hi)]

theorem forget_ok {m : Nat} {env env' : Env} {a : Act} (he : EnvOk env' a) (hk : Keep m env env') : EnvOk (forget m 0 env) a := by
  refine ⟨he.defers, by rw [forget_len, he.size, hk.len], fun i tv hi => ?_⟩
  rw [forget_get, Nat.zero_add] at hi
  cases hb : m.testBit i with
  | true => rw [hb] at hi; cases h0 : env[i]? <;> simp [h0] at hi
  | false =>
    rw [hb] at hi
    rw [if_neg (by simp)] at hi
    exact he.slot i tv (by rw [hk.slot i hb]; exact hi)

theorem upd_ok {m : Nat} {env env' : Env} {a : Act} {T : Tl} {s : T.S} (he : EnvOk env' a) (hk : Keep m env env') (hp : T.proj env' = some s) : EnvOk (upd env m T s) a :=
  put_ok he T s _ (forget_ok he hk) hp

theorem upd_keep {m : Nat} {env : Env} {T : Tl} {s : T.S} (hT : ∀ x ∈ T, m.testBit x.1 = true) : Keep m env (upd env m T s) :=
  Keep.trans ⟨forget_len m env 0, fun i hi => by rw [forget_get, Nat.zero_add, hi]; simp⟩ (put_keep T s _ hT)

/-! ### Code -/

def exitThen (K : Env → Heap → Prop) (Q : Exit → Env → Heap → Prop) : Exit → Env → Heap → Prop
  | .normal => K
  | e => Q e

def inBlk (id : Nat) (Q : Exit → Env → Heap → Prop) : Exit → Env → Heap → Prop
  | .exit id' => match Nat.beq id' id with
    | true => Q .normal
    | false => Q (.exit id')
  | e => Q e

def anyGuard : List Oper → Bool
  | [] => false
  | o :: os => match o.guard with
    | some _ => true
    | none => anyGuard os

def exits (id : Nat) : Code → Nat
  | .exit id' => match Nat.beq id' id with | true => 1 | false => 0
  | .seq a b => Nat.add (exits id a) (exits id b)
  | .cond _ a b => Nat.add (exits id a) (exits id b)
  | .block _ c => exits id c
  | .loop c => exits id c
  | _ => 0

def paths : Code → Nat
  | .region _ ops _ => match anyGuard ops.toList with | true => 2 | false => 1
  | .seq a b => Nat.mul (paths a) (paths b)
  | .cond _ a b => Nat.add (paths a) (paths b)
  | .block id c => Nat.add (paths c) (exits id c)
  | .loop _ => 0
  | .exit _ => 0
  | .ret => 0
  | _ => 1

def codeSize : Code → Nat
  | .region _ ops _ => ops.toList.length
  | .seq a b => Nat.add (codeSize a) (codeSize b)
  | .cond _ a b => Nat.add (codeSize a) (Nat.add (codeSize b) 1)
  | .block _ c => codeSize c
  | .loop c => Nat.add (codeSize c) 10
  | _ => 0

/-- Two operations of a region whose order is drawn make, write or call, and neither waits for the other. -/
def branchyOps (C : Ctx) (all : List Oper) : Bool :=
  (List.range all.length).any fun i => (List.range all.length).any fun j => match Nat.blt i j, all[i]?, all[j]? with
    | true, some oi, some oj => match Nat.ble 2 (kindOf C oi), Nat.ble 2 (kindOf C oj) with
      | true, true => !(waitsT all i j || waitsT all j i)
      | _, _ => false
    | _, _, _ => false

def branchy (C : Ctx) : Code → Bool
  | .region _ ops true => branchyOps C ops.toList
  | _ => false

def joins (C : Ctx) (a b : Code) : Bool := match Nat.ble 2 (paths a), branchy C a with
  | true, _ => Nat.ble 12 (codeSize b)
  | false, true => Nat.ble 3 (codeSize b)
  | false, false => false

def usesL (d : Nat) : List Operand → Bool
  | [] => false
  | .tmp t :: xs => Nat.beq t d || usesL d xs
  | _ :: xs => usesL d xs

def usesOps (d : Nat) : List Oper → Bool
  | [] => false
  | o :: os => usesL d o.op.operands.toList || (match o.guard with | some g => Nat.beq g.1 d | none => false) || usesOps d os

/-- Does code read a slot? -/
def usesCode (d : Nat) : Code → Bool
  | .region _ ops _ => usesOps d ops.toList
  | .seq a b => usesCode d a || usesCode d b
  | .cond (.tmp t) a b => Nat.beq t d || (usesCode d a || usesCode d b)
  | .cond _ a b => usesCode d a || usesCode d b
  | .block _ c => usesCode d c
  | .loop c => usesCode d c
  | .ret => true
  | _ => false

/-- Of what shape an operation's result is. -/
def resZ (C : Ctx) (o : Oper) : TV := match o.op with
  | .alloc _ => .ptr none
  | .box _ _ => .ptr none
  | _ => (C.ti o.type).z

def madeOps (C : Ctx) (m : Nat) (b : Code) (env : Env) : List Oper → Tl
  | [] => []
  | o :: os => match o.dst with
    | some d => match Nat.testBit m d, env.getD d none, usesCode d b, canCarry (resZ C o) with
      | true, none, true, true => (d, resZ C o) :: madeOps C m b env os
      | _, _, _, _ => madeOps C m b env os
    | none => madeOps C m b env os

/-- What a region with several orders makes for the code behind it. -/
def made (C : Ctx) (a b : Code) (env : Env) : Tl := match a with
  | .region id ops true => match branchyOps C ops.toList with
    | true => madeOps C (maskCode (.region id ops true)) b env ops.toList
    | false => []
  | _ => []

theorem madeOps_bit {C : Ctx} {m : Nat} {b : Code} {env : Env} : ∀ (os : List Oper), ∀ x ∈ madeOps C m b env os, m.testBit x.1 = true
  | [], x, hx => by cases hx
  | o :: os, x, hx => by
    unfold madeOps at hx
    split at hx
    · split at hx
      · rename_i hb _ _ _
        rcases List.mem_cons.1 hx with rfl | hx
        · exact hb
        · exact madeOps_bit os x hx
      · exact madeOps_bit os x hx
    · exact madeOps_bit os x hx

theorem made_bit {C : Ctx} {a b : Code} {env : Env} : ∀ x ∈ made C a b env, (maskCode a).testBit x.1 = true := by
  intro x hx
  unfold made at hx
  split at hx
  · split at hx
    · exact madeOps_bit _ x hx
    · cases hx
  · cases hx

/-- The slot that code tests first. -/
def headCond : Code → Option Nat
  | .cond (.tmp t) _ _ => some t
  | .seq a _ => headCond a
  | _ => none

def extra (m : Nat) (env : Env) : Option Nat → Tl
  | some t => match Nat.testBit m t, env.getD t none with
    | true, none => [(t, .bool false)]
    | _, _ => []
  | none => []

theorem extra_bit {m : Nat} {env : Env} {o : Option Nat} : ∀ x ∈ extra m env o, m.testBit x.1 = true := by
  intro x hx
  unfold extra at hx
  split at hx
  · split at hx
    · rename_i hb _
      simp only [List.mem_singleton] at hx
      subst hx
      exact hb
    · cases hx
  · cases hx

/-! ### What every way through code makes -/

def hasDst (d : Nat) : List Oper → Bool
  | [] => false
  | o :: os => (match o.dst, o.guard with | some t, none => Nat.beq t d | _, _ => false) || hasDst d os

def mustSet (d : Nat) : Code → Bool
  | .region _ ops _ => hasDst d ops.toList
  | .seq a b => mustSet d a || mustSet d b
  | .cond _ a b => (Nat.beq (paths a) 0 || mustSet d a) && (Nat.beq (paths b) 0 || mustSet d b)
  | _ => false

def opsOf : Code → List Oper
  | .region _ ops _ => ops.toList
  | .seq a b => opsOf a ++ opsOf b
  | .cond _ a b => opsOf a ++ opsOf b
  | _ => []

/-- Does code read a slot, but for what it hands back? -/
def reads2 (d : Nat) : Code → Bool
  | .region _ ops _ => usesOps d ops.toList
  | .seq a b => reads2 d a || reads2 d b
  | .cond (.tmp t) a b => Nat.beq t d || (reads2 d a || reads2 d b)
  | .cond _ a b => reads2 d a || reads2 d b
  | .block _ c => reads2 d c
  | .loop c => reads2 d c
  | _ => false

def seenIn (d : Nat) : List Nat → Bool
  | [] => false
  | t :: ts => Nat.beq t d || seenIn d ts

def setTl (C : Ctx) (m : Nat) (a b : Code) (env : Env) : List Nat → List Oper → Tl
  | _, [] => []
  | seen, o :: os => match o.dst with
    | some d => match Nat.testBit m d, env.getD d none, seenIn d seen, canCarry (resZ C o) with
      | true, none, false, true => match mustSet d a && reads2 d b with
        | true => (d, resZ C o) :: setTl C m a b env (d :: seen) os
        | false => setTl C m a b env (d :: seen) os
      | _, _, _, _ => setTl C m a b env seen os
    | none => setTl C m a b env seen os

theorem setTl_bit {C : Ctx} {m : Nat} {a b : Code} {env : Env} : ∀ (os : List Oper) (seen : List Nat), ∀ x ∈ setTl C m a b env seen os, m.testBit x.1 = true
  | [], _, x, hx => by cases hx
  | o :: os, seen, x, hx => by
    unfold setTl at hx
    split at hx
    · split at hx
      · rename_i hb _ _ _
        split at hx
        · rcases List.mem_cons.1 hx with rfl | hx
          · exact hb
          · exact setTl_bit os _ x hx
        · exact setTl_bit os _ x hx
      · exact setTl_bit os _ x hx
    · exact setTl_bit os _ x hx

/-- What all ways through code make for the code behind it. -/
def allMadeGo (C : Ctx) (a b : Code) (env : Env) : Tl := match headCond b with
  | some t => setTl C (maskCode a) a b env [t] (opsOf a)
  | none => setTl C (maskCode a) a b env [] (opsOf a)

def allMade (C : Ctx) (a b : Code) (env : Env) : Tl := match a with
  | .region id ops true => match branchyOps C ops.toList with
    | true => []
    | false => allMadeGo C (.region id ops true) b env
  | _ => allMadeGo C a b env

theorem allMadeGo_bit {C : Ctx} {a b : Code} {env : Env} : ∀ x ∈ allMadeGo C a b env, (maskCode a).testBit x.1 = true := by
  intro x hx
  unfold allMadeGo at hx
  split at hx
  · exact setTl_bit _ _ x hx
  · exact setTl_bit _ _ x hx

theorem allMade_bit {C : Ctx} {a b : Code} {env : Env} : ∀ x ∈ allMade C a b env, (maskCode a).testBit x.1 = true := by
  intro x hx
  unfold allMade at hx
  split at hx
  · split at hx
    · cases hx
    · exact allMadeGo_bit x hx
  · exact allMadeGo_bit x hx

def joinTl (C : Ctx) (a b : Code) (env : Env) : Tl := carried (maskCode a) 0 env ++ (extra (maskCode a) env (headCond b) ++ (made C a b env ++ allMade C a b env))

def Join {σ : Type} (rest : σ → Heap → Prop) (body : (σ → Heap → Prop) → Prop) : Prop := ∀ J : σ → Heap → Prop, (∀ s h, rest s h → J s h) → body J

/-- A loop: what holds at each round's head, and what gets less. -/
def Loop {σ : Type} (s0 : σ) (h0 : Heap) (round : σ → Heap → (σ → Heap → Prop) → Prop) : Prop :=
  ∃ (I : σ → Heap → Prop) (μ : σ → Heap → Nat), I s0 h0 ∧ ∀ s h, I s h → round s h fun s' h' => I s' h' ∧ μ s' h' < μ s h

def back (T : Tl) (K : T.S → Heap → Prop) (env : Env) (h : Heap) : Prop :=
  match T.proj env with
  | some s => K s h
  | none => False

def vc (C : Ctx) : Code → (Exit → Env → Heap → Prop) → Env → Heap → Prop
  | .skip, Q, env, h => Q .normal env h
  | .region _ ops draw, Q, env, h => match draw with
    | false => vcOps C ops.toList ops.toList 0 env h (Q .normal)
    | true => match apartB ops.toList, Region.noSelect ops.toList.toArray with
      | true, true => withBase C ops.toList h fun B => drawGo C ops.toList B ops.toList.length false (noneB ops.toList) env h (Q .normal)
      | _, _ => False
  | .seq a b, Q, env, h => match joins C a b with
    | false => vc C a (exitThen (fun env' h' => vc C b Q env' h') Q) env h
    | true => Join (σ := (joinTl C a b env).S) (fun s h' => vc C b Q (upd env (maskCode a) (joinTl C a b env) s) h') fun J => vc C a (exitThen (back (joinTl C a b env) J) Q) env h
  | .cond c a b, Q, env, h => match env.ev c with
    | some (.bool x) => If x (vc C a Q env h) (vc C b Q env h)
    | _ => False
  | .block id c, Q, env, h => vc C c (inBlk id Q) env h
  | .loop c, Q, env, h => Loop (σ := (carried (maskCode c) 0 env).S) (Tl.dat _) h fun s h' K => vc C c (exitThen (back (carried (maskCode c) 0 env) K) Q) (upd env (maskCode c) (carried (maskCode c) 0 env) s) h'
  | .exit id, Q, env, h => Q (.exit id) env h
  | .ret, Q, env, h => Q .ret env h
  | .label _, Q, env, h => Q .normal env h
  | _, _, _, _ => False

end Go.Vc
end
