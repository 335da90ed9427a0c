/- Words for a verified generator of conditions: the heap alone, values with their shape, environments of slots; no program in sight. -/
import Derived.WalkKit
import Derived.Below
import Derived.WalkLawsBesides
import Derived.MapKept
import Derived.Maps.RangeRun
namespace Go.Vc
open Go

abbrev Heap := Array Obj

structure Loc where
  b : Nat
  o : Nat

def Loc.addr (l : Loc) : Addr := ⟨l.b, l.o, none⟩

structure Sl where
  a : Option Loc
  len : Nat
  cap : Nat

def Sl.nil : Sl := ⟨none, 0, 0⟩

/-- n bytes. -/
structure Bs (n : Nat) where
  l : List UInt8
  h : l.length = n

theorem Bs.ext' {n : Nat} {a b : Bs n} (h : a.l = b.l) : a = b := by
  cases a; cases b; cases h; rfl

def Bs.zero (n : Nat) : Bs n := ⟨List.replicate n 0, by simp⟩
def Bs.set {n : Nat} (b : Bs n) (i : Nat) (v : UInt8) : Bs n := ⟨b.l.set i v, by simp [b.h]⟩

/-- n numbers of a kind that is not a byte's. -/
structure Ws (n : Nat) where
  l : List Int
  h : l.length = n

theorem Ws.ext' {n : Nat} {a b : Ws n} (h : a.l = b.l) : a = b := by
  cases a; cases b; cases h; rfl

def Ws.zero (n : Nat) : Ws n := ⟨List.replicate n 0, by simp⟩
def Ws.set {n : Nat} (b : Ws n) (i : Nat) (v : Int) : Ws n := ⟨b.l.set i v, by simp [b.h]⟩

def isOne : Value → Bool
  | .agg _ | .tuple _ => false
  | _ => true

/-- A value that takes one cell and is none of the kinds below: a function value, an interface value. -/
structure One where
  v : Value
  h : isOne v = true

/-- A value with its shape. -/
inductive TV where
  | int (k : IntKind) (n : Int)
  | bool (b : Bool)
  | str (s : List UInt8)
  | ptr (p : Option Loc)
  | slice (s : Sl)
  | map (r : Option Nat)
  | one (v : One)
  | bytes (n : Nat) (b : Bs n)
  | words (k : IntKind) (n : Nat) (w : Ws n)
  | agg (xs : List TV)
  | tup (xs : List TV)
  | fn (f : Fn) (first captured : List TV)

/-- A shape. -/
inductive Sh where
  | int (k : IntKind)
  | bool
  | str
  | ptr
  | slice
  | map
  | one
  | bytes (n : Nat)
  | words (k : IntKind) (n : Nat)
  | agg (xs : List Sh)
  | tup (xs : List Sh)

/-- A heap that has a name from here on. -/
def Bind (h : Heap) (K : Heap → Prop) : Prop := K h

/-- There is one, and of it something holds. -/
def Nn {α : Type} (p : Option α) (K : α → Prop) : Prop := match p with
  | none => False
  | some l => K l

def slVal (s : Sl) : Value := .slice (s.a.map Loc.addr) s.len s.cap

mutual
/-- The cells that a value takes. -/
def TV.cells : TV → List Value
  | .int k n => [.int k n]
  | .bool b => [.bool b]
  | .str s => [.string ⟨s.toArray⟩]
  | .ptr p => [.pointer (p.map Loc.addr)]
  | .slice s => [slVal s]
  | .map r => [.map r]
  | .one v => [v.v]
  | .bytes _ b => b.l.map fun c => .int .u8 (c.toNat : Int)
  | .words k _ w => w.l.map fun c => .int k c
  | .agg xs => TVs.cells xs
  | .tup xs => [.tuple (TVs.vals xs).toArray]
  | .fn f a b => [.func f (TVs.vals a).toArray (TVs.vals b).toArray]
def TVs.cells : List TV → List Value
  | [] => []
  | x :: xs => TV.cells x ++ TVs.cells xs
/-- The value itself. -/
def TV.val : TV → Value
  | .int k n => .int k n
  | .bool b => .bool b
  | .str s => .string ⟨s.toArray⟩
  | .ptr p => .pointer (p.map Loc.addr)
  | .slice s => slVal s
  | .map r => .map r
  | .one v => v.v
  | .bytes _ b => .agg (b.l.map fun c => .int .u8 (c.toNat : Int)).toArray
  | .words k _ w => .agg (w.l.map fun c => .int k c).toArray
  | .agg xs => .agg (TVs.cells xs).toArray
  | .tup xs => .tuple (TVs.vals xs).toArray
  | .fn f a b => .func f (TVs.vals a).toArray (TVs.vals b).toArray
def TVs.vals : List TV → List Value
  | [] => []
  | x :: xs => TV.val x :: TVs.vals xs
end

mutual
/-- How many cells. -/
def TV.size : TV → Nat
  | .bytes n _ => n
  | .words _ n _ => n
  | .agg xs => TVs.size xs
  | _ => 1
def TVs.size : List TV → Nat
  | [] => 0
  | x :: xs => TV.size x + TVs.size xs
end

mutual
def Sh.size : Sh → Nat
  | .bytes n => n
  | .words _ n => n
  | .agg xs => Shs.size xs
  | _ => 1
def Shs.size : List Sh → Nat
  | [] => 0
  | x :: xs => Sh.size x + Shs.size xs
end

mutual
/-- The zero value of a shape. -/
def Sh.zero : Sh → TV
  | .int k => .int k 0
  | .bool => .bool false
  | .str => .str []
  | .ptr => .ptr none
  | .slice => .slice Sl.nil
  | .map => .map none
  | .one => .one ⟨.nilIface, rfl⟩
  | .bytes n => .bytes n (Bs.zero n)
  | .words k n => .words k n (Ws.zero n)
  | .agg xs => .agg (Shs.zero xs)
  | .tup xs => .tup (Shs.zero xs)
def Shs.zero : List Sh → List TV
  | [] => []
  | x :: xs => Sh.zero x :: Shs.zero xs
end

mutual
/-- There is a value of that shape of which something holds. -/
def Ex : Sh → (TV → Prop) → Prop
  | .int k, K => ∃ n : Int, K (.int k n)
  | .bool, K => ∃ b : Bool, K (.bool b)
  | .str, K => ∃ s : List UInt8, K (.str s)
  | .ptr, K => ∃ p : Option Loc, K (.ptr p)
  | .slice, K => ∃ s : Sl, K (.slice s)
  | .map, K => ∃ r : Option Nat, K (.map r)
  | .one, K => ∃ v : One, K (.one v)
  | .bytes n, K => ∃ b : Bs n, K (.bytes n b)
  | .words k n, K => ∃ w : Ws n, K (.words k n w)
  | .agg xs, K => Exs xs fun vs => K (.agg vs)
  | .tup xs, K => Exs xs fun vs => K (.tup vs)
def Exs : List Sh → (List TV → Prop) → Prop
  | [], K => K []
  | x :: xs, K => Ex x fun v => Exs xs fun vs => K (v :: vs)
end

mutual
/-- Whether a value has a shape. -/
def TV.has : TV → Sh → Bool
  | .int k _, .int k' => k == k'
  | .bool _, .bool => true
  | .str _, .str => true
  | .ptr _, .ptr => true
  | .slice _, .slice => true
  | .map _, .map => true
  | .one _, .one => true
  | .bytes n _, .bytes m => n == m
  | .words k n _, .words k' m => k == k' && n == m
  | .agg xs, .agg ys => TVs.has xs ys
  | .tup xs, .tup ys => TVs.has xs ys
  | .fn _ _ _, .one => true
  | _, _ => false
def TVs.has : List TV → List Sh → Bool
  | [], [] => true
  | x :: xs, y :: ys => TV.has x y && TVs.has xs ys
  | _, _ => false
end

mutual
theorem TV.cells_length : ∀ t : TV, t.cells.length = t.size
  | .int .. | .bool .. | .str .. | .ptr .. | .slice .. | .map .. | .one .. | .tup .. | .fn .. => rfl
  | .bytes n b => by simp [TV.cells, TV.size, b.h]
  | .words k n w => by simp [TV.cells, TV.size, w.h]
  | .agg xs => by simp only [TV.cells, TV.size]; exact TVs.cells_length xs
theorem TVs.cells_length : ∀ ts : List TV, (TVs.cells ts).length = TVs.size ts
  | [] => rfl
  | x :: xs => by simp only [TVs.cells, TVs.size, List.length_append, TV.cells_length x, TVs.cells_length xs]
end

theorem One.cells (v : One) : v.v.cells = #[v.v] := by
  obtain ⟨v, h⟩ := v
  show v.cells = #[v]
  cases v
  case agg => exact absurd h (by simp [isOne])
  all_goals rfl

theorem TV.val_cells (t : TV) : t.val.cells = t.cells.toArray := by
  cases t
  case one v => simp only [TV.val, TV.cells]; exact One.cells v
  all_goals simp [TV.val, TV.cells, Value.cells, slVal]

mutual
theorem TV.has_size : ∀ (t : TV) (s : Sh), t.has s = true → t.size = s.size
  | t, s, h => by
    cases t <;> cases s <;> simp_all [TV.has, TV.size, Sh.size]
    exact TVs.has_size _ _ h
theorem TVs.has_size : ∀ (t : List TV) (s : List Sh), TVs.has t s = true → TVs.size t = Shs.size s
  | [], [], _ => rfl
  | x :: xs, y :: ys, h => by
    simp only [TVs.has, Bool.and_eq_true] at h
    simp only [TVs.size, Shs.size, TV.has_size x y h.1, TVs.has_size xs ys h.2]
  | [], _ :: _, h => by simp [TVs.has] at h
  | _ :: _, [], h => by simp [TVs.has] at h
end

mutual
theorem ex_iff : ∀ (s : Sh) (K : TV → Prop), Ex s K → ∃ t : TV, t.has s = true ∧ K t
  | .int k, K, ⟨n, h⟩ => ⟨_, by simp [TV.has], h⟩
  | .bool, K, ⟨n, h⟩ => ⟨_, rfl, h⟩
  | .str, K, ⟨n, h⟩ => ⟨_, rfl, h⟩
  | .ptr, K, ⟨n, h⟩ => ⟨_, rfl, h⟩
  | .slice, K, ⟨n, h⟩ => ⟨_, rfl, h⟩
  | .map, K, ⟨n, h⟩ => ⟨_, rfl, h⟩
  | .one, K, ⟨n, h⟩ => ⟨_, rfl, h⟩
  | .bytes k, K, ⟨n, h⟩ => ⟨_, by simp [TV.has], h⟩
  | .words k m, K, ⟨n, h⟩ => ⟨_, by simp [TV.has], h⟩
  | .agg xs, K, h => by
    obtain ⟨ts, h1, h2⟩ := exs_iff xs _ h
    exact ⟨.agg ts, by simpa [TV.has] using h1, h2⟩
  | .tup xs, K, h => by
    obtain ⟨ts, h1, h2⟩ := exs_iff xs _ h
    exact ⟨.tup ts, by simpa [TV.has] using h1, h2⟩
theorem exs_iff : ∀ (s : List Sh) (K : List TV → Prop), Exs s K → ∃ t : List TV, TVs.has t s = true ∧ K t
  | [], K, h => ⟨[], rfl, h⟩
  | x :: xs, K, h => by
    obtain ⟨t, h1, h2⟩ := ex_iff x _ h
    obtain ⟨ts, h3, h4⟩ := exs_iff xs _ h2
    exact ⟨t :: ts, by simp [TVs.has, h1, h3], h4⟩
end

/-! ### The heap -/

def cel (h : Heap) (b o : Nat) : Option Value :=
  match h[b]? with
  | some (.cells c _ _) => c[o]?
  | _ => none

def frz (h : Heap) (b o : Nat) : Bool :=
  match h[b]? with
  | some (.cells _ _ (lo, hi)) => lo ≤ o && o < hi
  | _ => false

def putc (h : Heap) (b o : Nat) (v : Value) : Heap :=
  h.modify b fun
    | .cells c e f => .cells (c.setIfInBounds o v) e f
    | x => x

/-- Values one behind the other. -/
def putl (h : Heap) (b o : Nat) : List Value → Heap
  | [] => h
  | v :: vs => putl (putc h b o v) b (o + 1) vs

/-- A row of cells of an element's type. -/
def row (vs : List Value) (t : TypeId) : Obj := .cells vs.toArray t (0, 0)

theorem cell?_eq (w : World) (b o : Nat) : w.cell? ⟨b, o, none⟩ = cel w.heap b o := by
  unfold World.cell? cel
  dsimp only
  split
  · next h => simp [h]
  · next h => split
              · next h2 => exact absurd h2 (h _ _ _)
              · rfl

theorem frozen?_eq (w : World) (b o : Nat) : w.frozen? ⟨b, o, none⟩ = frz w.heap b o := rfl

theorem setCell_heap (w : World) (b o : Nat) (v : Value) : (w.setCell ⟨b, o, none⟩ v).heap = putc w.heap b o v := by
  simp only [World.setCell, putc]
  congr 1

/-- A value lies at a place. -/
def at1 (h : Heap) (b o : Nat) (v : Value) : Prop := cel h b o = some v
def atBytes (h : Heap) (b o n : Nat) (x : Bs n) : Prop := ∀ j, j < n → cel h b (o + j) = some (.int .u8 ((x.l.getD j 0).toNat : Int))
def atWords (h : Heap) (b o : Nat) (k : IntKind) (n : Nat) (x : Ws n) : Prop := ∀ j, j < n → cel h b (o + j) = some (.int k (x.l.getD j 0))

mutual
def TV.at (h : Heap) (b o : Nat) : TV → Prop
  | .int k n => at1 h b o (.int k n)
  | .bool x => at1 h b o (.bool x)
  | .str s => at1 h b o (.string ⟨s.toArray⟩)
  | .ptr p => at1 h b o (.pointer (p.map Loc.addr))
  | .slice s => at1 h b o (slVal s)
  | .map r => at1 h b o (.map r)
  | .one v => at1 h b o v.v
  | .bytes n x => atBytes h b o n x
  | .words k n x => atWords h b o k n x
  | .agg xs => TVs.at h b o xs
  | .tup xs => at1 h b o (.tuple (TVs.vals xs).toArray)
  | .fn f x y => at1 h b o (.func f (TVs.vals x).toArray (TVs.vals y).toArray)
def TVs.at (h : Heap) (b o : Nat) : List TV → Prop
  | [] => True
  | [x] => TV.at h b o x
  | x :: y :: xs => TV.at h b o x ∧ TVs.at h b (o + TV.size x) (y :: xs)
end

theorem getElem?_toBytes {n : Nat} (b : Bs n) (j : Nat) (hj : j < n) : (b.l.map fun c => Value.int .u8 (c.toNat : Int))[j]? = some (.int .u8 ((b.l.getD j 0).toNat : Int)) := by
  have : j < b.l.length := by rw [b.h]; exact hj
  simp [this]

theorem getElem?_toWords {n : Nat} (k : IntKind) (b : Ws n) (j : Nat) (hj : j < n) : (b.l.map fun c => Value.int k c)[j]? = some (.int k (b.l.getD j 0)) := by
  have : j < b.l.length := by rw [b.h]; exact hj
  simp [this]

mutual
theorem TV.at_iff (h : Heap) (b : Nat) : ∀ (t : TV) (o : Nat), t.at h b o ↔ ∀ j, j < t.size → cel h b (o + j) = t.cells[j]?
  | .int .., o | .bool .., o | .str .., o | .ptr .., o | .slice .., o | .map .., o | .one .., o | .tup .., o | .fn .., o => by
    simp only [TV.at, TV.size, TV.cells, at1]
    constructor
    · intro hh j hj
      have : j = 0 := by omega
      subst this
      simpa using hh
    · intro hh
      simpa using hh 0 (by omega)
  | .bytes n x, o => by
    simp only [TV.at, TV.size, TV.cells, atBytes]
    constructor
    · intro hh j hj
      rw [getElem?_toBytes x j hj]; exact hh j hj
    · intro hh j hj
      rw [← getElem?_toBytes x j hj]; exact hh j hj
  | .words k n x, o => by
    simp only [TV.at, TV.size, TV.cells, atWords]
    constructor
    · intro hh j hj
      rw [getElem?_toWords k x j hj]; exact hh j hj
    · intro hh j hj
      rw [← getElem?_toWords k x j hj]; exact hh j hj
  | .agg xs, o => by
    simp only [TV.at, TV.size, TV.cells]
    exact TVs.at_iff h b xs o
theorem TVs.at_iff (h : Heap) (b : Nat) : ∀ (ts : List TV) (o : Nat), TVs.at h b o ts ↔ ∀ j, j < TVs.size ts → cel h b (o + j) = (TVs.cells ts)[j]?
  | [], o => by simp [TVs.at, TVs.size]
  | [x], o => by
    simp only [TVs.at, TVs.size, TVs.cells, List.append_nil, Nat.add_zero]
    exact TV.at_iff h b x o
  | x :: y :: xs, o => by
    have hx := TV.at_iff h b x o
    have hy := TVs.at_iff h b (y :: xs) (o + TV.size x)
    have hl := TV.cells_length x
    rw [TVs.at, hx, hy]
    show _ ↔ ∀ j, j < TV.size x + TVs.size (y :: xs) → cel h b (o + j) = (TV.cells x ++ TVs.cells (y :: xs))[j]?
    constructor
    · rintro ⟨h1, h2⟩ j hj
      by_cases hlt : j < TV.size x
      · rw [List.getElem?_append_left (by omega)]; exact h1 j hlt
      · have := h2 (j - TV.size x) (by omega)
        rw [List.getElem?_append_right (by omega), hl, ← this]
        congr 1; omega
    · intro hh
      constructor
      · intro j hj
        rw [hh j (by omega), List.getElem?_append_left (by omega)]
      · intro j hj
        have := hh (TV.size x + j) (by omega)
        rw [List.getElem?_append_right (by omega), hl] at this
        rw [← Nat.add_assoc] at this
        rw [this]; congr 1; omega
end

/-- A value is put at a place. -/
def TV.put (h : Heap) (b o : Nat) (t : TV) : Heap := putl h b o t.cells

/-- So many cells from a place on may be written. -/
def wok (h : Heap) (b o n : Nat) : Prop := ∀ j, j < n → (cel h b (o + j)).isSome = true ∧ frz h b (o + j) = false

/-- A new row that holds a value. -/
def newTV (h : Heap) (t : TV) (T : TypeId) : Heap := h.push (row t.cells T)

end Go.Vc
