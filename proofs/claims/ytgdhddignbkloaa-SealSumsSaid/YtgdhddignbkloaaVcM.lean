/- Variables in memory: a block that holds one value. -/
import Derived.Test.YtgdhddignbkloaaVcS
namespace Go.Vc
open Go

/-- A block of its own holds a value. -/
def Var (T : TypeId) (h : Heap) (b : Nat) (t : TV) : Prop := h[b]? = some (row t.cells T)

theorem Var.lt {T : TypeId} {h : Heap} {b : Nat} {t : TV} (v : Var T h b t) : b < h.size := row_lt v
theorem Var.only {T : TypeId} {S : Nat → Prop} {h h' : Heap} {b : Nat} {t : TV} (v : Var T h b t) (o : Only S h h') (hs : ¬ S b) : Var T h' b t := (o.same b v.lt hs).trans v
theorem Var.ext {T : TypeId} {h h' : Heap} {b : Nat} {t : TV} (v : Var T h b t) (e : Ext h h') : Var T h' b t := (e.same b v.lt).trans v
theorem Var.at {T : TypeId} {h : Heap} {b : Nat} {t : TV} (v : Var T h b t) : t.at h b 0 := by
  rw [TV.at_iff]
  intro j hj
  unfold cel
  rw [v]
  simp [row]
theorem Var.at1 {T : TypeId} {h : Heap} {b o : Nat} {t : TV} {x : Value} (v : Var T h b t) (hx : t.cells[o]? = some x) : Go.Vc.at1 h b o x := at1_row v hx
theorem Var.bytes {T : TypeId} {h : Heap} {b n : Nat} {x : Bs n} (v : Var T h b (.bytes n x)) : atBytes h b 0 n x := v.at
theorem Var.wok {T : TypeId} {h : Heap} {b o n : Nat} {t : TV} (v : Var T h b t) (hn : o + n ≤ t.size) : Go.Vc.wok h b o n := wok_row v (by rw [TV.cells_length]; exact hn)

theorem newTV_spec (h : Heap) (t : TV) (T : TypeId) : ∃ h1, newTV h t T = h1 ∧ Var T h1 h.size t ∧ Ext h h1 ∧ h1.size = h.size + 1 :=
  ⟨_, rfl, newTV_get h t T, newTV_ext h t T, newTV_size h t T⟩

theorem put_spec {T : TypeId} {h : Heap} {b : Nat} {t0 : TV} (v : Var T h b t0) (t : TV) (hs : t.size = t0.size) : ∃ h1, t.put h b 0 = h1 ∧ Var T h1 b t ∧ Only (· = b) h h1 ∧ h1.size = h.size := by
  have hl : 0 + t.size ≤ t0.cells.length := by rw [TV.cells_length, hs]; omega
  refine ⟨_, rfl, ?_, put_only v hl, put_size v hl⟩
  have := put_row (t := t) v hl
  unfold Var
  rw [this]
  congr 1
  congr 1
  rw [List.take_zero, List.nil_append, Nat.zero_add, List.drop_eq_nil_of_le (by rw [TV.cells_length, hs]; exact Nat.le_refl _), List.append_nil]

/-- A new variable, written at once. -/
theorem newput_spec (h : Heap) (t0 t : TV) (T : TypeId) (hs : t.size = t0.size) : wok (newTV h t0 T) h.size 0 t.size ∧ ∃ h1, t.put (newTV h t0 T) h.size 0 = h1 ∧ Var T h1 h.size t ∧ Ext h h1 ∧ h1.size = h.size + 1 := by
  obtain ⟨h1, e1, v1, x1, s1⟩ := newTV_spec h t0 T
  rw [e1]
  refine ⟨v1.wok (by omega), ?_⟩
  obtain ⟨h2, e2, v2, o2, s2⟩ := put_spec v1 t hs
  exact ⟨h2, e2, v2, Only.cut x1 o2 (fun i hi => by omega), by omega⟩

theorem wrap_shift (a q : Int) : IntKind.wrap .i64 (a + 18446744073709551616 * q) = IntKind.wrap .i64 a := by
  have : (a + 18446744073709551616 * q) % 2 ^ IntKind.i64.bits = a % 2 ^ IntKind.i64.bits := by
    show (a + 18446744073709551616 * q) % 2 ^ 64 = a % 2 ^ 64
    omega
  unfold IntKind.wrap
  rw [this]

theorem wrap_off (a : Int) : ∃ q, IntKind.wrap .i64 a = a + 18446744073709551616 * q := by
  have e : a % 2 ^ 64 = a + 18446744073709551616 * (-(a / 18446744073709551616)) := by omega
  unfold IntKind.wrap
  show ∃ q, (if (true && decide (a % 2 ^ 64 ≥ 2 ^ 63)) = true then a % 2 ^ 64 - 2 ^ 64 else a % 2 ^ 64) = _
  split
  · exact ⟨-(a / 18446744073709551616) - 1, by omega⟩
  · exact ⟨_, e⟩

theorem wrap_add (a b : Int) : IntKind.wrap .i64 (IntKind.wrap .i64 a + b) = IntKind.wrap .i64 (a + b) := by
  obtain ⟨q, e⟩ := wrap_off a
  rw [e, ← wrap_shift (a + b) q]
  congr 1
  omega

theorem wrap_add2 (a b : Int) : IntKind.wrap .i64 (a + IntKind.wrap .i64 b) = IntKind.wrap .i64 (a + b) := by
  rw [Int.add_comm, wrap_add, Int.add_comm]

theorem wrap_wrap (a : Int) : IntKind.wrap .i64 (IntKind.wrap .i64 a) = IntKind.wrap .i64 a := by
  have := wrap_add a 0
  simpa using this

theorem ex_bytes {h : Heap} {b o n : Nat} {x : Bs n} (hc : atBytes h b o n x) {P : Bs n → Prop} (hp : P x) : ∃ y, atBytes h b o n y ∧ P y := ⟨x, hc, hp⟩
theorem ex_slice2 {h : Heap} {b o b' o' : Nat} {s s' : Sl} (hc : at1 h b o (slVal s)) (hc' : at1 h b' o' (slVal s')) {P : Sl → Sl → Prop} (hp : P s s') : ∃ n m, (at1 h b o (slVal n) ∧ at1 h b' o' (slVal m)) ∧ P n m := ⟨s, s', ⟨hc, hc'⟩, hp⟩

end Go.Vc
