/- Conditions for the operations that make memory, write it, or call. -/
import Derived.Test.YtgdhddignbkloaaVcD
import Derived.Laws.Append
import Derived.Laws.Externs
namespace Go.Vc
open Go

structure SameEnv (w w' : World) : Prop where
  os : w'.os = w.os
  tape : w'.tape = w.tape
  output : w'.output = w.output
  drawn : w.drawn ≤ w'.drawn

theorem SameEnv.refl (w : World) : SameEnv w w := ⟨rfl, rfl, rfl, Nat.le_refl _⟩
theorem SameEnv.trans {a b c : World} (h : SameEnv a b) (k : SameEnv b c) : SameEnv a c := ⟨k.os.trans h.os, k.tape.trans h.tape, k.output.trans h.output, Nat.le_trans h.drawn k.drawn⟩

/-- A call returns, and of what it hands back and of the heap behind it something holds. -/
def CallsH (P : Program) (f : FuncId) (args : List Value) (h : Heap) (R : Value → Heap → Prop) : Prop :=
  ∀ w : World, w.heap = h → Calls P f args.toArray w fun e w' => SameEnv w w' ∧ ∃ v, e = .returned v ∧ R v w'.heap

theorem CallsH.mono {P : Program} {f : FuncId} {args : List Value} {h : Heap} {R R' : Value → Heap → Prop} (hc : CallsH P f args h R) (hr : ∀ v h', R v h' → R' v h') : CallsH P f args h R' :=
  fun w hw => (hc w hw).mono fun _ _ ⟨h1, v, h2, h3⟩ => ⟨h1, v, h2, hr _ _ h3⟩

theorem cel_putc (h : Heap) (b o : Nat) (v : Value) (b' o' : Nat) : cel (putc h b o v) b' o' = if b = b' ∧ o = o' ∧ (cel h b o).isSome = true then some v else cel h b' o' := by
  unfold cel putc
  rw [Array.getElem?_modify]
  by_cases hb : b = b'
  · subst hb
    simp only [if_true, true_and]
    cases hh : h[b]? with
    | none => simp
    | some x =>
      cases x
      case cells c e f =>
        simp only [Option.map_some, Array.getElem?_setIfInBounds]
        by_cases ho : o = o'
        · subst ho
          by_cases hl : o < c.size
          · simp [hl]
          · simp [hl]
        · simp [ho]
      all_goals simp
  · simp [hb]

theorem frz_putc (h : Heap) (b o : Nat) (v : Value) (b' o' : Nat) : frz (putc h b o v) b' o' = frz h b' o' := by
  unfold frz putc
  rw [Array.getElem?_modify]
  by_cases hb : b = b'
  · subst hb
    simp only [if_true]
    cases hh : h[b]? with
    | none => rfl
    | some x => cases x <;> rfl
  · simp [hb]

theorem size_putc (h : Heap) (b o : Nat) (v : Value) : (putc h b o v).size = h.size := by simp [putc]

theorem wok_putc {h : Heap} {b o n : Nat} {b' o' : Nat} {v : Value} (hw : wok h b o n) : wok (putc h b' o' v) b o n := by
  intro j hj
  obtain ⟨h1, h2⟩ := hw j hj
  refine ⟨?_, by rw [frz_putc]; exact h2⟩
  rw [cel_putc]
  split
  · rfl
  · exact h1

section
variable {P : Program} {C : Ctx}

theorem run_store1 {w : World} {b o : Nat} {v : Value} (h1 : (cel w.heap b o).isSome = true) (h2 : frz w.heap b o = false) (hv : isOne v = true) :
    (store ⟨b, o, none⟩ v).run P w = .ok () (w.setCell ⟨b, o, none⟩ v) := by
  obtain ⟨u, hu⟩ := Option.isSome_iff_exists.1 h1
  have hc : w.cell? ⟨b, o, none⟩ = some u := by rw [cell?_eq, hu]
  have hf : w.frozen? ⟨b, o, none⟩ = false := h2
  cases v <;> first | (simp [isOne] at hv; done) | simp [store, Sem.run, hc, hf]

theorem storeCells_run (l : Loc) : ∀ (vs : List Value) (i : Nat) (w : World), wok w.heap l.b (l.o + i) vs.length → (∀ v ∈ vs, isOne v = true) →
    ∃ w', (storeCells l.addr vs i).run P w = .ok () w' ∧ w'.heap = putl w.heap l.b (l.o + i) vs ∧ SameEnv w w'
  | [], i, w, _, _ => ⟨w, rfl, rfl, SameEnv.refl w⟩
  | v :: vs, i, w, hk, h1 => by
    have hk0 := hk 0 (by simp)
    simp only [Nat.add_zero] at hk0
    have hs := run_store1 (P := P) hk0.1 hk0.2 (h1 v (by simp))
    have hk' : wok (w.setCell ⟨l.b, l.o + i, none⟩ v).heap l.b (l.o + (i + 1)) vs.length := by
      rw [setCell_heap]
      refine wok_putc (fun j hj => ?_)
      have := hk (j + 1) (by simp; omega)
      rwa [show l.o + i + (j + 1) = l.o + (i + 1) + j by omega] at this
    obtain ⟨w', e1, e2, e3⟩ := storeCells_run l vs (i + 1) _ hk' (fun u hu => h1 u (by simp [hu]))
    refine ⟨w', ?_, ?_, SameEnv.trans (b := w.setCell ⟨l.b, l.o + i, none⟩ v) ⟨rfl, rfl, rfl, Nat.le_refl _⟩ e3⟩
    · simp only [storeCells, Sem.run_bind, addr_add]
      show ((store ⟨l.b, l.o + i, none⟩ v).run P w).andThen _ = _
      rw [hs]
      exact e1
    · rw [e2, setCell_heap]
      rfl

mutual
/-- What may be stored. -/
def TV.plain : TV → Bool
  | .tup _ => false
  | .agg xs => TVs.plain xs
  | _ => true
def TVs.plain : List TV → Bool
  | [] => true
  | x :: xs => TV.plain x && TVs.plain xs
end

mutual
theorem TV.plain_cells : ∀ t : TV, t.plain = true → ∀ v ∈ t.cells, isOne v = true
  | .int .., _, v, hv | .bool .., _, v, hv | .str .., _, v, hv | .ptr .., _, v, hv | .map .., _, v, hv | .fn .., _, v, hv => by
    simp only [TV.cells, List.mem_singleton] at hv; subst hv; rfl
  | .slice .., _, v, hv => by simp only [TV.cells, List.mem_singleton] at hv; subst hv; rfl
  | .one x, _, v, hv => by simp only [TV.cells, List.mem_singleton] at hv; subst hv; exact x.h
  | .bytes n b, _, v, hv => by simp only [TV.cells, List.mem_map] at hv; obtain ⟨c, _, rfl⟩ := hv; rfl
  | .words k n b, _, v, hv => by simp only [TV.cells, List.mem_map] at hv; obtain ⟨c, _, rfl⟩ := hv; rfl
  | .tup xs, h, v, hv => by simp [TV.plain] at h
  | .agg xs, h, v, hv => TVs.plain_cells xs (by simpa [TV.plain] using h) v (by simpa [TV.cells] using hv)
theorem TVs.plain_cells : ∀ ts : List TV, TVs.plain ts = true → ∀ v ∈ TVs.cells ts, isOne v = true
  | [], _, v, hv => by simp [TVs.cells] at hv
  | x :: xs, h, v, hv => by
    simp only [TVs.plain, Bool.and_eq_true] at h
    simp only [TVs.cells, List.mem_append] at hv
    rcases hv with hv | hv
    · exact TV.plain_cells x h.1 v hv
    · exact TVs.plain_cells xs h.2 v hv
end

/-- So many elements of a size, read from a slice. -/
def slAt (h : Heap) (s : Sl) (size : Nat) (cs : List Value) : Prop :=
  cs.length = s.len * size ∧ (s.len = 0 ∧ s.a = none ∨ ∃ l, s.a = some l ∧ ∀ j, j < cs.length → cel h l.b (l.o + j) = cs[j]?)

def zeros (z : TV) : Nat → List Value
  | 0 => []
  | n + 1 => z.cells ++ zeros z n

/-- append: elements 'new' behind those of s. -/
def vcAppend (C : Ctx) (e : TypeId) (s : Sl) (n : Nat) (new : List Value) (h : Heap) (K : Sl → Heap → Prop) : Prop :=
  ∃ old : List Value, slAt h s (C.ti e).size old ∧ (s.len + n) * (C.ti e).bytes ≤ 70368744177664 ∧ 0 < (C.ti e).bytes ∧
    (s.len + n ≤ s.cap → (n = 0 ∨ s.a.isSome = true) ∧ ∀ l, s.a = some l → wok h l.b (l.o + s.len * (C.ti e).size) new.length ∧
      K ⟨some l, s.len + n, s.cap⟩ (putl h l.b (l.o + s.len * (C.ti e).size) new)) ∧
    (s.len + n ≤ s.cap → s.a = none → K ⟨none, s.len + n, s.cap⟩ h) ∧
    (s.cap < s.len + n → ∀ c, s.len + n ≤ c → K ⟨some ⟨h.size, 0⟩, s.len + n, c⟩ (h.push (row (old ++ new ++ zeros (C.ti e).z (c - (s.len + n))) e)))

theorem cells_addr {w : World} {l : Loc} {cs : List Value} (h : ∀ j, j < cs.length → cel w.heap l.b (l.o + j) = cs[j]?) : ∀ j v, cs[j]? = some v → w.cell? (l.addr.add j) = some v := by
  intro j v hj
  have hlt : j < cs.length := (List.getElem?_eq_some_iff.1 hj).1
  rw [addr_add]
  show w.cell? ⟨l.b, l.o + j, none⟩ = _
  rw [cell?_eq, h j hlt, hj]

theorem firstCells_run {w : World} {s : Sl} {size : Nat} {cs : List Value} (h : slAt w.heap s size cs) : (Builtin.firstCells size s.len (slVal s)).run P w = .ok cs.toArray w := by
  obtain ⟨h1, h2⟩ := h
  obtain ⟨a, len, cap⟩ := s
  rcases h2 with ⟨h0, ha⟩ | ⟨l, ha, hc⟩
  · dsimp only at h0 ha h1
    subst h0; subst ha
    have : cs = [] := List.eq_nil_of_length_eq_zero (by omega)
    subst this
    exact run_firstCells_none w size 0 0 cap
  · dsimp only at ha h1
    subst ha
    exact run_firstCells_some w size len l.addr len cap cs h1 (cells_addr hc)

theorem zeroCells_eq (z : TV) (n : Nat) : Builtin.zeroCells z.cells.toArray n = (zeros z n).toArray := by
  unfold Builtin.zeroCells
  apply Array.toList_inj.1
  simp only [Array.toList_map, Array.toList_range, List.size_toArray]
  have hz : ∀ m, (zeros z m).length = m * z.cells.length := by
    intro m
    induction m with
    | zero => simp [zeros]
    | succ m ih => simp [zeros, ih, Nat.succ_mul, Nat.add_comm]
  have hg : ∀ m i, i < m * z.cells.length → (zeros z m)[i]? = z.cells[i % z.cells.length]? := by
    intro m
    induction m with
    | zero => intro i hi; omega
    | succ m ih =>
      intro i hi
      simp only [zeros]
      by_cases hl : i < z.cells.length
      · rw [List.getElem?_append_left hl, Nat.mod_eq_of_lt hl]
      · rw [List.getElem?_append_right (by omega), ih (i - z.cells.length) (by rw [Nat.succ_mul] at hi; omega)]
        rw [Nat.mod_eq_sub_mod (by omega : i ≥ z.cells.length)]
  apply List.ext_getElem?
  intro i
  by_cases hi : i < n * z.cells.length
  · rw [hg n i hi]
    have hpos : 0 < z.cells.length := by
      rcases Nat.eq_zero_or_pos z.cells.length with h | h
      · rw [h] at hi; omega
      · exact h
    have hm := Nat.mod_lt i hpos
    simp [hi, hm]
  · rw [List.getElem?_eq_none (by simp; omega), List.getElem?_eq_none (by rw [hz]; omega)]

theorem vcAppend_sound (hC : C.Ok) {t u ty e : TypeId} {s : Sl} {n : Nat} {new : List Value} {h : Heap} {K : Option TV → Heap → Prop} (hv : vcAppend C e s n new h fun s' h' => K (some (.slice s')) h')
    (ht : (C.ti t).d = some (.slice e)) (he : (C.ti e).d.isSome = true) (hu : (∃ e', C.P.underlying u = some (.slice e')) ∨ C.P.underlying u = some .string) {X : Value} (hone : ∀ v ∈ new, isOne v = true)
    (hlen : ∀ w : World, (Builtin.lenOf X).run C.P w = .ok n w) (hnew : ∀ w : World, w.heap = h → (Builtin.firstCells (C.ti e).size n X).run C.P w = .ok new.toArray w)
    (hnt : isTup (C.ti e).d = false) (_hnl : new.length = n * (C.ti e).size)
    (w : World) (hw : w.heap = h) : ∃ r v w', (Builtin.append_ #[t, u] ty #[(TV.slice s).val, X]).run C.P w = .ok v w' ∧ K r w'.heap ∧ Rel r v ∧ SameEnv w w' := by
  subst hw
  obtain ⟨old, hold, hb1, hb0, hroom, hnil, hgrow⟩ := hv
  obtain ⟨d', hd'⟩ := Option.isSome_iff_exists.1 he
  obtain ⟨i, hi, hsz, hby⟩ := hC.info hd'
  obtain ⟨i2, hi2, hz2⟩ := hC.zero e (Ctx.ti_lt he) he
  obtain rfl : i = i2 := by rw [hi] at hi2; exact Option.some.inj hi2
  have hz : i.zero = some (C.ti e).z.val := by
    rcases hz2 with h1 | h1
    · rw [hnt] at h1; cases h1
    · exact h1
  have hut := hC.d ht
  have hc : C.P.cellsOf e = (C.ti e).size := by rw [← hsz]; simp [Program.cellsOf, hi]
  have hle : s.len + n ≤ 70368744177664 := by
    have : s.len + n ≤ (s.len + n) * (C.ti e).bytes := Nat.le_mul_of_pos_right _ hb0
    omega
  by_cases hr : s.len + n ≤ s.cap
  · cases ha : s.a with
    | none =>
      obtain ⟨h0, _⟩ := hroom hr
      have h0 : n = 0 := by rcases h0 with h0 | h0; exact h0; rw [ha] at h0; cases h0
      refine ⟨_, _, w, ?_, hnil hr ha, .some rfl, SameEnv.refl w⟩
      unfold Builtin.append_
      simp only [TV.val, slVal, ha, Option.map_none]
      rcases hu with ⟨e', hdu⟩ | hdu <;> simp [run_underlying hut, run_sizeOf w hi, run_underlying hdu, hr, hc, hnew w rfl, hlen]
    | some l =>
      obtain ⟨_, hl⟩ := hroom hr
      obtain ⟨hk, hKK⟩ := hl l ha
      obtain ⟨w', e1, e2, e3⟩ := storeCells_run (P := C.P) ⟨l.b, l.o + s.len * (C.ti e).size⟩ new 0 w hk hone
      refine ⟨_, _, w', ?_, by rw [e2]; exact hKK, .some rfl, e3⟩
      unfold Builtin.append_
      simp only [TV.val, slVal, ha, Option.map_some]
      rcases hu with ⟨e', hdu⟩ | hdu <;> simp [run_underlying hut, run_sizeOf w hi, run_underlying hdu, hr, hc, hnew w rfl, hlen, addr_add, e1]
  · have hcap := nextslicecap_le (need := s.len + n) (old := s.cap) (by omega)
    have hfit : ¬ (281474976710656 < Builtin.nextslicecap (s.len + n) s.cap * (C.ti e).bytes) := by
      have := Nat.mul_le_mul_right (C.ti e).bytes hcap
      rw [Nat.mul_assoc] at this
      omega
    have h63 : ¬ (9223372036854775807 < ((s.len : Int) + (n : Int))) := by omega
    have hold' := firstCells_run (P := C.P) (w := w.drew) hold
    have hnew' := hnew w.drew rfl
    refine ⟨some (.slice ⟨some ⟨w.heap.size, 0⟩, s.len + n, grownCap w (s.len + n) s.cap e⟩), _, w.drew.alloc (.cells (old.toArray ++ (new.toArray ++ Builtin.zeroCells (C.ti e).z.cells.toArray (grownCap w (s.len + n) s.cap e - (s.len + n)))) e), ?_, ?_, .some rfl, ⟨rfl, rfl, rfl, Nat.le_succ _⟩⟩
    · unfold Builtin.append_
      simp only [TV.val, slVal] at hold' ⊢
      have h63' : ¬ (9223372036854775807 < ((s.len : Int) + (n : Int)) ∧ (C.ti e).bytes = 0) := by omega
      have hti' := run_typeInfo (P := C.P) (w := w.drew) hi
      have hsize := run_sizeOf (P := C.P) w hi
      have hti := run_typeInfo (P := C.P) (w := w) hi
      have hzv : (zeroValue e).run C.P w.drew = .ok (C.ti e).z.val w.drew := by simp [zeroValue, typeInfo, hi, hz]
      rcases hu with ⟨e', hdu⟩ | hdu
      all_goals simp [run_underlying hut, hsize, hti, run_underlying hdu, hlen, hr, hc, hby, hfit]
      all_goals simp [h63', Question.forced, hti', hold', hnew', hzv, newRow, grownCap, TV.val_cells, Loc.addr]
    · have hc : s.len + n ≤ grownCap w (s.len + n) s.cap e := by
        simp only [grownCap, Question.cut]
        omega
      have := hgrow (by omega) _ hc
      rw [zeroCells_eq]
      show K _ (w.heap.push _)
      unfold row at this
      simpa using this

def vcAppendOp (C : Ctx) (ts : List TypeId) (xs : List (Option TV)) (h : Heap) (K : Option TV → Heap → Prop) : Prop :=
  match ts, xs with
  | [t, u], [some (.slice s), some (.slice x)] => match (C.ti t).d, (C.ti u).d with
    | some (.slice e), some (.slice _) => match notTuple (C.ti e).d with
      | true => ∃ new, slAt h x (C.ti e).size new ∧ (∀ v ∈ new, isOne v = true) ∧ vcAppend C e s x.len new h fun s' h' => K (some (.slice s')) h'
      | false => False
    | _, _ => False
  | [t, u], [some (.slice s), some (.str x)] => match (C.ti t).d, (C.ti u).d with
    | some (.slice e), some .string => match (C.ti e).d with
      | some (.int .u8) => vcAppend C e s x.length (x.map fun c => .int .u8 (c.toNat : Int)) h fun s' h' => K (some (.slice s')) h'
      | _ => False
    | _, _ => False
  | [t, u], [some (.slice s), some (.int .i64 n)] => match (C.ti t).d, (C.ti u).d with
    | some (.slice e), some (.int _) => match (C.ti e).d, (C.ti e).z with
      | some (.int .u8), .int .u8 z => 0 ≤ n ∧ n * ((C.ti e).bytes : Int) ≤ 70368744177664 ∧ vcAppend C e s n.toNat (List.replicate n.toNat (.int .u8 z)) h fun s' h' => K (some (.slice s')) h'
      | _, _ => False
    | _, _ => False
  | _, _ => False

theorem notTuple_isSome {d : Option TypeDesc} (h : notTuple d = true) : d.isSome = true ∧ isTup d = false := by
  cases d with
  | none => cases h
  | some d => cases d <;> first | exact ⟨rfl, rfl⟩ | cases h

theorem relL2 {x y : Option TV} {vs : List Value} (h : RelL [x, y] vs) : ∃ v u, vs = [v, u] ∧ Rel x v ∧ Rel y u := by
  cases vs with
  | nil => exact h.elim
  | cons v vs => cases vs with
    | nil => exact h.2.elim
    | cons u vs => cases vs with
      | nil => exact ⟨v, u, rfl, h.1, h.2.1⟩
      | cons _ _ => exact h.2.2.elim

theorem zeros_u8 (z : Int) : ∀ n, zeros (.int .u8 z) n = List.replicate n (.int .u8 z)
  | 0 => rfl
  | n + 1 => by rw [zeros, zeros_u8 z n]; rfl

theorem vcAppendZ_sound (hC : C.Ok) {t u ty e : TypeId} {s : Sl} {m : Int} {k : IntKind} {h : Heap} {K : Option TV → Heap → Prop} (h0 : 0 ≤ m) (hm : m * ((C.ti e).bytes : Int) ≤ 70368744177664) (hv : vcAppend C e s m.toNat (zeros (C.ti e).z m.toNat) h fun s' h' => K (some (.slice s')) h')
    (ht : (C.ti t).d = some (.slice e)) (he : (C.ti e).d.isSome = true) (hu : C.P.underlying u = some (.int k)) (hnt : isTup (C.ti e).d = false) (hone : ∀ v ∈ zeros (C.ti e).z m.toNat, isOne v = true)
    (w : World) (hw : w.heap = h) : ∃ r v w', (Builtin.append_ #[t, u] ty #[(TV.slice s).val, .int .i64 m]).run C.P w = .ok v w' ∧ K r w'.heap ∧ Rel r v ∧ SameEnv w w' := by
  subst hw
  obtain ⟨old, hold, hb1, hb0, hroom, hnil, hgrow⟩ := hv
  obtain ⟨d', hd'⟩ := Option.isSome_iff_exists.1 he
  obtain ⟨i, hi, hsz, hby⟩ := hC.info hd'
  obtain ⟨i2, hi2, hz2⟩ := hC.zero e (Ctx.ti_lt he) he
  obtain rfl : i = i2 := by rw [hi] at hi2; exact Option.some.inj hi2
  have hz : i.zero = some (C.ti e).z.val := by
    rcases hz2 with h1 | h1
    · rw [hnt] at h1; cases h1
    · exact h1
  have hzs : (C.ti e).z.size = (C.ti e).size := by
    rcases hC.size e (Ctx.ti_lt he) with h1 | ⟨_, h1⟩
    · rw [hnt] at h1; cases h1
    · exact h1
  have hut := hC.d ht
  have hc : C.P.cellsOf e = (C.ti e).size := by rw [← hsz]; simp [Program.cellsOf, hi]
  obtain ⟨n, rfl⟩ := Int.eq_ofNat_of_zero_le h0
  simp only [Int.toNat_natCast] at hb1 hroom hnil hgrow hone
  have hn1 : n ≤ n * (C.ti e).bytes := Nat.le_mul_of_pos_right _ hb0
  have hm' : n * (C.ti e).bytes ≤ 70368744177664 := by
    have : ((n * (C.ti e).bytes : Nat) : Int) ≤ 70368744177664 := by rw [Int.natCast_mul]; exact hm
    omega
  have hle : s.len + n ≤ 70368744177664 := by
    have : s.len + n ≤ (s.len + n) * (C.ti e).bytes := Nat.le_mul_of_pos_right _ hb0
    omega
  have hwrap : IntKind.wrap .i64 (n : Int) = (n : Int) := IntWalk.i64_in _ ⟨by omega, by omega⟩
  have hneg : ¬ ((n : Int) < 0) := by omega
  have hbig : ¬ (281474976710656 < (n : Int) * ((C.ti e).bytes : Int)) := by
    rw [← Int.natCast_mul]
    omega
  have hzl : (C.ti e).z.cells.length = (C.ti e).size := by rw [TV.cells_length, hzs]
  have hempty : n * (C.ti e).size = 0 → zeros (C.ti e).z n = [] := fun h => by
    apply List.eq_nil_of_length_eq_zero
    rw [← List.size_toArray, ← zeroCells_eq]
    simp [Builtin.zeroCells, hzl, h]
  have happ : ∀ w : World, (if n * (C.ti e).size = 0 then (pure #[] : Sem (Array Value)) else (zeroValue e).bind fun z => pure (Builtin.zeroCells z.cells n)).run C.P w = .ok (zeros (C.ti e).z n).toArray w := by
    intro w
    have hzv : (zeroValue e).run C.P w = .ok (C.ti e).z.val w := by simp [zeroValue, typeInfo, hi, hz]
    by_cases h9 : n * (C.ti e).size = 0
    · rw [if_pos h9, hempty h9]; rfl
    · rw [if_neg h9]
      show ((zeroValue e) >>= fun z => pure (Builtin.zeroCells z.cells n)).run C.P w = _
      simp [hzv, TV.val_cells, zeroCells_eq]
  have hti := run_typeInfo (P := C.P) (w := w) hi
  have hsize := run_sizeOf (P := C.P) w hi
  by_cases hr : s.len + n ≤ s.cap
  · cases ha : s.a with
    | none =>
      obtain ⟨h0', _⟩ := hroom hr
      have h0' : n = 0 := by rcases h0' with h0' | h0'; exact h0'; rw [ha] at h0'; cases h0'
      refine ⟨_, _, w, ?_, hnil hr ha, .some rfl, SameEnv.refl w⟩
      subst h0'
      unfold Builtin.append_
      simp only [TV.val, slVal, ha, Option.map_none]
      have hr' : s.len ≤ s.cap := by omega
      simp [run_underlying hut, run_underlying hu, hsize, hti, hc, asInt, asIntOf, hr', show IntKind.wrap .i64 0 = 0 from rfl]
    | some l =>
      obtain ⟨_, hl⟩ := hroom hr
      obtain ⟨hk, hKK⟩ := hl l ha
      obtain ⟨w', e1, e2, e3⟩ := storeCells_run (P := C.P) ⟨l.b, l.o + s.len * (C.ti e).size⟩ (zeros (C.ti e).z n) 0 w hk hone
      refine ⟨_, _, w', ?_, by rw [e2]; exact hKK, .some rfl, e3⟩
      have hz0 : (zeroValue e).run C.P w = .ok (C.ti e).z.val w := by simp [zeroValue, typeInfo, hi, hz]
      unfold Builtin.append_
      simp only [TV.val, slVal, ha, Option.map_some]
      by_cases h9 : n * (C.ti e).size = 0
      · have hz9 := hempty h9
        rw [hz9] at e1
        simp [run_underlying hut, run_underlying hu, hsize, hti, hc, asInt, asIntOf, hr, hwrap, hneg, hby, hbig, h9, addr_add, e1]
      · simp [run_underlying hut, run_underlying hu, hsize, hti, hc, asInt, asIntOf, hr, hwrap, hneg, hby, hbig, h9, hz0, TV.val_cells, zeroCells_eq, addr_add, e1]
  · have hcap := nextslicecap_le (need := s.len + n) (old := s.cap) (by omega)
    have hfit : ¬ (281474976710656 < Builtin.nextslicecap (s.len + n) s.cap * (C.ti e).bytes) := by
      have := Nat.mul_le_mul_right (C.ti e).bytes hcap
      rw [Nat.mul_assoc] at this
      omega
    have h63 : ¬ (9223372036854775807 < ((s.len : Int) + (n : Int))) := by omega
    have hold' := firstCells_run (P := C.P) (w := w.drew) hold
    refine ⟨some (.slice ⟨some ⟨w.heap.size, 0⟩, s.len + n, grownCap w (s.len + n) s.cap e⟩), _, w.drew.alloc (.cells (old.toArray ++ ((zeros (C.ti e).z n).toArray ++ Builtin.zeroCells (C.ti e).z.cells.toArray (grownCap w (s.len + n) s.cap e - (s.len + n)))) e), ?_, ?_, .some rfl, ⟨rfl, rfl, rfl, Nat.le_succ _⟩⟩
    · unfold Builtin.append_
      simp only [TV.val, slVal] at hold' ⊢
      have hti' := run_typeInfo (P := C.P) (w := w.drew) hi
      have hzv : (zeroValue e).run C.P w.drew = .ok (C.ti e).z.val w.drew := by simp [zeroValue, typeInfo, hi, hz]
      by_cases h9 : n * (C.ti e).size = 0
      · have hz9 := hempty h9
        simp [run_underlying hut, run_underlying hu, hsize, hti, hc, asInt, asIntOf, hr, hwrap, hneg, hby, hbig, hfit]
        simp [h63, h9, hz9, Question.forced, hti', hold', hzv, newRow, grownCap, TV.val_cells, Loc.addr]
      · simp [run_underlying hut, run_underlying hu, hsize, hti, hc, asInt, asIntOf, hr, hwrap, hneg, hby, hbig, hfit]
        simp [h63, h9, Question.forced, hti', hold', hzv, newRow, grownCap, TV.val_cells, zeroCells_eq, Loc.addr]
    · have hc : s.len + n ≤ grownCap w (s.len + n) s.cap e := by
        simp only [grownCap, Question.cut]
        omega
      have := hgrow (by omega) _ hc
      rw [zeroCells_eq]
      show K _ (w.heap.push _)
      unfold row at this
      simpa using this

theorem vcAppendOp_sound (hC : C.Ok) {ts : Array TypeId} {ty : TypeId} {xs : List (Option TV)} {vs : Array Value} {h : Heap} {K : Option TV → Heap → Prop} (hv : vcAppendOp C ts.toList xs h K) (hr : RelL xs vs.toList)
    (w : World) (hw : w.heap = h) : ∃ r v w', (Builtin.append_ ts ty vs).run C.P w = .ok v w' ∧ K r w'.heap ∧ Rel r v ∧ SameEnv w w' := by
  obtain ⟨ts⟩ := ts
  obtain ⟨vs⟩ := vs
  change vcAppendOp C ts xs h K at hv
  change RelL xs vs at hr
  unfold vcAppendOp at hv
  split at hv
  · obtain ⟨v, u, rfl, h1, h2⟩ := relL2 hr
    obtain rfl := h1 _ rfl
    obtain rfl := h2 _ rfl
    split at hv
    · rename_i e e' hd hd'
      split at hv
      · rename_i hn
        obtain ⟨hs, ht⟩ := notTuple_isSome hn
        obtain ⟨new, ha, hone, hv⟩ := hv
        exact vcAppend_sound hC hv hd hs (.inl ⟨_, hC.d hd'⟩) hone (fun w => by simp [TV.val, slVal, Builtin.lenOf]) (fun w hw => by subst hw; exact firstCells_run ha) ht ha.1 w hw
      · exact hv.elim
    · exact hv.elim
  · obtain ⟨v, u, rfl, h1, h2⟩ := relL2 hr
    obtain rfl := h1 _ rfl
    obtain rfl := h2 _ rfl
    split at hv
    · rename_i e hd hd'
      split at hv
      · rename_i he
        have hsz : (C.ti e).size = 1 := by
          have hl := Ctx.ti_lt (C := C) (t := e) (by simp [he])
          rcases hC.size e hl with h1 | ⟨h1, _⟩
          · simp [he, isTup] at h1
          · have h2 : (C.ti e).sh = .int .u8 := by rw [hC.tab e hl]; simp [TI.of, shOf, hC.d he]
            rw [h2] at h1; rw [← h1]; rfl
        refine vcAppend_sound hC hv hd (by simp [he]) (.inr (hC.d hd')) ?_ (fun w => by simp [TV.val, Builtin.lenOf, bsize]) (fun w hw => ?_) (by simp [he, isTup]) (by simp [hsz]) w hw
        · intro v hv
          simp only [List.mem_map] at hv
          obtain ⟨c, _, rfl⟩ := hv
          rfl
        · simp [TV.val, Builtin.firstCells, ByteArray.data_extract]
      · exact hv.elim
    · exact hv.elim
  · obtain ⟨v, u, rfl, h1, h2⟩ := relL2 hr
    obtain rfl := h1 _ rfl
    obtain rfl := h2 _ rfl
    split at hv
    · rename_i _ n _ _ e k hd hd'
      split at hv
      · rename_i z hde hz
        obtain ⟨h0, hm, hv⟩ := hv
        have hzz : zeros (C.ti e).z n.toNat = List.replicate n.toNat (.int .u8 z) := by
          rw [hz]; exact zeros_u8 z _
        exact vcAppendZ_sound hC h0 hm (by rw [hzz]; exact hv) hd (by rw [hde]; rfl) (hC.d hd') (by rw [hde]; rfl) (by
          rw [hzz]
          intro v hv
          rw [List.eq_of_mem_replicate hv]
          rfl) w hw
      · exact hv.elim
    · exact hv.elim
  · exact hv.elim

/-- What bytes of a string are laid as. -/
def strRow (bs : List UInt8) (c : Nat) (e : TypeId) : Obj := .cells ((bs.map fun (b : UInt8) => Value.int .u8 (b.toNat : Int)) ++ List.replicate (c - bs.length) (Value.int .u8 0)).toArray e (c, c + 1)

def vcUpdate (C : Ctx) (t : TypeId) (m k x : Option TV) (h : Heap) (K : Option TV → Heap → Prop) : Prop :=
  match (C.ti t).d, m, k, x with
  | some (.map kt _), some (.map p), some kv, some tv => match (C.ti kt).d with
    | some d => match keyLike d kv with
      | true => Nn p fun r => ∃ es c, h[r]? = some (mapO es c) ∧ AllLike d es ∧ K none (h.setIfInBounds r (mapO (putE kv tv c es) (clockE kv c es)))
      | false => False
    | none => False
  | _, _, _, _ => False

def vcDelete (C : Ctx) (ts : List TypeId) (m k : Option TV) (h : Heap) (K : Option TV → Heap → Prop) : Prop :=
  match ts, m, k with
  | t :: _, some (.map p), some kv => match (C.ti t).d with
    | some (.map kt _) => match (C.ti kt).d with
      | some d => match keyLike d kv with
        | true => Nn p fun r => ∃ es c, h[r]? = some (mapO es c) ∧ AllLike d es ∧ K (some (.tup [])) (h.setIfInBounds r (mapO (dropE kv es) c))
        | false => False
      | none => False
    | _ => False
  | _, _, _ => False

/-- A step of a loop over a map into which nothing has been laid since the loop began. -/
def vcNext (p : Option Loc) (h : Heap) (K : Option TV → Heap → Prop) : Prop :=
  Nn p fun l => l.o = 0 ∧ ∃ bm since c0 seen es c, h[l.b]? = some (.mapIter (some bm) since seen c0) ∧ h[bm]? = some (mapO es c) ∧ (∀ e ∈ es, e.2.2 < since) ∧ since ≤ c0 ∧
    ((∀ e ∈ es, seen.contains e.2.2 = true) → K (some (.tup [.bool false])) h) ∧
    ∀ e ∈ es, seen.contains e.2.2 = false → K (some (.tup [.bool true, e.1, e.2.1])) (h.setIfInBounds l.b (.mapIter (some bm) since (seen.push e.2.2) c))

/-- The step's key and value. -/
def vcEntry (p : Option Loc) (h : Heap) (K : Option TV → Prop) : Prop :=
  Nn p fun l => l.o = 0 ∧ ∃ bm since seen es c e, h[l.b]? = some (.mapIter (some bm) since (Array.push seen e.2.2) c) ∧ h[bm]? = some (mapO es c) ∧ e ∈ es ∧ (es.map (·.2.2)).Nodup ∧
    ∃ a b : One, a.v = TV.val e.1 ∧ b.v = TV.val e.2.1 ∧ K (some (.tup [.one a, .one b]))

/-- copy: as many elements as the shorter of the two has. -/
def vcCopy (C : Ctx) (ts : List TypeId) (xs : List (Option TV)) (h : Heap) (K : Option TV → Heap → Prop) : Prop :=
  match ts, xs with
  | [t, u], [some (.slice d), some (.slice s)] => match (C.ti t).d, (C.ti u).d with
    | some (.slice e), some (.slice _) => match notTuple (C.ti e).d with
      | true => ∃ new, slAt h ⟨s.a, Nat.min s.len d.len, Nat.min s.len d.len⟩ (C.ti e).size new ∧ (∀ v ∈ new, isOne v = true) ∧ (d.a = none → K (some (.int .i64 (Nat.min s.len d.len : Nat))) h) ∧
          ∀ l, d.a = some l → wok h l.b l.o new.length ∧ Bind (putl h l.b l.o new) fun h' => K (some (.int .i64 (Nat.min s.len d.len : Nat))) h'
      | false => False
    | _, _ => False
  | [t, u], [some (.slice d), some (.str x)] => match (C.ti t).d, (C.ti u).d with
    | some (.slice e), some .string => match (C.ti e).d with
      | some (.int .u8) => (d.a = none → K (some (.int .i64 (Nat.min x.length d.len : Nat))) h) ∧
          ∀ l, d.a = some l → wok h l.b l.o (Nat.min x.length d.len) ∧ Bind (putl h l.b l.o ((x.take (Nat.min x.length d.len)).map fun c => Value.int .u8 (c.toNat : Int))) fun h' => K (some (.int .i64 (Nat.min x.length d.len : Nat))) h'
      | _ => False
    | _, _ => False
  | _, _ => False

theorem vcCopy_sound {C : Ctx} (hC : C.Ok) {ts : Array TypeId} {ty : TypeId} {xs : List (Option TV)} {vs : Array Value} {h : Heap} {K : Option TV → Heap → Prop} (hv : vcCopy C ts.toList xs h K) (hr : RelL xs vs.toList)
    (w : World) (hw : w.heap = h) : ∃ r v w', (Builtin.copy_ ts ty vs).run C.P w = .ok v w' ∧ K r w'.heap ∧ Rel r v ∧ SameEnv w w' := by
  subst hw
  obtain ⟨ts⟩ := ts
  obtain ⟨vs⟩ := vs
  change vcCopy C ts xs w.heap K at hv
  change RelL xs vs at hr
  unfold vcCopy at hv
  split at hv
  · rename_i t u d s
    obtain ⟨v, u', rfl, h1, h2⟩ := relL2 hr
    obtain rfl := h1 _ rfl
    obtain rfl := h2 _ rfl
    split at hv
    · rename_i e e' hd hd'
      split at hv
      · rename_i hn
        obtain ⟨hs, ht⟩ := notTuple_isSome hn
        obtain ⟨new, ha, hone, hnil, hput⟩ := hv
        obtain ⟨de, hde⟩ := Option.isSome_iff_exists.1 hs
        obtain ⟨i, hi, hsz, hby⟩ := hC.info hde
        have hut := hC.d hd
        have hc : C.P.cellsOf e = (C.ti e).size := by rw [← hsz]; simp [Program.cellsOf, hi]
        have hf := firstCells_run (P := C.P) (w := w) ha
        have hf' : (Builtin.firstCells (C.ti e).size (Nat.min s.len d.len) (slVal s)).run C.P w = .ok new.toArray w := by
          rw [← hf]
          simp only [slVal]
          cases s.a <;> rfl
        have hl : (Builtin.lenOf (slVal s)).run C.P w = .ok s.len w := by simp [slVal, Builtin.lenOf]
        cases hda : d.a with
        | none =>
          refine ⟨_, _, w, ?_, hnil hda, .some rfl, SameEnv.refl w⟩
          unfold Builtin.copy_
          have e1 : (TV.slice d).val = .slice none d.len d.cap := by simp [TV.val, slVal, hda]
          have e2 : (TV.slice s).val = slVal s := rfl
          rw [e1, e2]
          simp [run_underlying hut, hl, run_sizeOf w hi, hc, hf', goInt, TV.val]
        | some l =>
          obtain ⟨hwk, hK⟩ := hput l hda
          obtain ⟨w', g1, g2, g3⟩ := storeCells_run (P := C.P) l new 0 w (by simpa using hwk) hone
          refine ⟨_, _, w', ?_, by rw [g2]; exact hK, .some rfl, g3⟩
          unfold Builtin.copy_
          have e1 : (TV.slice d).val = .slice (some l.addr) d.len d.cap := by simp [TV.val, slVal, hda]
          have e2 : (TV.slice s).val = slVal s := rfl
          rw [e1, e2]
          simp [run_underlying hut, hl, run_sizeOf w hi, hc, hf', goInt, TV.val, g1]
      · exact hv.elim
    · exact hv.elim
  · rename_i t u d x
    obtain ⟨v, u', rfl, h1, h2⟩ := relL2 hr
    obtain rfl := h1 _ rfl
    obtain rfl := h2 _ rfl
    split at hv
    · rename_i e hd hd'
      split at hv
      · rename_i hde
        obtain ⟨hnil, hput⟩ := hv
        obtain ⟨i, hi, hsz, hby⟩ := hC.info hde
        have hut := hC.d hd
        have hc : C.P.cellsOf e = (C.ti e).size := by rw [← hsz]; simp [Program.cellsOf, hi]
        have hl : (Builtin.lenOf (.string ⟨x.toArray⟩)).run C.P w = .ok x.length w := by simp [Builtin.lenOf, bsize]
        have hf' : (Builtin.firstCells (C.ti e).size (Nat.min x.length d.len) (.string ⟨x.toArray⟩)).run C.P w = .ok ((x.take (Nat.min x.length d.len)).map fun c => Value.int .u8 (c.toNat : Int)).toArray w := by
          simp [Builtin.firstCells, ByteArray.data_extract]
        cases hda : d.a with
        | none =>
          refine ⟨_, _, w, ?_, hnil hda, .some rfl, SameEnv.refl w⟩
          unfold Builtin.copy_
          have e1 : (TV.slice d).val = .slice none d.len d.cap := by simp [TV.val, slVal, hda]
          rw [e1]
          simp [run_underlying hut, hl, run_sizeOf w hi, hc, hf', goInt, TV.val]
        | some l =>
          obtain ⟨hwk, hK⟩ := hput l hda
          have hlen : ((x.take (Nat.min x.length d.len)).map fun c => Value.int .u8 (c.toNat : Int)).length = Nat.min x.length d.len := by
            rw [List.length_map, List.length_take]
            exact Nat.min_eq_left (Nat.min_le_left _ _)
          obtain ⟨w', g1, g2, g3⟩ := storeCells_run (P := C.P) l ((x.take (Nat.min x.length d.len)).map fun c => Value.int .u8 (c.toNat : Int)) 0 w (by rw [hlen]; simpa using hwk) (fun v hv => by
            obtain ⟨c, _, rfl⟩ := List.mem_map.1 hv
            rfl)
          refine ⟨_, _, w', ?_, by rw [g2]; exact hK, .some rfl, g3⟩
          unfold Builtin.copy_
          have e1 : (TV.slice d).val = .slice (some l.addr) d.len d.cap := by simp [TV.val, slVal, hda]
          rw [e1]
          have e2 : (some #[(Value.slice (some l.addr) d.len d.cap), (TV.str x).val]).isSome = true := rfl
          rw [List.map_take] at g1
          simp [run_underlying hut, hl, run_sizeOf w hi, hc, hf', goInt, TV.val, g1]
      · exact hv.elim
    · exact hv.elim
  · exact hv.elim

/-- A call of a function enters it. -/
def EntP (P : Program) (f : FuncId) : Prop := ∀ (args : Array Value) (w : World), (callFunc f args).run P w = .ok (.enter f args) w

/-- The method of a name, of a value that is packed with its type: the function, and what it is handed first. -/
def MethodAt (P : Program) (h : Heap) (t : TypeId) (v : Value) (name : String) (f : FuncId) (rv : Value) : Prop :=
  EntP P f ∧ ∀ w : World, w.heap = h → (method (P.types.size + Made.depth) t v name).run P w = .ok (f, rv) w

/-- The function that adds with a carry: it has no body of its own. -/
def isAdd64 (C : Ctx) (g : FuncId) : Bool := match C.P.funcs[g]? with
  | some fn => fn.body.isNone && ((fn.name == "math/bits.Add64") && (Extern.findNext fn).isNone)
  | none => false

/-- Every operation. -/
def vcOp (C : Ctx) (o : Oper) (ρ : Operand → Option TV) (h : Heap) (K : Option TV → Heap → Prop) : Prop :=
  match o.op with
  | .alloc t => match notTuple (C.ti t).d with
    | true => Bind (newTV h (C.ti t).z t) fun h' => K (some (.ptr (some ⟨h.size, 0⟩))) h'
    | false => False
  | .box t x => match ρ x with
    | some tv => Bind (newTV h tv t) fun h' => K (some (.ptr (some ⟨h.size, 0⟩))) h'
    | none => False
  | .buildSlice t len parts => match (C.ti t).d with
    | some (.slice e) => match notTuple (C.ti e).d, Nat.ble (len * (C.ti e).size) 16777216, setParts (List.replicate len (C.ti e).z) (parts.toList.map fun p => (p.1, ρ p.2)) with
      | true, true, some xs => K (some (.slice ⟨some ⟨h.size, 0⟩, len, len⟩)) (h.push (row (TVs.cells xs) e))
      | _, _, _ => False
    | _ => False
  | .store t a x => match ρ a, ρ x with
    | some (.ptr p), some tv => match (C.ti t).d.isSome, Nat.beq tv.size (C.ti t).size, tv.plain with
      | true, true, true => Nn p fun l => wok h l.b l.o tv.size ∧ Bind (tv.put h l.b l.o) fun h' => K none h'
      | _, _, _ => False
    | _, _ => False
  | .makeSlice t l c => match (C.ti t).d, ρ l, ρ c with
    | some (.slice e), some (.int _ l), some (.int _ c) => match notTuple (C.ti e).d with
      | true => 0 ≤ l ∧ l ≤ c ∧ ((C.ti e).bytes : Int) * c ≤ 281474976710656 ∧ c < 9223372036854775808 ∧ K (some (.slice ⟨some ⟨h.size, 0⟩, l.toNat, c.toNat⟩)) (h.push (row (zeros (C.ti e).z c.toNat) e))
      | false => False
    | _, _, _ => False
  | .sliceToArrayPointer arr x => match (C.ti arr).d, ρ x with
    | some (.array n _), some (.slice s) => n ≤ s.len ∧ K (some (.ptr s.a)) h
    | _, _ => False
  | .call c => match c.callee with
    | .builtin .append => vcAppendOp C c.argTypes.toList (c.args.toList.map ρ) h K
    | .builtin .copy => vcCopy C c.argTypes.toList (c.args.toList.map ρ) h K
    | .builtin .delete => match c.args.toList.map ρ with
      | [m, k] => vcDelete C c.argTypes.toList m k h K
      | _ => False
    | .builtin _ => vcR C o ρ h fun r => K r h
    | .value f => match ρ f, allKnown (c.args.toList.map ρ) with
      | some (.fn (.func g) first cap), some args => match C.ent.getD g false with
        | true => CallsH C.P g (TVs.vals (first ++ args ++ cap)) h fun v h' => Ex (C.ti o.type).sh fun tv => v = tv.val ∧ K (some tv) h'
        | false => match isAdd64 C g, first ++ args ++ cap with
          | true, [.int .u64 x, .int .u64 y, .int .u64 z] => 0 ≤ x ∧ 0 ≤ y ∧ 0 ≤ z ∧ z ≤ 1 ∧ K (some (.tup [.int .u64 ((x + y + z) % 18446744073709551616), .int .u64 ((x + y + z) / 18446744073709551616)])) h
          | _, _ => False
      | some (.one u), some args => ∃ g first cap, u.v = .func (.func g) first cap ∧ EntP C.P g ∧ CallsH C.P g (first.toList ++ TVs.vals args ++ cap.toList) h fun v h' => Ex (C.ti o.type).sh fun tv => v = tv.val ∧ K (some tv) h'
      | _, _ => False
    | .invoke recv name => match ρ recv, allKnown (c.args.toList.map ρ) with
      | some (.one u), some args => ∃ t x f rv, u.v = .iface t x ∧ MethodAt C.P h t x name f rv ∧ CallsH C.P f (rv :: TVs.vals args) h fun v h' => Ex (C.ti o.type).sh fun tv => v = tv.val ∧ K (some tv) h'
      | _, _ => False
  | .convert s d x => match (C.ti s).d, (C.ti d).d, ρ x with
    | some .string, some (.slice e), some (.str bs) => match (C.ti e).d with
      | some (.int .u8) => ∀ c, bs.length ≤ c → K (some (.slice ⟨some ⟨h.size, 0⟩, bs.length, c⟩)) (h.push (strRow bs c e))
      | _ => False
    | _, _, y => vcConv C s d y h fun r => K r h
  | .makeMap t none => match (C.ti t).d with
    | some (.map _ _) => K (some (.map (some h.size))) (h.push (mapO [] 0))
    | _ => False
  | .mapUpdate t m k x => vcUpdate C t (ρ m) (ρ k) (ρ x) h K
  | .insert t m k x => vcUpdate C t (ρ m) (ρ k) (ρ x) h K
  | .range t x => match (C.ti t).d, ρ x with
    | some (.map _ _), some (.map p) => Nn p fun r => ∃ es c, h[r]? = some (mapO es c) ∧ K (some (.ptr (some ⟨h.size, 0⟩))) (h.push (.mapIter (some r) c #[] c))
    | _, _ => False
  | .next it false => match ρ it with
    | some (.ptr p) => vcNext p h K
    | _ => False
  | .entry it => match ρ it with
    | some (.ptr p) => vcEntry p h fun r => K r h
    | _ => False
  | _ => vcR C o ρ h fun r => K r h

end
end Go.Vc
