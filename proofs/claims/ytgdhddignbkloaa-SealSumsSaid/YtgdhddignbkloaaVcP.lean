/- Values that are packed with their types: the methods of a pointer; functions that are entered; heaps that have names; structs that are read. -/
import Derived.Test.YtgdhddignbkloaaVcS3
namespace Go.Vc
open Go

theorem Ctx.Ok.entP {C : Ctx} (hC : C.Ok) {f : FuncId} (h : C.ent.getD f false = true) : EntP C.P f := by
  obtain ⟨fn, hfn, hbody, hname⟩ := hC.ent f h
  intro args w
  have hname' : ¬ fn.name = "runtime.NumGoroutine" := by simpa using hname
  have hb3 : ¬ fn.body = none := by intro hx; rw [hx] at hbody; cases hbody
  simp [callFunc, hfn, hname', hb3]

/-- A method whose receiver is the pointer itself. -/
theorem methodAt_ptr {P : Program} {h : Heap} {t e : TypeId} {i : TypeInfo} {m : Go.Method} {name : String} {f : FuncId} {l : Loc} (hi : P.info? t = some i) (hf : i.methods.find? (·.name == name) = some m)
    (hp : m.path = #[]) (hm : m.func = some (f, true)) (hu : P.underlying t = some (.pointer e)) (hs : 0 < P.types.size) (he : EntP P f) : MethodAt P h t (TV.ptr (some l)).val name f (TV.ptr (some l)).val := by
  refine ⟨he, fun w _ => ?_⟩
  obtain ⟨n, hn⟩ : ∃ n, P.types.size + Made.depth = n + 1 := ⟨P.types.size + Made.depth - 1, by omega⟩
  rw [hn]
  unfold method
  simp only [Sem.run_bind, run_typeInfo w hi, Result.andThen_ok, hf, hp, follow, Sem.run_pure, hm, receiverAt, run_underlying hu, Place.get]

theorem nilChk (ts : Array TypeId) (ty : TypeId) (a : Addr) (s m : ByteArray) : Builtin.ssaWrapNilChk_ ts ty #[.pointer (some a), .string s, .string m] = pure (.pointer (some a)) := rfl

/-- A method whose receiver is what the pointer points at. -/
theorem methodAt_val {C : Ctx} (hC : C.Ok) {h : Heap} {t e : TypeId} {i : TypeInfo} {m : Go.Method} {name : String} {f : FuncId} {l : Loc} {tv : TV} (hi : C.P.info? t = some i) (hf : i.methods.find? (·.name == name) = some m)
    (hp : m.path = #[]) (hm : m.func = some (f, false)) (hu : C.P.underlying t = some (.pointer e)) (hs : 0 < C.P.types.size) (he : EntP C.P f)
    (hn : notTuple (C.ti e).d = true) (hh : tv.has (C.ti e).sh = true) (ha : tv.at h l.b l.o) : MethodAt C.P h t (TV.ptr (some l)).val name f tv.val := by
  refine ⟨he, fun w hw => ?_⟩
  obtain ⟨n, hn'⟩ : ∃ n, C.P.types.size + Made.depth = n + 1 := ⟨C.P.types.size + Made.depth - 1, by omega⟩
  rw [hn']
  have hl := load_run hC hn hh (w := w) (l := l) (by rw [hw]; exact ha)
  unfold Instr.loadAt at hl
  simp only [Instr.sureAddr, Sem.run_bind, Sem.run_pure, Result.andThen_ok] at hl
  unfold method
  simp only [Sem.run_bind, run_typeInfo w hi, Result.andThen_ok, hf, hp, follow, Sem.run_pure, hm, receiverAt, run_underlying hu, Place.get, TV.val, Option.map_some, strVal, nilChk, asAddr]
  rw [if_pos (by rfl : (#[] : Array FieldStep).isEmpty = true)]
  simp only [Sem.run_bind, Sem.run_pure, Result.andThen_ok, hl]

/-- The function behind a method of a name that is the type's own, and whether it takes the pointer. -/
def methF (P : Program) (t : TypeId) (name : String) : Option (FuncId × Bool) := match P.info? t with
  | some i => match i.methods.find? (·.name == name) with
    | some m => match m.path.isEmpty with
      | true => m.func
      | false => none
    | none => none
  | none => none

theorem methF_iff {P : Program} {t : TypeId} {name : String} {r : FuncId × Bool} (h : methF P t name = some r) : ∃ i m, P.info? t = some i ∧ i.methods.find? (·.name == name) = some m ∧ m.path = #[] ∧ m.func = some r := by
  unfold methF at h
  split at h
  · rename_i i hi
    split at h
    · rename_i m hm
      split at h
      · rename_i hp
        exact ⟨i, m, hi, hm, Array.isEmpty_iff.1 hp, h⟩
      · cases h
    · cases h
  · cases h

theorem meth_ptr {C : Ctx} (hC : C.Ok) {h : Heap} {t e : TypeId} {name : String} {f : FuncId} {l : Loc} (hm : methF C.P t name = some (f, true)) (hd : (C.ti t).d = some (.pointer e)) (hs : 0 < C.P.types.size) (he : C.ent.getD f false = true) :
    MethodAt C.P h t (TV.ptr (some l)).val name f (TV.ptr (some l)).val := by
  obtain ⟨i, m, h1, h2, h3, h4⟩ := methF_iff hm
  exact methodAt_ptr h1 h2 h3 h4 (hC.d hd) hs (hC.entP he)

theorem meth_val {C : Ctx} (hC : C.Ok) {h : Heap} {t e : TypeId} {name : String} {f : FuncId} {l : Loc} {tv : TV} (hm : methF C.P t name = some (f, false)) (hd : (C.ti t).d = some (.pointer e)) (hs : 0 < C.P.types.size) (he : C.ent.getD f false = true)
    (hn : notTuple (C.ti e).d = true) (hh : tv.has (C.ti e).sh = true) (ha : tv.at h l.b l.o) : MethodAt C.P h t (TV.ptr (some l)).val name f tv.val := by
  obtain ⟨i, m, h1, h2, h3, h4⟩ := methF_iff hm
  exact methodAt_val hC h1 h2 h3 h4 (hC.d hd) hs (hC.entP he) hn hh ha

/-! ### Heaps that have names -/

theorem newTV_in {h : Heap} {t : TV} {T : TypeId} {K : Heap → Prop} (hk : ∀ h1, Var T h1 h.size t → Ext h h1 → h1.size = h.size + 1 → K h1) : Bind (newTV h t T) K := by
  obtain ⟨h1, e1, v1, x1, s1⟩ := newTV_spec h t T
  rw [e1]
  exact hk h1 v1 x1 s1

theorem put_in {T : TypeId} {h : Heap} {b : Nat} {t0 t : TV} {K : Heap → Prop} (v : Var T h b t0) (hs : t.size = t0.size) (hk : ∀ h1, Var T h1 b t → Only (· = b) h h1 → h1.size = h.size → K h1) : wok h b 0 t0.size ∧ Bind (t.put h b 0) K := by
  obtain ⟨h1, e1, v1, o1, s1⟩ := put_spec v t hs
  refine ⟨v.wok (by omega), ?_⟩
  rw [e1]
  exact hk h1 v1 o1 s1

/-- A field of one cell of a struct is written; `pre` is what stands ahead of it. -/
theorem cells_field : ∀ (ts : List TV) (i o : Nat) (t t0 : TV), ts[i]? = some t0 → t.size = t0.size → TVs.size (ts.take i) = o → (TVs.cells ts).take o ++ t.cells ++ (TVs.cells ts).drop (o + t.size) = TVs.cells (ts.set i t)
  | [], i, o, t, t0, h, _, _ => by simp at h
  | x :: xs, 0, o, t, t0, h, hs, ho => by
    simp only [List.getElem?_cons_zero, Option.some.injEq] at h
    subst h
    simp only [List.take_zero, TVs.size] at ho
    subst ho
    simp only [TVs.cells, List.set_cons_zero, List.take_zero, List.nil_append, Nat.zero_add]
    rw [hs, ← TV.cells_length x, List.drop_left]
  | x :: xs, i + 1, o, t, t0, h, hs, ho => by
    simp only [List.getElem?_cons_succ] at h
    simp only [List.take_succ_cons, TVs.size] at ho
    have ih := cells_field xs i (o - x.size) t t0 h hs (by omega)
    have hx := TV.cells_length x
    simp only [TVs.cells, List.set_cons_succ]
    rw [← ih]
    have e1 : (x.cells ++ TVs.cells xs).take o = x.cells ++ (TVs.cells xs).take (o - x.size) := by
      rw [List.take_append, List.take_of_length_le (by omega), hx]
    have e2 : (x.cells ++ TVs.cells xs).drop (o + t.size) = (TVs.cells xs).drop (o - x.size + t.size) := by
      rw [List.drop_append, List.drop_of_length_le (by omega), hx, List.nil_append]
      congr 1
      omega
    rw [e1, e2]
    simp only [List.append_assoc]

theorem TVs.size_take_le : ∀ (ts : List TV) (i : Nat) (t0 : TV), ts[i]? = some t0 → TVs.size (ts.take i) + t0.size ≤ TVs.size ts
  | [], i, t0, h => by simp at h
  | x :: xs, 0, t0, h => by
    simp only [List.getElem?_cons_zero, Option.some.injEq] at h
    subst h
    simp only [List.take_zero, TVs.size]
    omega
  | x :: xs, i + 1, t0, h => by
    simp only [List.getElem?_cons_succ] at h
    have := TVs.size_take_le xs i t0 h
    simp only [List.take_succ_cons, TVs.size]
    omega

/-- A field of a struct is written. -/
theorem field_in {T : TypeId} {h : Heap} {b i o n : Nat} {ts : List TV} {t t0 : TV} {K : Heap → Prop} (v : Var T h b (.agg ts)) (hi : ts[i]? = some t0) (hs : t.size = t0.size) (hn : n = t0.size) (ho : TVs.size (ts.take i) = o)
    (hk : ∀ h1, Var T h1 b (.agg (ts.set i t)) → Only (· = b) h h1 → h1.size = h.size → K h1) : wok h b o n ∧ Bind (t.put h b o) K := by
  have hle := TVs.size_take_le ts i t0 hi
  have hl : o + t.size ≤ (TV.agg ts).cells.length := by rw [TV.cells_length]; simp only [TV.size]; omega
  refine ⟨wok_row v (by rw [hn, ← hs]; exact hl), ?_⟩
  refine hk _ ?_ (put_only v hl) (put_size v hl)
  have := put_row (t := t) v hl
  unfold Var
  rw [this]
  simp only [TV.cells]
  rw [cells_field ts i o t t0 hi hs ho]

/-- Elements of one size: one of them is another. -/
theorem cells_elem {sz : Nat} (ts : List TV) (i : Nat) (t : TV) (h : ∀ t ∈ ts, t.size = sz) (ht : t.size = sz) (hi : i < ts.length) : (TVs.cells ts).take (i * sz) ++ t.cells ++ (TVs.cells ts).drop (i * sz + t.size) = TVs.cells (ts.set i t) := by
  refine cells_field ts i (i * sz) t ts[i] (by simp [hi]) (by rw [ht, h _ (List.getElem_mem _)]) ?_
  have : ∀ (l : List TV), (∀ t ∈ l, t.size = sz) → TVs.size l = l.length * sz := by
    intro l hl
    rw [← TVs.cells_length, TVs.cells_uniform l hl]
  rw [this _ (fun t ht => h t (List.mem_of_mem_take ht)), List.length_take, Nat.min_eq_left (by omega)]

/-- An element is written. -/
theorem Own.put_in {T : TypeId} {sz n : Nat} {h : Heap} {s : Sl} {ts : List TV} {K : Heap → Prop} {t : TV} {i : Int} (o : Own T sz h s ts) (i0 : 0 ≤ i) (hi : i < ts.length) (ht : t.size = sz) (hn : n = sz)
    (hk : ∀ h1, Own T sz h1 s (ts.set i.toNat t) → Only (In s) h h1 → h1.size = h.size → K h1) :
    0 ≤ i ∧ i < (s.len : Int) ∧ Nn s.a fun l => wok h l.b (l.o + i.toNat * sz) n ∧ Bind (t.put h l.b (l.o + i.toNat * sz)) K := by
  have hle := o.len
  have hlen := TVs.cells_uniform ts o.size
  refine ⟨i0, by omega, ?_⟩
  rcases o.row with rfl | ⟨b, rest, ha, hb, hr⟩
  · simp [Sl.nil] at hle
    rw [hle] at hi
    simp at hi
    omega
  · have hmul : i.toNat * sz + sz ≤ ts.length * sz := by
      have := Nat.mul_le_mul_right sz (show i.toNat + 1 ≤ ts.length by omega)
      rwa [Nat.succ_mul] at this
    have hl : i.toNat * sz + t.size ≤ (TVs.cells ts ++ rest).length := by rw [List.length_append, hlen, ht]; omega
    rw [ha]
    show wok h b (0 + i.toNat * sz) n ∧ Bind (t.put h b (0 + i.toNat * sz)) K
    rw [Nat.zero_add]
    refine ⟨wok_row hb (by rw [hn]; rw [ht] at hl; exact hl), hk _ ?_ ((put_only hb hl).mono fun j hj => ⟨⟨b, 0⟩, ha, hj.symm⟩) (put_size hb hl)⟩
    have := put_row (t := t) hb hl
    refine ⟨fun u hu => ?_, by rw [List.length_set]; exact o.len, o.cap, .inr ⟨b, rest, ha, ?_, hr⟩⟩
    · rcases List.mem_or_eq_of_mem_set hu with h1 | rfl
      · exact o.size u h1
      · exact ht
    · rw [this, ← cells_elem ts i.toNat t o.size ht (by omega)]
      congr 2
      rw [List.take_append_of_le_length (by omega), List.drop_append_of_le_length (by omega)]
      simp

end Go.Vc
