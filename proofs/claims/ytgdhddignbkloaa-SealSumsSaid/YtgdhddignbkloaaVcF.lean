/- Every operation does what its condition says; then regions in the order of the text. -/
import Derived.Test.YtgdhddignbkloaaVcE
namespace Go.Vc
open Go

section
variable {P : Program} {C : Ctx}

theorem vals_append : ∀ xs ys : List TV, TVs.vals (xs ++ ys) = TVs.vals xs ++ TVs.vals ys
  | [], ys => rfl
  | x :: xs, ys => by simp only [List.cons_append, TVs.vals, vals_append xs ys]

theorem zeros_rep (z : TV) : ∀ n, zeros z n = TVs.cells (List.replicate n z)
  | 0 => rfl
  | n + 1 => by simp only [zeros, List.replicate_succ, TVs.cells, zeros_rep z n]

theorem size_take_uniform {size : Nat} : ∀ (len : Nat) (zs : List TV), zs.map TV.size = List.replicate len size → ∀ (i : Nat) (z : TV), zs[i]? = some z → TVs.size (zs.take i) = i * size ∧ z.size = size
  | len, [], _, i, z, hi => by simp at hi
  | 0, x :: xs, h, i, z, hi => by simp at h
  | len + 1, x :: xs, h, 0, z, hi => by
    simp only [List.map_cons, List.replicate_succ, List.cons.injEq] at h
    simp only [List.getElem?_cons_zero, Option.some.injEq] at hi
    subst hi
    exact ⟨by simp [TVs.size], h.1⟩
  | len + 1, x :: xs, h, i + 1, z, hi => by
    simp only [List.map_cons, List.replicate_succ, List.cons.injEq] at h
    simp only [List.getElem?_cons_succ] at hi
    obtain ⟨e1, e2⟩ := size_take_uniform len xs h.2 i z hi
    exact ⟨by simp only [List.take_succ_cons, TVs.size, e1, h.1, Nat.succ_mul]; omega, e2⟩

theorem zeroRun (hC : C.Ok) {t : TypeId} (h : notTuple (C.ti t).d = true) (w : World) : (zeroValue t).run C.P w = .ok (C.ti t).z.val w := by
  obtain ⟨hs, ht⟩ := notTuple_isSome h
  obtain ⟨i, hi, hz⟩ := hC.zero t (Ctx.ti_lt hs) hs
  have hz : i.zero = some (C.ti t).z.val := by
    rcases hz with h1 | h1
    · rw [ht] at h1; cases h1
    · exact h1
  simp [zeroValue, typeInfo, hi, hz]

theorem sizeRun (hC : C.Ok) {t : TypeId} (h : (C.ti t).d.isSome = true) (w : World) : (sizeOf t).run C.P w = .ok (C.ti t).size w := by
  obtain ⟨d, hd⟩ := Option.isSome_iff_exists.1 h
  obtain ⟨i, hi, hs, _⟩ := hC.info hd
  rw [run_sizeOf w hi]
  simp [Program.cellsOf, hi, hs]

theorem zsize (hC : C.Ok) {t : TypeId} (h : notTuple (C.ti t).d = true) : (C.ti t).z.size = (C.ti t).size := by
  obtain ⟨hs, ht⟩ := notTuple_isSome h
  rcases hC.size t (Ctx.ti_lt hs) with h1 | h1
  · rw [ht] at h1; cases h1
  · exact h1.2

/-- What an operation comes to: a value, in a world whose heap is told. -/
def Does (P : Program) (o : Oper) (a : Act) (w : World) (K : Option TV → Heap → Prop) : Prop :=
  (∃ r v w', (execOp a.eval o).run P w = .ok (.value v) w' ∧ K r w'.heap ∧ Rel r v ∧ SameEnv w w') ∨
  (∃ w', (execOp a.eval o).run P w = .ok .skip w' ∧ K none w'.heap ∧ SameEnv w w') ∨
  (∃ f args, (execOp a.eval o).run P w = .ok (.enter f args.toArray) w ∧ CallsH P f args w.heap fun v h' => ∃ r, Rel r v ∧ K r h')

theorem Does.wp {o : Oper} {a : Act} {w : World} {K : Option TV → Heap → Prop} (h : Does P o a w K) {next : Act → World → Prop} {Q : Exit → Act → World → Prop}
    (hn : ∀ r v w', K r w'.heap → Rel r v → SameEnv w w' → next (a.put o.dst v) w') : o.wp P a w next Q := by
  unfold Oper.wp
  rcases h with ⟨r, v, w', e, hk, hr, hs⟩ | ⟨w', e, hk, hs⟩ | ⟨f, args, e, hc⟩
  · rw [e]; exact hn r v w' hk hr hs
  · rw [e]; exact hn none undef w' hk (Rel.none _) hs
  · rw [e]
    refine (hc w rfl).mono fun e w' => ?_
    rintro ⟨hs, v, rfl, r, hr, hk⟩
    exact hn r v w' hk hr hs

theorem does_of_R {o : Oper} {env : Env} {a : Act} {w : World} {K : Option TV → Heap → Prop} (hC : C.Ok) (he : EnvOk env a) (h : vcR C o env.ev w.heap fun r => K r w.heap) : Does C.P o a w K := by
  obtain ⟨r, v, h1, h2, h3⟩ := vcR_sound hC h he
  exact .inl ⟨r, v, w, h3.1 w rfl, h1, h2, SameEnv.refl w⟩

/-! ### Maps -/

theorem ents_set {es : List (TV × TV × Nat)} {j : Nat} {e : TV × TV × Nat} {kv tv : TV} (hj : es[j]? = some e) (hk : e.1.val = kv.val) :
    ((entsOf es).modify j fun x => { key := kv.val, val := tv.val, born := x.born }) = entsOf (es.set j (e.1, tv, e.2.2)) := by
  apply List.ext_getElem?
  intro i
  rw [List.getElem?_modify]
  simp only [entsOf, List.getElem?_map, List.getElem?_set]
  by_cases h : j = i
  · subst h
    have hlt : j < es.length := (List.getElem?_eq_some_iff.1 hj).1
    rw [if_pos rfl, if_pos hlt, hj]
    simp [hk]
  · rw [if_neg h]
    simp [h]

theorem ents_erase {es : List (TV × TV × Nat)} {j : Nat} : (entsOf es).eraseIdx j = entsOf (es.eraseIdx j) := by
  simp [entsOf, ChangeMaps.map_eraseIdx]

theorem vcUpdate_sound (hC : C.Ok) {t : TypeId} {m k x : Option TV} {M X V : Value} {w : World} {K : Option TV → Heap → Prop} (hv : vcUpdate C t m k x w.heap K) (hm : Rel m M) (hk : Rel k X) (hx : Rel x V) :
    ∃ w', (Instr.mapUpdate t M X V).run C.P w = .ok () w' ∧ K none w'.heap ∧ SameEnv w w' := by
  unfold vcUpdate at hv
  split at hv
  · rename_i kt et p kv tv hd
    obtain rfl := hm _ rfl
    obtain rfl := hk _ rfl
    obtain rfl := hx _ rfl
    split at hv
    · rename_i d hkd
      split at hv
      · rename_i hlike
        obtain ⟨r, rfl, es, c, hb, hl, hv⟩ := elim_some hv
        have hb' : w.heap[r]? = some (.map (entsOf es).toArray c) := hb
        have hck := fun e => MapKept.run_checkKey (P := C.P) (w := w) (hC.d hkd) (keyLike_isKey hlike) e 9999
        refine ⟨{ w with heap := w.heap.setIfInBounds r (mapO (putE kv tv c es) (clockE kv c es)) }, ?_, hv, ⟨rfl, rfl, rfl, Nat.le_refl _⟩⟩
        rcases find_now hlike es 0 hl with ⟨h1, h2, h3, _⟩ | ⟨j, e, h1, h2, h3, h4, h5, _⟩
        · have hf := MapKept.run_findKey (P := C.P) (w := w) (hC.d hkd) h1
          have e1 : (entsOf es).toArray.push { key := kv.val, val := tv.val, born := c } = (entsOf (es ++ [(kv, tv, c)])).toArray := by
            simp [entsOf]
          have e2 : mapO (putE kv tv c es) (clockE kv c es) = .map (entsOf (es ++ [(kv, tv, c)])).toArray (c + 1) := by
            unfold clockE
            rw [h3, h2]
            rfl
          rw [e2]
          simp [Instr.mapUpdate, run_underlying (hC.d hd), TV.val, MapKept.run_getObj_map hb', hck, hf, MapKept.run_setObj_map _ hb', e1]
        · have hf := MapKept.run_findKey (P := C.P) (w := w) (hC.d hkd) h1
          have e1 := ents_set (tv := tv) h2 h3
          have e2 : mapO (putE kv tv c es) (clockE kv c es) = .map (entsOf (es.set j (e.1, tv, e.2.2))).toArray c := by
            unfold clockE
            rw [h5, h4]
            rfl
          have hj : (entsOf es).toArray[j]? = some { key := e.1.val, val := e.2.1.val, born := e.2.2 } := by simp [entsOf, h2]
          have hks := MapKept.run_keyThatStays (P := C.P) (w := w) (keyLike_isKey hlike)
          have hj2 : (entsOf es)[j]? = some { key := e.1.val, val := e.2.1.val, born := e.2.2 } := by simp [entsOf, h2]
          rw [e2]
          simp [Instr.mapUpdate, run_underlying (hC.d hd), TV.val, MapKept.run_getObj_map hb', hck, hf, hj2, h3, hks, MapKept.run_setObj_map _ hb', e1]
      · exact hv.elim
    · exact hv.elim
  · exact hv.elim

theorem vcDelete_sound (hC : C.Ok) {ts : Array TypeId} {ty : TypeId} {m k : Option TV} {M X : Value} {w : World} {K : Option TV → Heap → Prop} (hv : vcDelete C ts.toList m k w.heap K) (hm : Rel m M) (hk : Rel k X) :
    ∃ w', (Builtin.delete_ ts ty #[M, X]).run C.P w = .ok (.tuple #[]) w' ∧ K (some (.tup [])) w'.heap ∧ SameEnv w w' := by
  obtain ⟨ts⟩ := ts
  change vcDelete C ts m k w.heap K at hv
  unfold vcDelete at hv
  split at hv
  · rename_i t _ p kv
    obtain rfl := hm _ rfl
    obtain rfl := hk _ rfl
    split at hv
    · rename_i kt et hd
      split at hv
      · rename_i d hkd
        split at hv
        · rename_i hlike
          obtain ⟨r, rfl, es, c, hb, hl, hv⟩ := elim_some hv
          have hb' : w.heap[r]? = some (.map (entsOf es).toArray c) := hb
          have hck := fun e => MapKept.run_checkKey (P := C.P) (w := w) (hC.d hkd) (keyLike_isKey hlike) e 9999
          refine ⟨{ w with heap := w.heap.setIfInBounds r (mapO (dropE kv es) c) }, ?_, hv, ⟨rfl, rfl, rfl, Nat.le_refl _⟩⟩
          rcases find_now hlike es 0 hl with ⟨h1, _, _, h4⟩ | ⟨j, e, h1, h2, _, _, _, h6⟩
          · have hf := MapKept.run_findKey (P := C.P) (w := w) (hC.d hkd) h1
            have e2 : mapO (dropE kv es) c = .map (entsOf es).toArray c := by rw [h4]; rfl
            rw [e2]
            simp [Builtin.delete_, run_underlying (hC.d hd), TV.val, MapKept.run_getObj_map hb', hck, hf, MapKept.run_setObj_map _ hb']
          · have hf := MapKept.run_findKey (P := C.P) (w := w) (hC.d hkd) h1
            have e1 := ents_erase (es := es) (j := j)
            have e2 : mapO (dropE kv es) c = .map (entsOf (es.eraseIdx j)).toArray c := by rw [h6]; rfl
            rw [e2]
            simp [Builtin.delete_, run_underlying (hC.d hd), TV.val, MapKept.run_getObj_map hb', hck, hf, MapKept.run_setObj_map _ hb', e1]
        · exact hv.elim
      · exact hv.elim
    · exact hv.elim
  · exact hv.elim

theorem vcNext_sound {p : Option Loc} {ty : TypeId} {w : World} {K : Option TV → Heap → Prop} (hv : vcNext p w.heap K) :
    ∃ r v w', (Instr.next (TV.ptr p).val false ty).run P w = .ok v w' ∧ K r w'.heap ∧ Rel r v ∧ SameEnv w w' := by
  obtain ⟨⟨b, o⟩, rfl, h0, bm, since, c0, seen, es, c, hr, hb, hold, hsc, hend, hstep⟩ := elim_some hv
  simp only at h0 hr hend hstep
  subst h0
  have hb' : w.heap[bm]? = some (.map (entsOf es).toArray c) := hb
  have hold' : ∀ x ∈ (entsOf es).toArray.toList, x.born < since := fun x hx => by
    simp only [entsOf] at hx
    obtain ⟨e, he, rfl⟩ := List.mem_map.1 hx
    exact hold e he
  rcases run_next_at (P := P) w ty b bm since c0 seen _ c hr hb' hold' hsc with ⟨hz, hrun⟩ | ⟨e, he, w1, hw1, hrun⟩
  · refine ⟨_, _, w, hrun, hend fun e he => ?_, .some rfl, SameEnv.refl w⟩
    have : leftOf (entsOf es).toArray seen = #[] := Array.eq_empty_of_size_eq_zero hz
    unfold leftOf at this
    rw [Array.filter_eq_empty_iff] at this
    have := this { key := e.1.val, val := e.2.1.val, born := e.2.2 } (by simp only [entsOf, List.mem_toArray]; exact List.mem_map.2 ⟨e, he, rfl⟩)
    simpa using this
  · unfold leftOf at he
    simp only [Array.toList_filter, List.mem_filter] at he
    obtain ⟨he, hs⟩ := he
    simp only [entsOf] at he
    obtain ⟨e', he', rfl⟩ := List.mem_map.1 he
    refine ⟨some (.tup [.bool true, e'.1, e'.2.1]), _, _, hrun, ?_, .some rfl, ?_⟩
    · have := hstep e' he' (by simpa using hs)
      rcases hw1 with rfl | rfl
      · exact this
      · exact this
    · rcases hw1 with rfl | rfl
      · exact ⟨rfl, rfl, rfl, Nat.le_refl _⟩
      · exact ⟨rfl, rfl, rfl, Nat.le_succ _⟩

theorem vcEntry_sound {p : Option Loc} {w : World} {K : Option TV → Prop} (hv : vcEntry p w.heap K) :
    ∃ r v, (Instr.entry (TV.ptr p).val).run P w = .ok v w ∧ K r ∧ Rel r v := by
  obtain ⟨⟨b, o⟩, rfl, h0, bm, since, seen, es, c, e, hr, hb, he, hn, a1, a2, h1, h2, hk⟩ := elim_some hv
  simp only at h0 hr
  subst h0
  have hb' : w.heap[bm]? = some (.map (entsOf es).toArray c) := hb
  refine ⟨_, _, run_entry_at (P := P) w b bm since seen (entsOf es).toArray c { key := e.1.val, val := e.2.1.val, born := e.2.2 } hr hb' ?_ ?_, hk, .some ?_⟩
  · simp only [entsOf]
    exact List.mem_map.2 ⟨e, he, rfl⟩
  · simp only [entsOf, List.map_map]
    exact hn
  · simp [TV.val, TVs.vals, h1, h2]

theorem isAdd64_fn {g : FuncId} (h : isAdd64 C g = true) : ∃ fn, C.P.funcs[g]? = some fn ∧ fn.body.isNone = true ∧ fn.name = "math/bits.Add64" ∧ Extern.findNext fn = none := by
  unfold isAdd64 at h
  split at h
  · rename_i fn hfn
    rw [Bool.and_eq_true, Bool.and_eq_true] at h
    exact ⟨fn, hfn, h.1, by simpa using h.2.1, by simpa using h.2.2⟩
  · cases h

theorem find_add64 {fn : Func} (h : fn.name = "math/bits.Add64") : Extern.find fn = some add64Entry := by
  unfold Extern.find
  rw [h]
  rfl

theorem vcOp_sound (hC : C.Ok) {o : Oper} {env : Env} {a : Act} {w : World} {K : Option TV → Heap → Prop} (hv : vcOp C o env.ev w.heap K) (he : EnvOk env a) : Does C.P o a w K := by
  unfold vcOp at hv
  split at hv
  · rename_i t ho
    split at hv
    · rename_i hn
      left
      refine ⟨_, _, w.alloc (row (C.ti t).z.cells t), ?_, hv, .some rfl, ⟨rfl, rfl, rfl, Nat.le_refl _⟩⟩
      simp [execOp, ho, Instr.alloc, zeroRun hC hn, newVar, newRow, TV.val_cells, TV.val, row, Loc.addr]
    · exact hv.elim
  · rename_i t x ho
    split at hv
    · rename_i tv hx
      left
      refine ⟨_, _, w.alloc (row tv.cells t), ?_, hv, .some rfl, ⟨rfl, rfl, rfl, Nat.le_refl _⟩⟩
      simp [execOp, ho, Instr.box, he.known hx, newVar, newRow, TV.val_cells, TV.val, row, Loc.addr]
    · exact hv.elim
  · rename_i t len parts ho
    split at hv
    · rename_i e hd
      split at hv
      · rename_i xs hn hb hset
        left
        refine ⟨_, _, w.alloc (row (TVs.cells xs) e), ?_, hv, .some rfl, ⟨rfl, rfl, rfl, Nat.le_refl _⟩⟩
        have hb' : ¬ (16777216 < len * (C.ti e).size) := by
          have : len * (C.ti e).size ≤ 16777216 := by simpa using hb
          omega
        obtain ⟨hs, _⟩ := notTuple_isSome hn
        have hzs := zsize hC hn
        have hfill : Instr.fill (fun i => some (i * (C.ti e).size, (C.ti e).size)) (TVs.cells (List.replicate len (C.ti e).z)).toArray (parts.map fun p => (p.1, a.eval p.2)).toList = some (TVs.cells xs).toArray :=
          setParts_fill' (sizes := List.replicate len (C.ti e).size) (fun zs i z hz hi => by
            obtain ⟨e1, e2⟩ := size_take_uniform len zs hz i z hi
            rw [e1, e2]) _ _ _ xs (by simpa using relParts_map he parts.toList) hset (by simp [hzs])
        have hcells : Builtin.zeroCells (C.ti e).z.cells.toArray len = (TVs.cells (List.replicate len (C.ti e).z)).toArray := by
          rw [← zeros_rep, ← zeroCells_eq]
        have hzl : (C.ti e).z.cells.toArray.size = (C.ti e).size := by rw [List.size_toArray, TV.cells_length, hzs]
        have hrun := run_underlying (hC.d hd)
        have hsr := sizeRun hC hs
        have hzr := zeroRun hC hn
        by_cases h0 : len * (C.ti e).size = 0
        · have hnil : TVs.cells (List.replicate len (C.ti e).z) = [] := by
            apply List.eq_nil_of_length_eq_zero
            rw [← zeros_rep, ← List.size_toArray, ← zeroCells_eq]
            simp [Builtin.zeroCells, TV.cells_length, hzs, h0]
          rw [hnil] at hfill
          simp only [Array.toList_map] at hfill
          have hr0 : (Array.map (fun _ : Nat => (default : Value)) (Array.range 0)) = #[] := by apply Array.toList_inj.1; simp
          simp [execOp, ho, Instr.buildSlice, hrun, hsr, h0, hr0, hfill, newRow, TV.val, slVal, row, Loc.addr]
        · have hz2 : ((Array.range (len * (C.ti e).size)).map fun i => (C.ti e).z.val.cells[i % (C.ti e).z.val.cells.size]!) = (TVs.cells (List.replicate len (C.ti e).z)).toArray := by
            rw [← hcells, TV.val_cells]
            unfold Builtin.zeroCells
            rw [hzl]
          simp only [Array.toList_map] at hfill
          simp [execOp, ho, Instr.buildSlice, hrun, hsr, h0, hb', hzr, hz2, hfill, newRow, TV.val, slVal, row, Loc.addr]
      · exact hv.elim
    · exact hv.elim
  · rename_i t x y ho
    split at hv
    · rename_i p tv hx hy
      split at hv
      · rename_i hs hsz hp
        obtain ⟨l, rfl, hk, hv⟩ := elim_some hv
        right; left
        have hsz' : tv.size = (C.ti t).size := by simpa using hsz
        obtain ⟨w', e1, e2, e3⟩ := storeCells_run (P := C.P) l tv.cells 0 w (by rw [TV.cells_length]; exact hk) (TV.plain_cells tv hp)
        refine ⟨w', ?_, by rw [e2]; exact hv, e3⟩
        have h1 := he.known hx
        have h2 := he.known hy
        have hne : tv.cells.length = (C.ti t).size := by rw [TV.cells_length, hsz']
        simp [execOp, ho, Instr.storeAt, h1, h2, TV.val, Instr.sureAddr, storeVar, sizeRun hC hs, TV.val_cells, hne, e1]
      · exact hv.elim
    · exact hv.elim
  · rename_i t x y ho
    split at hv
    · rename_i e k1 l k2 c hd hx hy
      split at hv
      · rename_i hn
        obtain ⟨h0, h1, h2, h3, hv⟩ := hv
        left
        refine ⟨_, _, w.alloc (row (zeros (C.ti e).z c.toNat) e), ?_, hv, .some rfl, ⟨rfl, rfl, rfl, Nat.le_refl _⟩⟩
        obtain ⟨hs, _⟩ := notTuple_isSome hn
        obtain ⟨d', hd'⟩ := Option.isSome_iff_exists.1 hs
        obtain ⟨i, hi, hsz, hby⟩ := hC.info hd'
        have e1 := he.known hx
        have e2 := he.known hy
        have hzs := zsize hC hn
        have hw1 : IntKind.i64.wrap l = l := IntWalk.i64_in _ (by omega)
        have hw2 : IntKind.i64.wrap c = c := IntWalk.i64_in _ (by omega)
        have hlow : ¬ (l < 0) := by omega
        have hlc : ¬ (c < l) := by omega
        have hc0 : ¬ (c < 0) := by omega
        have hbig : ¬ (281474976710656 < ((C.ti e).bytes : Int) * c) := by omega
        have hti := run_typeInfo (P := C.P) (w := w) hi
        have hrun := run_underlying (hC.d hd)
        have hsr := sizeRun hC hs
        have hzr := zeroRun hC hn
        have hzl : (C.ti e).z.cells.toArray.size = (C.ti e).size := by rw [List.size_toArray, TV.cells_length, hzs]
        have hz2 : ((Array.range (c.toNat * (C.ti e).size)).map fun i => (C.ti e).z.val.cells[i % (C.ti e).z.val.cells.size]!) = (zeros (C.ti e).z c.toNat).toArray := by
          rw [← zeroCells_eq, TV.val_cells]
          unfold Builtin.zeroCells
          rw [hzl]
        by_cases h00 : c.toNat * (C.ti e).size = 0
        · have hnil : zeros (C.ti e).z c.toNat = [] := by
            apply List.eq_nil_of_length_eq_zero
            rw [← List.size_toArray, ← zeroCells_eq]
            simp [Builtin.zeroCells, TV.cells_length, hzs, h00]
          have hr0 : (Array.map (fun _ : Nat => (default : Value)) (Array.range 0)) = #[] := by apply Array.toList_inj.1; simp
          simp [execOp, ho, Instr.makeSlice, e1, e2, TV.val, asInt, asIntOf, hrun, hti, hby, hw1, hw2, hlow, hlc, hc0, hbig, hsr, h00, hr0, hnil, newRow, slVal, row, Loc.addr]
        · simp [execOp, ho, Instr.makeSlice, e1, e2, TV.val, asInt, asIntOf, hrun, hti, hby, hw1, hw2, hlow, hlc, hc0, hbig, hsr, h00, hzr, hz2, newRow, slVal, row, Loc.addr]
      · exact hv.elim
    · exact hv.elim
  · rename_i t x ho
    split at hv
    · rename_i n e s hd hx
      obtain ⟨hn, hv⟩ := hv
      left
      have e1 := he.known hx
      have hrun := run_underlying (hC.d hd) (w := w)
      refine ⟨_, .pointer (s.a.map Loc.addr), w, ?_, hv, .some rfl, SameEnv.refl w⟩
      have hlt : ¬ (s.len < n) := by omega
      simp [execOp, ho, Instr.arrayAt, e1, TV.val, slVal, hrun, hlt]
    · exact hv.elim
  · rename_i c ho
    split at hv
    · rename_i hb
      left
      obtain ⟨r, v, w', e1, e2, e3, e4⟩ := vcAppendOp_sound hC (ts := c.argTypes) (ty := o.type) (vs := c.args.map a.eval) hv (by simpa using he.relL c.args.toList) w rfl
      refine ⟨r, v, w', ?_, e2, e3, e4⟩
      simp [execOp, ho, resolve, hb, invoke, builtin, e1]
    · rename_i hb
      left
      obtain ⟨r, v, w', e1, e2, e3, e4⟩ := vcCopy_sound hC (ts := c.argTypes) (ty := o.type) (vs := c.args.map a.eval) hv (by simpa using he.relL c.args.toList) w rfl
      refine ⟨r, v, w', ?_, e2, e3, e4⟩
      simp [execOp, ho, resolve, hb, invoke, builtin, e1]
    · rename_i hb
      split at hv
      · rename_i m k hmk
        have hrl := he.relL c.args.toList
        rw [hmk] at hrl
        obtain ⟨M, X, hMX, hM, hX⟩ := relL2 hrl
        obtain ⟨w', e1, e2, e3⟩ := vcDelete_sound hC (ty := o.type) hv hM hX
        left
        refine ⟨_, _, w', ?_, e2, .some rfl, e3⟩
        have hargs : c.args.map a.eval = #[M, X] := by apply Array.toList_inj.1; simpa using hMX
        simp [execOp, ho, resolve, hb, invoke, builtin, hargs, e1, TV.val, TVs.vals]
      · exact hv.elim
    · exact does_of_R hC he hv
    · rename_i f hf
      split at hv
      · rename_i g first cap args hfv hargs
        split at hv
        · rename_i hent
          right; right
          obtain ⟨fn, hfn, hbody, hname⟩ := hC.ent g hent
          refine ⟨g, TVs.vals (first ++ args ++ cap), ?_, ?_⟩
          · have e1 := he.known hfv
            have e2 := allKnown_vals _ _ _ hargs (he.relL c.args.toList)
            have e2' : c.args.map a.eval = (TVs.vals args).toArray := by apply Array.toList_inj.1; simpa using e2
            have hname' : ¬ fn.name = "runtime.NumGoroutine" := by simpa using hname
            have hb3 : ¬ fn.body = none := by intro hx; rw [hx] at hbody; cases hbody
            simp [execOp, ho, resolve, hf, e1, TV.val, Deferred.ofValue, invoke, callFunc, hfn, hname', hb3, e2', vals_append]
          · refine hv.mono fun v h' hx => ?_
            obtain ⟨tv, _, h2, h3⟩ := ex_iff _ _ hx
            exact ⟨some tv, .some h2, h3⟩
        · split at hv
          · rename_i x y z hadd hlist
            obtain ⟨fn, hfn, hb, hname, hnext⟩ := isAdd64_fn hadd
            obtain ⟨hx, hy, hz0, hz1, hk⟩ := hv
            left
            refine ⟨_, _, w, ?_, hk, .some rfl, SameEnv.refl w⟩
            have e1 := he.known hfv
            have e2 := allKnown_vals _ _ _ hargs (he.relL c.args.toList)
            have e2' : c.args.map a.eval = (TVs.vals args).toArray := by apply Array.toList_inj.1; simpa using e2
            have e3 : (TVs.vals first).toArray ++ (TVs.vals args).toArray ++ (TVs.vals cap).toArray = #[.int .u64 x, .int .u64 y, .int .u64 z] := by
              have h9 := congrArg TVs.vals hlist
              rw [vals_append, vals_append] at h9
              apply Array.toList_inj.1
              simpa [TVs.vals, TV.val] using h9
            have hnm : (fn.name == "runtime.NumGoroutine") = false := by rw [hname]; decide
            have hrun := run_callFunc_extern hfn hnm hb hnext (find_add64 hname) (#[.int .u64 x, .int .u64 y, .int .u64 z]) w
            rw [run_add64 x y z hx hy hz0 hz1 w] at hrun
            have hrun' : (callFunc g #[.int .u64 x, .int .u64 y, .int .u64 z]).run C.P w = .ok (.value (.tuple #[.int .u64 ((x + y + z) % 18446744073709551616), .int .u64 ((x + y + z) / 18446744073709551616)])) w := hrun
            simp only [execOp, ho, resolve, hf, e1, TV.val, Deferred.ofValue, invoke, e2', Sem.run_bind, Sem.run_pure, Result.andThen_ok]
            simp only [e3, hrun', TVs.vals, TV.val]
          · exact hv.elim
      · rename_i u args hfv hargs
        obtain ⟨g, first, cap, hu, hent, hc⟩ := hv
        right; right
        refine ⟨g, first.toList ++ TVs.vals args ++ cap.toList, ?_, ?_⟩
        · have e1 := he.known hfv
          have e2 := allKnown_vals _ _ _ hargs (he.relL c.args.toList)
          have e2' : c.args.map a.eval = (TVs.vals args).toArray := by apply Array.toList_inj.1; simpa using e2
          have e3 := hent (first ++ (TVs.vals args).toArray ++ cap) w
          have e4 : (first.toList ++ TVs.vals args ++ cap.toList).toArray = first ++ (TVs.vals args).toArray ++ cap := by apply Array.toList_inj.1; simp
          simp only [execOp, ho, resolve, hf, e1, TV.val, hu, Deferred.ofValue, invoke, e2', Sem.run_bind, Sem.run_pure, Result.andThen_ok]
          rw [e3, e4]
        · refine hc.mono fun v h' hx => ?_
          obtain ⟨tv, _, h2, h3⟩ := ex_iff _ _ hx
          exact ⟨some tv, .some h2, h3⟩
      · exact hv.elim
    · rename_i recv name hf
      split at hv
      · rename_i u args hfv hargs
        obtain ⟨t, x, f, rv, hu, ⟨hent, hm⟩, hc⟩ := hv
        right; right
        refine ⟨f, rv :: TVs.vals args, ?_, ?_⟩
        · have e1 := he.known hfv
          have e2 := allKnown_vals _ _ _ hargs (he.relL c.args.toList)
          have e2' : c.args.map a.eval = (TVs.vals args).toArray := by apply Array.toList_inj.1; simpa using e2
          have e3 := hent (#[rv] ++ (TVs.vals args).toArray) w
          have e4 : (rv :: TVs.vals args).toArray = #[rv] ++ (TVs.vals args).toArray := by apply Array.toList_inj.1; simp
          have e5 : (#[Value.iface t x] ++ (TVs.vals args).toArray).extract 1 (#[Value.iface t x] ++ (TVs.vals args).toArray).size = (TVs.vals args).toArray := by apply Array.toList_inj.1; simp
          have e6 := hm w rfl
          have e7 : (#[Value.iface t x] ++ (TVs.vals args).toArray)[0]? = some (Value.iface t x) := by simp
          simp only [execOp, ho, resolve, hf, e1, TV.val, hu, invoke, e2', Sem.run_bind, Sem.run_pure, Result.andThen_ok, e7, e5, callMethod, run_program, e6]
          rw [e3, e4]
        · refine hc.mono fun v h' hx => ?_
          obtain ⟨tv, _, h2, h3⟩ := ex_iff _ _ hx
          exact ⟨some tv, .some h2, h3⟩
      · exact hv.elim
  · rename_i s d x ho
    split at hv
    · rename_i e bs h1 h2 hx
      split at hv
      · rename_i hd
        left
        have hc : bs.length ≤ grownCap w bs.length 0 e := by
          simp only [grownCap, Question.cut]
          omega
        have hz : (⟨bs.toArray⟩ : ByteArray).size = bs.length := by simp [ByteArray.size]
        have hrun := run_bytes_of_string (P := C.P) w s d e ⟨bs.toArray⟩ (hC.d h1) (hC.d h2) (hC.d hd)
        have hrow : bytesRow ⟨bs.toArray⟩ (grownCap w (⟨bs.toArray⟩ : ByteArray).size 0 e) = ((bs.map fun (b : UInt8) => Value.int .u8 (b.toNat : Int)) ++ List.replicate (grownCap w bs.length 0 e - bs.length) (Value.int .u8 0)).toArray := by
          rw [hz]
          unfold bytesRow
          rw [hz]
          simp
        have hsize : (bytesRow ⟨bs.toArray⟩ (grownCap w (⟨bs.toArray⟩ : ByteArray).size 0 e)).size = grownCap w bs.length 0 e := by
          rw [hrow]
          simp
          omega
        have hk := hv _ hc
        rw [hsize, hrow, hz] at hrun
        refine ⟨some (.slice ⟨some ⟨w.heap.size, 0⟩, bs.length, grownCap w bs.length 0 e⟩), _, w.drew.alloc (strRow bs (grownCap w bs.length 0 e) e), ?_, ?_, .some rfl, ?_⟩
        · have e1 := he.known hx
          simp only [execOp, ho, e1, TV.val, Sem.run_bind, hrun, Result.andThen_ok, Sem.run_pure]
          rfl
        · exact hk
        · exact ⟨rfl, rfl, rfl, Nat.le_succ _⟩
      · exact hv.elim
    · refine does_of_R hC he ?_
      unfold vcR
      simp only [ho]
      exact hv
  · rename_i t ho
    split at hv
    · rename_i kt et hd
      left
      refine ⟨_, _, w.alloc (mapO [] 0), ?_, hv, .some rfl, ⟨rfl, rfl, rfl, Nat.le_refl _⟩⟩
      simp [execOp, ho, Instr.makeMap, TV.val, mapO]
    · exact hv.elim
  · rename_i t m k x ho
    obtain ⟨w', e1, e2, e3⟩ := vcUpdate_sound hC hv (he.rel m) (he.rel k) (he.rel x)
    right; left
    exact ⟨w', by simp [execOp, ho, e1], e2, e3⟩
  · rename_i t m k x ho
    obtain ⟨w', e1, e2, e3⟩ := vcUpdate_sound hC hv (he.rel m) (he.rel k) (he.rel x)
    right; left
    exact ⟨w', by simp [execOp, ho, e1], e2, e3⟩
  · rename_i t x ho
    split at hv
    · rename_i kt et p hd hx
      obtain ⟨r, rfl, es, c, hb, hv⟩ := elim_some hv
      left
      refine ⟨_, _, w.alloc (.mapIter (some r) c #[] c), ?_, hv, .some rfl, ⟨rfl, rfl, rfl, Nat.le_refl _⟩⟩
      have hb' : w.heap[r]? = some (.map (entsOf es).toArray c) := hb
      have e1 := he.known hx
      simp [execOp, ho, Instr.range, e1, TV.val, run_underlying (hC.d hd), MapKept.run_getObj_map hb', Loc.addr]
    · exact hv.elim
  · rename_i it ho
    split at hv
    · rename_i p hx
      obtain ⟨r, v, w', e1, e2, e3, e4⟩ := vcNext_sound (P := C.P) (ty := o.type) hv
      left
      have h1 := he.known hx
      exact ⟨r, v, w', by simp [execOp, ho, h1, e1], e2, e3, e4⟩
    · exact hv.elim
  · rename_i it ho
    split at hv
    · rename_i p hx
      obtain ⟨r, v, e1, e2, e3⟩ := vcEntry_sound (P := C.P) hv
      left
      have h1 := he.known hx
      exact ⟨r, v, w, by simp [execOp, ho, h1, e1], e2, e3, SameEnv.refl w⟩
    · exact hv.elim
  · exact does_of_R hC he hv

end
end Go.Vc
