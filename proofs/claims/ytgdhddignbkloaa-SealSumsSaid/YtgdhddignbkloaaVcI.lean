/- A context out of a program. -/
import Derived.Test.YtgdhddignbkloaaVcH
namespace Go.Vc
open Go

def entB (P : Program) (f : FuncId) : Bool :=
  match P.funcs[f]? with
  | some fn => fn.body.isSome
  | none => false

def nameOk (P : Program) (f : FuncId) : Bool :=
  match P.funcs[f]? with
  | some fn => !(fn.name == "runtime.NumGoroutine")
  | none => true

def Ctx.of (P : Program) (n nf : Nat) : Ctx := { P, tab := (List.range n).map (TI.of P), ent := (List.range nf).map (entB P) }

def okSize (P : Program) (t : TypeId) : Bool :=
  isTup (P.underlying t) || (Nat.beq (shOf P 20 t).size (P.cellsOf t) && Nat.beq (zOf P 20 t).size (P.cellsOf t))

theorem Ctx.ok_of {P : Program} {n nf : Nat} (hz : (List.range n).map (fun t => (P.info? t).bind (·.zero)) = (List.range n).map (fun t => some (zOf P 20 t).val))
    (hs : (List.range n).all (okSize P) = true) (hm : P.follows .mixedOrders = true) (hn : (List.range nf).all (nameOk P) = true) : (Ctx.of P n nf).Ok := by
  have hti : ∀ t, t < n → (Ctx.of P n nf).ti t = TI.of P t := fun t ht => by
    simp [Ctx.ti, Ctx.of, List.getD_eq_getElem?_getD, ht]
  refine ⟨fun t ht => hti t (by simpa [Ctx.of] using ht), fun t ht hd => ?_, fun t ht => ?_, fun f hf => ?_, hm⟩
  · have ht' : t < n := by simpa [Ctx.of] using ht
    have hz' := congrArg (fun l => l[t]?) hz
    simp only [List.getElem?_map, List.getElem?_range ht', Option.map_some, Option.some.injEq] at hz'
    cases hi : P.info? t with
    | none => rw [hi] at hz'; cases hz'
    | some i =>
      rw [hi] at hz'
      refine ⟨i, hi, .inr ?_⟩
      rw [hti t ht']
      exact hz'
  · have ht' : t < n := by simpa [Ctx.of] using ht
    have := List.all_eq_true.1 hs t (List.mem_range.2 ht')
    rw [hti t ht']
    unfold okSize at this
    simp only [Bool.or_eq_true, Bool.and_eq_true] at this
    rcases this with h1 | h1
    · exact .inl h1
    · exact .inr ⟨Nat.eq_of_beq_eq_true h1.1, Nat.eq_of_beq_eq_true h1.2⟩
  · have hl : f < nf := by
      rcases Nat.lt_or_ge f nf with hl | hl
      · exact hl
      · simp only [Ctx.of, List.getD_eq_getElem?_getD] at hf
        rw [List.getElem?_eq_none (by simpa using hl)] at hf; simp at hf
    have : entB P f = true := by
      simp only [Ctx.of, List.getD_eq_getElem?_getD, List.getElem?_map] at hf
      simpa [hl] using hf
    have hnm := List.all_eq_true.1 hn f (List.mem_range.2 hl)
    unfold entB at this
    unfold nameOk at hnm
    split at this
    · rename_i fn hfn
      rw [hfn] at hnm
      exact ⟨fn, hfn, this, by simpa using hnm⟩
    · cases this

end Go.Vc
