/- Arrays of bytes that come in. -/
import Derived.Test.YtgdhddignbkloaaVcL
namespace Go.Vc
open Go

def byteOfV : Value → UInt8
  | .int _ n => UInt8.ofNat n.toNat
  | _ => 0

theorem bytes_in {P : Program} {w : World} {r : Reach} {base : Nat} {t e : TypeId} {n : Nat} (ht : P.underlying t = some (.array n e)) (he : P.underlying e = some (.int .u8)) (hc : P.cellsOf t = n)
    (hct : P.cellTypes P.depth t = some (List.replicate n e)) {v : Value} (h : Value.okWide P w r base t v) : ∃ b : Bs n, v = (TV.bytes n b).val := by
  unfold Value.okWide at h
  rw [ht] at h
  simp only at h
  obtain ⟨cs, rfl, hs, ts, hts, _, hcell⟩ := h
  rw [hct] at hts
  obtain rfl := Option.some.inj hts
  have each : ∀ (i : Nat) (v : Value), cs[i]? = some v → v = Value.int .u8 ((byteOfV v).toNat : Int) := fun i v hv => by
    obtain ⟨u, hu, hok⟩ := hcell i v hv
    have : u = e := List.eq_of_mem_replicate (List.mem_of_getElem? hu)
    subst this
    unfold Cell.okWide at hok
    rw [he] at hok
    have hok' : Cell.ok P w r base u v := by
      revert hok
      cases v <;> exact id
    unfold Cell.ok at hok'
    rw [he] at hok'
    cases v <;> simp only at hok'
    case int k m =>
      obtain ⟨rfl, h0, h1⟩ := hok'
      have h0' : 0 ≤ m := h0
      have h1' : m ≤ 255 := h1
      unfold byteOfV
      rw [UInt8.toNat_ofNat']
      congr 1
      omega
  refine ⟨⟨cs.toList.map byteOfV, by simp [hs, hc]⟩, ?_⟩
  simp only [TV.val]
  congr 1
  apply Array.ext_getElem?
  intro i
  simp only [List.map_map, List.getElem?_toArray, List.getElem?_map, Array.getElem?_toList]
  cases hv : cs[i]? with
  | none => rfl
  | some v =>
    simp only [Option.map_some, Function.comp]
    rw [← each i v hv]

end Go.Vc
