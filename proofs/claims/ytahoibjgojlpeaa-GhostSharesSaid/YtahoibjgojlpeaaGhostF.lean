/- That a chain of two children is alive; names of numbers. -/
import Derived.Test.YtahoibjgojlpeaaGhostE
namespace Go.Proofs.Ytahoibjgojlpeaa.Ghost
open Go Go.Vc

theorem name_head (n : Int) : (name n).l[0]? = some (UInt8.ofNat (n % 256).toNat) := by
  simp [name, Bs.set, Bs.zero]

theorem ofNat_inj {a b : Nat} (ha : a < 256) (hb : b < 256) (h : UInt8.ofNat a = UInt8.ofNat b) : a = b := by
  have := congrArg UInt8.toNat h
  simp only [UInt8.toNat_ofNat'] at this
  omega

theorem name_mod {a b : Int} (h : (name a).l = (name b).l) : a % 256 = b % 256 := by
  have h1 := name_head a
  have h2 := name_head b
  rw [h] at h1
  rw [h1] at h2
  have := ofNat_inj (by omega) (by omega) (Option.some.inj h2)
  omega

theorem name_eq {a b : Int} (h : a % 256 = b % 256) : name a = name b := by
  unfold name
  rw [h]
  have : 7 * a % 256 = 7 * b % 256 := by omega
  rw [this]

theorem name_iff {a b : Int} : (name a).l = (name b).l ↔ a % 256 = b % 256 := ⟨name_mod, fun h => by rw [name_eq h]⟩

theorem Ints.of_own {h : Heap} {s : Sl} {zs : List Int} (o : Own 3 1 h s (zs.map intTV)) (hf : ∀ n ∈ zs, (Lit.int .i64 n).wf = true) : Ints .i64 h s zs := by
  have e := o.elems
  refine ⟨by simpa using o.len, fun hn => by have := e.nil hn; simpa using this, fun l hl i hi => ?_, hf, fun l hl _ => o.lt l hl⟩
  have := e.get l hl i (.int .i64 zs[i]) (by rw [List.getElem?_map, List.getElem?_eq_getElem hi]; rfl)
  rw [Nat.mul_one] at this
  exact this

def aliveBl : List (Rt × Rt) := (plainDoc [0, 0] [1] [5]).bl
def aliveSh : List (Rt × Int) := (plainDoc [0, 0] [1] [5]).sh

theorem alive_head : rootAt aliveBl (headOf aliveBl aliveSh) = (name 1).l := by decide +kernel
theorem alive_weight : weightAt aliveBl aliveSh (name 0).l = 5 := by decide +kernel

section
variable {R : Value → Heap → Prop} {h : Heap}

theorem alive_spec (hr : ∀ h', Ext h h' → R (TV.bool true).val h') : CallsH Try.prog 27 (TVs.vals []) h R := by
  apply tollerlaw20_alive_calls
  have o1 := Own.new (T := 3) (sz := 1) h [.int .i64 0, .int .i64 0] (by simp [TV.size])
  have x1 := Ext.push h (row (TVs.cells [.int .i64 0, .int .i64 0]) 3)
  generalize e1 : h.push (row (TVs.cells [.int .i64 0, .int .i64 0]) 3) = h1 at *
  have o2 := Own.new (T := 3) (sz := 1) h1 [.int .i64 1] (by simp [TV.size])
  have x2 := Ext.push h1 (row (TVs.cells [.int .i64 1]) 3)
  generalize e2 : h1.push (row (TVs.cells [.int .i64 1]) 3) = h2 at *
  have o3 := Own.new (T := 3) (sz := 1) h2 [.int .i64 5] (by simp [TV.size])
  have x3 := Ext.push h2 (row (TVs.cells [.int .i64 5]) 3)
  generalize e3 : h2.push (row (TVs.cells [.int .i64 5]) 3) = h3 at *
  unfold tollerlaw20_alive_vc
  have hs : (List.set (List.set (List.replicate 2 (TV.int IntKind.i64 0)) 0 (TV.int IntKind.i64 0)) 1 (TV.int IntKind.i64 0)) = [.int .i64 0, .int .i64 0] := rfl
  have hs2 : (List.set (List.replicate 1 (TV.int IntKind.i64 0)) 0 (TV.int IntKind.i64 1)) = [.int .i64 1] := rfl
  rw [hs, hs2, e1, e2, e3]
  refine plain_spec (ps := [0, 0]) (ts := [1]) (ks := [5]) ?_ ?_ ?_ (by decide) (by decide) (by decide) fun h4 A P T c x4 => ⟨A, P, T, _, rfl, ?_⟩
  · exact Ints.of_own ((o1.ext x2).ext x3) (by decide)
  · exact Ints.of_own (o2.ext x3) (by decide)
  · exact Ints.of_own o3 (by decide)
  refine chain_spec c (by decide) (by decide) fun h5 B S c5 x5 => ⟨B, S, rfl, ?_⟩
  obtain ⟨w6, h6, e6, v6, x6, s6⟩ := newput_spec h5 (.agg [.slice Sl.nil, .slice Sl.nil]) (.agg [.slice B, .slice S]) 46 rfl
  refine ⟨w6, ?_⟩
  rw [e6]
  refine ⟨B, S, ⟨v6.at1 rfl, v6.at1 rfl⟩, ?_⟩
  have c6 := c5.ext x6
  refine Head_spec c6 fun h7 r x7 _ hroot => ⟨r, rfl, ?_⟩
  have hroot' := hroot (by decide +kernel)
  refine name_spec fun h8 x8 => ⟨_, rfl, ?_⟩
  have he : decide (r.1 = (name 1).1) = true := by
    rw [decide_eq_true_eq]
    exact hroot'.trans alive_head
  rw [he]
  refine If.yes ?_
  have v8 := (v6.ext x7).ext x8
  refine ⟨B, S, ⟨v8.at1 rfl, v8.at1 rfl⟩, ?_⟩
  refine name_spec fun h9 x9 => ⟨_, rfl, x9, ?_⟩
  refine Weight_spec (((c6.ext x7).ext x8).ext x9) fun h10 x10 => ⟨_, rfl, ?_⟩
  have hw : weightAt (plainDoc [0, 0] [1] [5]).bl (plainDoc [0, 0] [1] [5]).sh (name 0).l = 5 := alive_weight
  rw [hw, decide_eq_true rfl]
  exact hr _ (((((((((x1.trans x2).trans x3).trans x4).trans x5).trans x6).trans x7).trans x8).trans x9).trans x10)

end
end Go.Proofs.Ytahoibjgojlpeaa.Ghost
