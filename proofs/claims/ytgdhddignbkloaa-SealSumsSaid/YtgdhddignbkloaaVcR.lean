/- Regions that make several things in whatever order: what has been made so far, as a list. -/
import Derived.Test.YtgdhddignbkloaaVcP
namespace Go.Vc
open Go

/-- A thing that was made: its block, its type, what it holds. -/
structure Made where
  b : Nat
  T : TypeId
  t : TV

/-- What stood at h stands; what was made since holds what the list says; no two of it share a block. -/
structure Bag (h hh : Heap) (l : List Made) : Prop where
  ext : Ext h hh
  var : ∀ x ∈ l, Var x.T hh x.b x.t
  new : ∀ x ∈ l, h.size ≤ x.b
  two : l.Pairwise fun x y => x.b ≠ y.b

section
variable {h hh : Heap} {l : List Made}

theorem Bag.nil (h : Heap) : Bag h h [] := ⟨Ext.refl _, (fun _ hx => by cases hx), (fun _ hx => by cases hx), List.Pairwise.nil⟩

theorem Bag.on {h' : Heap} (B : Bag h hh l) (e : Ext hh h') : Bag h h' l := ⟨B.ext.trans e, fun x hx => (B.var x hx).ext e, B.new, B.two⟩

theorem Bag.make {T : TypeId} {t : TV} {K : Heap → Prop} (B : Bag h hh l) (hk : ∀ h', Ext hh h' → Bag h h' (⟨hh.size, T, t⟩ :: l) → K h') : Bind (newTV hh t T) K :=
  newTV_in fun h' v x _ => hk h' x ⟨B.ext.trans x, fun y hy => by
    rcases List.mem_cons.1 hy with rfl | hy
    · exact v
    · exact (B.var y hy).ext x, fun y hy => by
    rcases List.mem_cons.1 hy with rfl | hy
    · exact B.ext.size
    · exact B.new y hy, List.pairwise_cons.2 ⟨fun y hy => by
      have := (B.var y hy).lt
      intro hn
      simp only at hn
      omega, B.two⟩⟩

theorem Bag.put0 {b n : Nat} {T : TypeId} {t0 t : TV} {K : Heap → Prop} (B : Bag h hh (⟨b, T, t0⟩ :: l)) (ht : t.size = t0.size) (hn : n = t0.size) (hk : ∀ h', Bag h h' (⟨b, T, t⟩ :: l) → K h') : wok hh b 0 n ∧ Bind (t.put hh b 0) K := by
  subst hn
  have hp := List.pairwise_cons.1 B.two
  have hb := B.new _ (List.mem_cons_self ..)
  refine put_in (B.var _ (List.mem_cons_self ..)) ht fun h' v o _ => hk h' ⟨Only.cut B.ext o fun i hi => by subst hi; exact hb, fun y hy => ?_, fun y hy => ?_, List.pairwise_cons.2 ⟨fun y hy => hp.1 y hy, hp.2⟩⟩
  · rcases List.mem_cons.1 hy with rfl | hy
    · exact v
    · exact (B.var y (List.mem_cons_of_mem _ hy)).only o fun hn => hp.1 y hy hn.symm
  · rcases List.mem_cons.1 hy with rfl | hy
    · exact hb
    · exact B.new y (List.mem_cons_of_mem _ hy)

theorem Bag.perm {l' : List Made} (B : Bag h hh l) (hp : l.Perm l') : Bag h hh l' :=
  ⟨B.ext, fun x hx => B.var x (hp.mem_iff.2 hx), fun x hx => B.new x (hp.mem_iff.2 hx), hp.pairwise B.two fun hxy => hxy.symm⟩

theorem Bag.turn {x y : Made} (B : Bag h hh (x :: y :: l)) : Bag h hh (y :: x :: l) := B.perm (List.Perm.swap ..)
theorem Bag.turn2 {x y z : Made} (B : Bag h hh (x :: y :: z :: l)) : Bag h hh (z :: x :: y :: l) := B.perm (by
  refine List.Perm.trans (List.Perm.cons x (List.Perm.swap z y l)) (List.Perm.swap z x _))

theorem Bag.put1 {b n : Nat} {T : TypeId} {t0 t : TV} {K : Heap → Prop} {x : Made} (B : Bag h hh (x :: ⟨b, T, t0⟩ :: l)) (ht : t.size = t0.size) (hn : n = t0.size) (hk : ∀ h', Bag h h' (x :: ⟨b, T, t⟩ :: l) → K h') : wok hh b 0 n ∧ Bind (t.put hh b 0) K :=
  B.turn.put0 ht hn fun h' B' => hk h' B'.turn
theorem Bag.put2 {b n : Nat} {T : TypeId} {t0 t : TV} {K : Heap → Prop} {x y : Made} (B : Bag h hh (x :: y :: ⟨b, T, t0⟩ :: l)) (ht : t.size = t0.size) (hn : n = t0.size) (hk : ∀ h', Bag h h' (x :: y :: ⟨b, T, t⟩ :: l) → K h') : wok hh b 0 n ∧ Bind (t.put hh b 0) K :=
  B.turn2.put0 ht hn fun h' B' => hk h' (B'.perm (List.Perm.trans (List.Perm.swap ..) (List.Perm.cons _ (List.Perm.swap ..))))

theorem Bag.v0 {b : Nat} {T : TypeId} {t : TV} (B : Bag h hh (⟨b, T, t⟩ :: l)) : Var T hh b t := B.var _ (List.mem_cons_self ..)
theorem Bag.v1 {b : Nat} {T : TypeId} {t : TV} {x : Made} (B : Bag h hh (x :: ⟨b, T, t⟩ :: l)) : Var T hh b t := B.turn.v0
theorem Bag.v2 {b : Nat} {T : TypeId} {t : TV} {x y : Made} (B : Bag h hh (x :: y :: ⟨b, T, t⟩ :: l)) : Var T hh b t := B.turn2.v0
theorem Bag.n0 {b : Nat} {T : TypeId} {t : TV} (B : Bag h hh (⟨b, T, t⟩ :: l)) : h.size ≤ b := B.new _ (List.mem_cons_self ..)
theorem Bag.n1 {b : Nat} {T : TypeId} {t : TV} {x : Made} (B : Bag h hh (x :: ⟨b, T, t⟩ :: l)) : h.size ≤ b := B.turn.n0
theorem Bag.n2 {b : Nat} {T : TypeId} {t : TV} {x y : Made} (B : Bag h hh (x :: y :: ⟨b, T, t⟩ :: l)) : h.size ≤ b := B.turn2.n0

end
end Go.Vc
