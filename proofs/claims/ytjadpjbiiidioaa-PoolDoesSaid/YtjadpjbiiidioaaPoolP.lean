/- PoolDoes, whole. -/
import Derived.Test.YtjadpjbiiidioaaPoolO
namespace Go.Proofs.Ytjadpjbiiidioaa.Pool
open Go Go.Vc
section
variable {R : Value → Heap → Prop} {h : Heap} {most quota : Int}

theorem zero_sz5 (c : Cl) (a b d e : Int) (t : List UInt8) : c.tv.size = (TV.agg [.int .i64 a, .int .i64 b, .int .i64 d, .int .i64 e, .str t]).size := rfl

set_option maxHeartbeats 1000000 in
theorem poolDoes_spec {s : Sl} {l : List Cl} (e : Elems 5 h s (cls l)) (hr : ∀ h', Ext h h' → R (TV.bool true).val h') :
    CallsH Try.prog 7 (TVs.vals [.int .i64 most, .int .i64 quota, .slice s]) h R := by
  apply tollerlaw15_PoolDoes_calls
  unfold tollerlaw15_PoolDoes_vc
  have hel := e.len
  rw [List.length_map] at hel
  refine alive_spec fun h1 x1 => ⟨_, rfl, If.no ?_⟩
  refine great_spec (e.ext x1) fun h2 x2 => ⟨_, rfl, ?_⟩
  have x02 := x1.trans x2
  cases hg : greatB l with
  | true => exact If.yes (hr _ x02)
  | false =>
  have hl := great_few hg
  refine If.no (put_nil It.zero fun h3 x3 => ⟨_, _, _, _, _, _, rfl, ?_⟩)
  refine newTV_in fun h4 v4 x4 s4 => put_in (t0 := It.zero.tv) (t := It.zero.tv) v4 rfl fun h5 v5 o5 s5 => ?_
  have x05 : Ext h h5 := (x02.trans x3).trans (Only.cut x4 o5 fun i hi => by omega)
  intro J hJ
  refine If.no (lenP_nil ⟨_, rfl, If.no (of_nil fun h6 x6 => ⟨_, rfl, If.no (has_nil fun h7 x7 => ⟨_, rfl, If.no (all_nil ⟨_, rfl, If.no (take_nil (f := ⟨(TV.fn (.func 23) [] []).val, rfl⟩) ⟨_, rfl, If.no (hJ _ _ ?_)⟩)⟩)⟩)⟩)⟩)
  have x07 := (x05.trans x6).trans x7
  clear hJ
  by_cases hq : 1 ≤ most ∧ most ≤ 64 ∧ 1 ≤ quota ∧ quota ≤ 64
  · refine new_spec (fun hn => absurd hq hn) fun _ h8 p8 x8 s8 => ⟨_, rfl, ?_⟩
    refine rnew_spec fun h9 b9 r9 x9 hb9 => ⟨_, _, rfl, ?_⟩
    have run8 := Runs.new hq p8 x8
    have P9 : Pair h7 h9 h7.size h8.size most quota Sl.nil Sl.nil [] := ⟨run8.step x9, r9, x8.size, (fun i hi => by
      rcases hi with rfl | ⟨l, hl, _⟩
      · omega
      · cases hl), fun i l hi hl => by cases hl⟩
    rw [decide_eq_true hq] at hb9
    subst hb9
    intro J2 hJ2
    refine If.no (If.no (hJ2 _ _ ?_))
    clear hJ2
    have e7 := e.ext x07
    refine ⟨fun σ hh => 0 ≤ σ.2 ∧ σ.2 ≤ l.length ∧ ∃ A B S, Pair h7 hh h7.size h8.size most quota A B S, fun σ _ => ((l.length : Int) - σ.2).toNat, ⟨Int.le_refl _, Int.natCast_nonneg _, _, _, _, P9⟩, ?_⟩
    rintro ⟨f, i⟩ hh ⟨i0, i1, A, B, S, P⟩
    dsimp only at i0 i1 ⊢
    refine If.dec.2 ⟨fun hi => ?_, fun hi => hr _ (x07.trans P.run.ext)⟩
    refine cls_at (e7.ext P.run.ext) i0 (by omega) fun p c _ hc => ?_
    refine newTV_in fun h10 v10 x10 s10 => put_in (t := c.tv) v10 (zero_sz5 c _ _ _ _ _) fun h11 v11 o11 s11 => ?_
    have x11 : Ext hh h11 := Only.cut x10 o11 fun j hj => by omega
    refine ⟨c.kind, c.slot, c.n, c.peer, c.text, v11.at, do_spec (P.step x11) hq c fun h12 A' B' S' P' o12 => ⟨_, rfl, If.no ?_⟩⟩
    have hml : h8.size < hh.size := P.ref.var.lt
    have hmine : ∀ i, Mine h7.size A i → i < hh.size := fun i hi => P.run.p.lt hi
    have vc : Var 36 h12 hh.size c.tv := v11.only o12 (fun hx => by
      rcases hx with hx | hx
      · have := hmine _ hx; omega
      · omega)
    have few := P'.ref.few
    refine ⟨B', P'.ref.var.at1 rfl, all_spec P'.run.p fun h13 s13 o13 x13 _ => ⟨_, rfl, x13, plain_spec o13.elems (by omega) fun h14 s14 o14 x14 _ => ⟨_, rfl, x14, ?_⟩⟩⟩
    have x1214 := x13.trans x14
    have P14 := P'.step x1214
    have vc14 := vc.ext x1214
    refine same_spec o14.elems P14.ref.el (by omega) ⟨_, rfl, ?_⟩
    rw [decide_eq_true rfl]
    refine If.no ⟨B', P14.ref.var.at1 rfl, lenP_spec P14.run.p ⟨_, rfl, Ext.refl _, ?_⟩⟩
    have hlen := P14.ref.len
    refine If.split (fun hb => by rw [hlen] at hb; simp at hb) fun _ => ?_
    refine ⟨c.peer, vc14.at1 rfl, c.peer, vc14.at1 rfl, of_spec P14.run.p fun h15 x15 => ⟨_, rfl, x15, rof_spec (P14.ref.ext x15) fun h16 x16 => ⟨_, rfl, ?_⟩⟩⟩
    have x1416 := x15.trans x16
    have P16 := P14.step x1416
    have vc16 := vc14.ext x1416
    refine If.split (fun hb => by simp at hb) fun _ => ?_
    refine ⟨c.n, vc16.at1 rfl, c.n, vc16.at1 rfl, name_spec fun h17 x17 => ⟨_, rfl, x17, has_spec (P16.run.p.ext x17) fun h18 x18 => ⟨_, rfl, x18, name_spec fun h19 x19 => ⟨_, rfl, rhas_spec (((P16.ref.ext x17).ext x18).ext x19) fun h20 x20 => ⟨_, rfl, ?_⟩⟩⟩⟩⟩
    refine If.split (fun hb => by simp at hb) fun _ => ?_
    rw [wrap_i64 (n := i + 1) (by omega) (by omega)]
    have P20 := (((P16.step x17).step x18).step x19).step x20
    exact ⟨⟨by first | omega | (dsimp only; omega), by first | omega | (dsimp only; omega), _, _, _, P20⟩, by first | omega | (dsimp only; omega)⟩
  · refine new_spec (fun _ => ⟨_, rfl, ?_⟩) fun hq' => absurd hq' hq
    refine rnew_spec fun h9 b9 r9 x9 hb9 => ⟨_, _, rfl, ?_⟩
    rw [decide_eq_false hq] at hb9
    subst hb9
    intro J2 _
    exact If.yes (If.yes (hr _ (x07.trans x9)))

theorem poolDoes_whole {s : Sl} {l : List Cl} (e : Elems 5 h s (cls l) ∧ ∀ c ∈ l, c.fit) (hr : ∀ h', Ext h h' → R (TV.bool true).val h') :
    CallsH Try.prog 7 (TVs.vals [.int .i64 most, .int .i64 quota, .slice s]) h R := poolDoes_spec e.1 hr

end
end Go.Proofs.Ytjadpjbiiidioaa.Pool
