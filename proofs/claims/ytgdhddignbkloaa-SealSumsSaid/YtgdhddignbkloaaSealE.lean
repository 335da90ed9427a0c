/- That something is done at all; who may play; rows of votes are the same. -/
import Derived.Test.YtgdhddignbkloaaSealD
import Derived.Test.YtgdhddignbkloaaVsSealE
namespace Go.Proofs.Ytgdhddignbkloaa.Board
open Go Go.Vc

/-- What a message's tag is plays no part. -/
theorem tag1_tag (L : List Vd) (m : Ms) (row : List Bool) (t : Bs 16) (i : Int) : tag1 L { m with tag := t } row i = tag1 L m row i := by
  unfold tag1 oneF oneR
  by_cases h : m.kind = 3
  · simp only [if_pos h]
  · simp only [if_neg h]
    rfl

theorem speak_tag (n : Nat) (com : Int) (m : Ms) (row : List Bool) (t : Bs 16) : speakF n com { m with tag := t } row = speakF n com m row := rfl

theorem tagF_tag (n : Nat) (com : Int) (L : List Vd) (m : Ms) (row : List Bool) (t : Bs 16) : tagF n com L { m with tag := t } row = tagF n com L m row := by
  unfold tagF
  rw [speak_tag, show tag1 L { m with tag := t } row = tag1 L m row from funext fun i => tag1_tag L m row t i]

theorem votes_tag (n : Nat) (com : Int) (m : Ms) (row : List Bool) (t : Bs 16) : votesF n com { m with tag := t } row = votesF n com m row := rfl

def aM : Ms := ⟨1, 3, Bs.zero 32, 0, 0, Sl.nil, Bs.zero 16⟩
def aL : List Vd := [⟨5, [107]⟩]

set_option maxRecDepth 1000000 in
set_option maxHeartbeats 4000000 in
theorem alive_tag : (joinF [tag1 aL aM [] 0] (Bs.zero 16)).l ≠ (Bs.zero 16).l := by decide +kernel

theorem mem1 : mem 1 1 3 = [0] := by
  rw [mem_eq (by decide) (by decide)]
  have h := whos_perm 3 1
  have h2 : whos 3 1 = [0] := by
    have : (List.range 1).map (fun (i : Nat) => (i : Int)) = [0] := rfl
    rw [this] at h
    exact List.perm_singleton.1 h
  rw [h2]
  rfl

theorem alive_speak : speakF 1 1 aM [] = ([0], true) := by
  unfold speakF
  rw [show mem 1 1 aM.slot = [0] from mem1]
  decide

theorem alive_votes (b : Sl) : votesF 1 1 ⟨3, 3, Bs.zero 32, 0, 0, b, Bs.zero 16⟩ [true] = [⟨0, 3, Bs.zero 32⟩] := by
  unfold votesF speakF
  have hg : goodF ⟨3, 3, Bs.zero 32, 0, 0, b, Bs.zero 16⟩ [true] = true := rfl
  rw [hg, show mem 1 1 (Ms.mk 3 3 (Bs.zero 32) 0 0 b (Bs.zero 16)).slot = [0] from mem1]
  simp [pk]

section
variable {R : Value → Heap → Prop} {h : Heap}

theorem zsz {c : Cf} : 12 = c.tv.size := cfsz1

set_option maxRecDepth 100000 in
theorem alive_spec (hr : ∀ h', Ext h h' → R (TV.bool true).val h') : CallsH Try.prog 9 (TVs.vals []) h R := by
  apply tollerlaw08_alive_calls
  unfold tollerlaw08_alive_vc
  have xp := Ext.push h (Vc.row (TVs.cells [Vd.tv ⟨5, [107]⟩]) 59)
  have ov := (Own.new (T := 59) (sz := 2) h [Vd.tv ⟨5, [107]⟩] (fun t ht => by
    simp only [List.mem_cons, List.not_mem_nil, or_false] at ht
    subst ht; exact Vd.size _)).elems
  have zp : (h.push (Vc.row (TVs.cells [Vd.tv ⟨5, [107]⟩]) 59)).size = h.size + 1 := Array.size_push ..
  generalize hcc : (Cf.mk ⟨some ⟨h.size, 0⟩, 1, 1⟩ 4 1 1 1 1 1 1 1 1 1 1) = cc
  have hvals : cc.vals = ⟨some ⟨h.size, 0⟩, 1, 1⟩ := by rw [← hcc]
  have hcom : cc.com = 1 := by rw [← hcc]
  refine newTV_in fun h1 v1 x1 s1 => ?_
  have v1 : Var 24 h1 (h.push (Vc.row (TVs.cells [Vd.tv ⟨5, [107]⟩]) 59)).size zeroC.tv := v1
  refine put_n v1 (t := (Cf.mk ⟨some ⟨h.size, 0⟩, 1, 1⟩ 4 1 1 1 1 1 1 1 1 1 1).tv) cfsz1 cfsz fun h2 v2 f2 s2 => ?_
  rw [hcc] at v2
  have xp2 : Ext (h.push (Vc.row (TVs.cells [Vd.tv ⟨5, [107]⟩]) 59)) h2 := Only.cut x1 f2 fun i hi => by rw [hi]; exact Nat.le_refl _
  have x2 : Ext h h2 := xp.trans xp2
  have ev2 : Elems 2 h2 cc.vals (vds aL) := by rw [hvals]; exact ov.ext xp2
  have hkey : ∀ v ∈ aL, v.key.length ≤ 64 := by decide
  have hv : cc.vals.len < 900 := by rw [hvals]; show 1 < 900; decide
  have hn1 : cc.vals.len = 1 := by rw [hvals]
  have hsign : signF cc.vals.len cc.com aL aM [] = ({ aM with tag := joinF [tag1 aL aM [] 0] (Bs.zero 16) }, true) := by
    rw [hn1, hcom]
    unfold signF tagF
    rw [alive_speak]
    rfl
  refine cf_at v2 ?_
  refine sign_spec (c := cc) (m := aM) (row := []) hv ev2 hkey (Elems.nil_ 1 h2) (by decide) fun h3 x3 => ?_
  rw [hsign]
  refine ⟨_, _, _, _, _, _, _, _, rfl, ?_⟩
  have hT := alive_tag
  generalize hTT : joinF [tag1 aL aM [] 0] (Bs.zero 16) = T at hsign hT ⊢
  refine newTV_in fun h4 v4 x4 s4 => ?_
  have v4 : Var 32 h4 h3.size zeroM.tv := v4
  refine put_n v4 (t := ({ aM with tag := T } : Ms).tv) mssz1 mssz fun h5 v5 f5 s5 => ?_
  have x35 : Ext h3 h5 := Only.cut x4 f5 fun i hi => by omega
  have x25 := x3.trans x35
  refine cf_at (v2.ext x25) ?_
  have eb : Elems 1 (h5.push (Vc.row (TVs.cells [TV.bool true]) 4)) ⟨some ⟨h5.size, 0⟩, 1, 1⟩ (bools [true]) := (Own.new (T := 4) (sz := 1) h5 [TV.bool true] (fun t ht => by
    simp only [List.mem_cons, List.not_mem_nil, or_false] at ht
    subst ht; rfl)).elems
  refine votes_spec (c := cc) (m := ⟨3, 3, Bs.zero 32, 0, 0, ⟨some ⟨h5.size, 0⟩, 1, 1⟩, Bs.zero 16⟩) (row := [true]) hv eb (by decide) fun h6 s6 e6 x6 => ⟨_, rfl, ?_⟩
  rw [hn1, hcom, alive_votes] at e6
  have x56 := (Ext.push h5 (Vc.row (TVs.cells [TV.bool true]) 4)).trans x6
  have x26 := x25.trans x56
  have l6 : s6.len = 1 := e6.len.symm
  refine If.yes (cf_at (v2.ext x26) (ms_at (v5.ext x56) ?_))
  refine check_spec (c := cc) (m := { aM with tag := T }) (row := []) hv (ev2.ext x26) hkey (Elems.nil_ 1 h6) (by decide) fun h7 x7 => ⟨_, rfl, ?_⟩
  have hck : checkF cc.vals.len cc.com aL { aM with tag := T } [] = true := by
    unfold checkF
    rw [tagF_tag, hn1, hcom]
    unfold tagF
    rw [alive_speak, if_pos rfl]
    show (true && decide ((joinF [tag1 aL aM [] 0] (Bs.zero 16)).l = T.l)) = true
    rw [hTT]
    simp
  rw [hck]
  have v57 := (v5.ext x56).ext x7
  refine If.yes ⟨T, v57.at.2.2.2.2.2.2, ?_⟩
  rw [decide_eq_false hT]
  refine If.yes ?_
  refine If.dec.2 ⟨fun _ => ?_, fun hx => absurd (show ((s6.len : Nat) : Int) = 1 by omega) hx⟩
  refine (e6.ext x7).read (i := 0) (by decide) (by rw [l6]; decide) fun l t hla ht ha => ?_
  obtain rfl := Option.some.inj ht
  refine ⟨3, ha.2.1, ?_⟩
  exact hr h7 ((x2.trans x26).trans x7)

end
end Go.Proofs.Ytgdhddignbkloaa.Board
