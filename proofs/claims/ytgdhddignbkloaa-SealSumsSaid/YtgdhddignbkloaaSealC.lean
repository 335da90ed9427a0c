/- A message's bytes, who speaks, its tag, what is signed and checked, its votes. -/
import Derived.Test.YtgdhddignbkloaaSealB
import Derived.Test.YtgdhddignbkloaaVsSealC
namespace Go.Proofs.Ytgdhddignbkloaa.Board
open Go Go.Vc
section
variable {R : Value → Heap → Prop} {h : Heap}

/-- A message's bytes without its tag. -/
def plainF (m : Ms) (row : List Bool) : List UInt8 :=
  (([UInt8.ofNat (IntKind.wrap .u8 m.kind).toNat] ++ leF (IntKind.wrap .u64 m.slot) 4) ++ m.target.l) ++
    if m.kind = 1 then leF (IntKind.wrap .u64 m.member) 2 ++ leF m.body 8 else if m.kind = 2 then leF (IntKind.wrap .u64 m.member) 2 else if m.kind = 3 then bitF row else []

theorem leF_len (n : Int) (k : Nat) : (leF n k).length = k := leF_length k n
theorem bitF_len (row : List Bool) : (bitF row).length = row.length / 8 + 1 := by simp [bitF, bitS, bitG_length]

theorem plainF_len (m : Ms) (row : List Bool) : (plainF m row).length ≤ 60 + row.length := by
  unfold plainF
  simp only [List.length_append, leF_len, m.target.h, List.length_singleton]
  split
  · simp only [List.length_append, leF_len]; omega
  · split
    · simp only [leF_len]; omega
    · split
      · rw [bitF_len]; omega
      · simp only [List.length_nil]; omega

theorem elems_bytes {b o n c : Nat} {x : Bs n} (a : atBytes h b o n x) : Elems 1 h ⟨some ⟨b, o⟩, n, c⟩ (bys x.l) := by
  refine ⟨by rw [List.length_map, x.h], (fun hn => by cases hn), fun l hl i t ht => ?_⟩
  obtain rfl := Option.some.inj hl
  rw [List.getElem?_map] at ht
  obtain ⟨u, hu, rfl⟩ := Option.map_eq_some_iff.1 ht
  have hi : i < n := by rw [← x.h]; exact (List.getElem?_eq_some_iff.1 hu).1
  have := a i hi
  rw [List.getD_eq_getElem?_getD, hu] at this
  show at1 _ _ _ _
  rw [Nat.mul_one]
  exact this

theorem app_loose {e : TypeId} {s : Sl} {n : Nat} {new : List Value} {K : Sl → Heap → Prop} (H : vcAppend ctx e s n new h K) : vcAppend ctxL e s n new h K := H

theorem put_n {T : TypeId} {b n : Nat} {t0 t : TV} {K : Heap → Prop} (v : Var T h b t0) (hn : n = t0.size) (hs : t.size = t0.size) (hk : ∀ h1, Var T h1 b t → Only (· = b) h h1 → h1.size = h.size → K h1) : wok h b 0 n ∧ Bind (t.put h b 0) K := by
  subst hn
  exact put_in v hs hk

theorem app_bytesN {Q : Nat → Prop} {s : Sl} {bs us : List UInt8} {n : Nat} {K : Sl → Heap → Prop} (hn : n = us.length) (r : Row Q h s bs) (hl : bs.length + us.length < 10000)
    (hk : ∀ s' h', Row Q h' s' (bs ++ us) → Only (In s) h h' → (∀ l, s'.a = some l → (∃ l', s.a = some l' ∧ l'.b = l.b) ∨ h.size ≤ l.b) → K s' h') :
    vcAppend ctx 5 s n (us.map fun c => Value.int .u8 (c.toNat : Int)) h K := by
  subst hn
  exact app_bytes r hl hk

theorem bind_of {h1 : Heap} {K : Heap → Prop} (hk : K h1) : Bind h1 K := hk

set_option maxRecDepth 100000 in
theorem plain_spec {m : Ms} {row : List Bool} (e : Elems 1 h m.bits (bools row)) (hl : row.length < 500) (hr : ∀ h', Ext h h' → R (TV.str (plainF m row)).val h') : CallsH Try.prog 28 (TVs.vals [m.tv]) h R := by
  apply wire_Plain_calls m.kind m.slot m.target m.member m.body m.bits m.tag
  unfold wire_Plain_vc
  have el : row.length = m.bits.len := by have := e.len; rwa [List.length_map] at this
  refine newTV_in fun h1 v1 x1 s1 => ?_
  have at1' := v1.at (t := m.tv)
  obtain ⟨a0, a1, a2, a3, a4, a5, a6⟩ := at1'
  have hw := wrap_u8_range m.kind
  have xp := Ext.push h1 (Vc.row (TVs.cells [TV.int .u8 (IntKind.wrap .u8 m.kind)]) 5)
  have r1 : Row (fun i => h.size < i) (h1.push (Vc.row (TVs.cells [TV.int .u8 (IntKind.wrap .u8 m.kind)]) 5)) ⟨some ⟨h1.size, 0⟩, 1, 1⟩ [UInt8.ofNat (IntKind.wrap .u8 m.kind).toNat] := by
    have o := Own.new (T := 5) (sz := 1) h1 [TV.int .u8 (IntKind.wrap .u8 m.kind)] (fun t ht => by
      simp only [List.mem_cons, List.not_mem_nil, or_false] at ht
      subst ht; rfl)
    have e1 : byTV (UInt8.ofNat (IntKind.wrap .u8 m.kind).toNat) = TV.int .u8 (IntKind.wrap .u8 m.kind) := by
      unfold byTV
      rw [UInt8.toNat_ofNat']
      congr 1
      omega
    refine ⟨?_, fun l hl => ?_, fun i hi => ?_⟩
    · have e2 : bys [UInt8.ofNat (IntKind.wrap .u8 m.kind).toNat] = [TV.int .u8 (IntKind.wrap .u8 m.kind)] := by simp [bys, e1]
      rw [e2]
      exact o
    · obtain rfl := Option.some.inj hl
      show h.size < h1.size
      omega
    · rw [Array.size_push] at hi
      omega
  refine ⟨_, a0, _, at1_ext xp a1, ?_⟩
  refine put_spec_le (k := 4) r1 (by simp) (by decide) fun h2 s2 r2 o2 => ⟨_, rfl, ?_⟩
  have x2 : Ext h1 h2 := Only.cut xp o2 fun i hi => by omega
  have hc : cutSl (Sl.mk (some (Vc.Loc.mk h.size 2)) 32 32) 0 32 1 = ⟨some ⟨h.size, 2⟩, 32, 32⟩ := rfl
  rw [hc]
  refine ⟨m.target.l.map fun c => Value.int .u8 (c.toNat : Int), by rw [← bys_cells]; exact (elems_bytes (atBytes_ext x2 a2)).cells (bys_size _) (by decide), bcells_one m.target.l, app_loose ?_⟩
  refine app_bytesN m.target.h.symm r2 (by rw [List.length_append, leF_len, List.length_singleton, m.target.h]; decide) fun s3 h3 r3 f3 b3 => ?_
  have f3 := r2.cut f3
  have x3 : Ext h1 h3 := Only.cut xp (o2.trans f3) fun i hi => by omega
  have x03 := x1.trans x3
  have v3 : Var 32 h3 h.size m.tv := v1.ext x3
  have at3 := v3.at
  obtain ⟨b0, b1, b2, b3, b4, b5, b6⟩ := at3
  have l3 : (([UInt8.ofNat (IntKind.wrap .u8 m.kind).toNat] ++ leF (IntKind.wrap .u64 m.slot) 4) ++ m.target.l).length = 37 := by
    rw [List.length_append, List.length_append, leF_len, List.length_singleton, m.target.h]
  refine ⟨_, b0, If.dec.2 ⟨fun k1 => ?_, fun k1 => If.dec.2 ⟨fun k2 => ?_, fun k2 => If.dec.2 ⟨fun k3 => ?_, fun k3 => ?_⟩⟩⟩⟩
  · refine ⟨h1, x3, _, a3, _, a4, ?_⟩
    refine put_spec_le (k := 2) r3 (by rw [l3]; decide) (by decide) fun h4 s4 r4 o4 => ⟨_, rfl, Only.cut x3 o4 fun i hi => by omega, ?_⟩
    refine put_spec_le (k := 8) r4 (by rw [List.length_append, l3, leF_len]; decide) (by decide) fun h5 s5 r5 o5 => ⟨_, rfl, _, r5.str, ?_⟩
    have := hr h5 (Only.cut x03 (o4.trans o5) fun i hi => by omega)
    unfold plainF at this
    rw [if_pos k1, ← List.append_assoc] at this
    exact this
  · refine ⟨_, b3, ?_⟩
    refine put_spec_le (k := 2) r3 (by rw [l3]; decide) (by decide) fun h4 s4 r4 o4 => ⟨_, rfl, _, r4.str, ?_⟩
    have := hr h4 (Only.cut x03 o4 fun i hi => by omega)
    unfold plainF at this
    rw [if_neg k1, if_pos k2] at this
    exact this
  · refine ⟨_, b5, ?_⟩
    refine bput_spec r3 (by rw [l3]; decide) (by omega) el (fun h' o' => e.ext (Only.cut x03 o' fun i hi => by omega)) fun h4 s4 r4 o4 => ⟨_, rfl, _, r4.str, ?_⟩
    have := hr h4 (Only.cut x03 o4 fun i hi => by omega)
    unfold plainF at this
    rw [if_neg k1, if_neg k2, if_pos k3] at this
    exact this
  · have := hr h3 x03
    unfold plainF at this
    rw [if_neg k1, if_neg k2, if_neg k3, List.append_nil] at this
    exact ⟨_, r3.str, this⟩

/-! ### What one speaker's tag is of -/

def oneF (m : Ms) (who : Int) : Ms := if m.kind = 3 then ⟨2, m.slot, m.target, who, 0, Sl.nil, Bs.zero 16⟩ else m
def oneR (m : Ms) (row : List Bool) : List Bool := if m.kind = 3 then [] else row

theorem one_spec {m : Ms} {who : Int} (hr : ∀ h', Ext h h' → R (oneF m who).tv.val h') : CallsH Try.prog 29 (TVs.vals [m.tv, .int .i64 who]) h R := by
  apply seal_one_calls m.kind m.slot m.target m.member m.body m.bits m.tag who
  unfold seal_one_vc
  refine newTV_in fun h1 v1 x1 s1 => newTV_in fun h2 v2 x2 s2 => ?_
  have w1 : Var 32 h2 h.size m.tv := v1.ext x2
  have v2 : Var 32 h2 h1.size zeroM.tv := v2
  have at1' := w1.at
  obtain ⟨a0, a1, a2, a3, a4, a5, a6⟩ := at1'
  refine ⟨_, a0, If.dec.2 ⟨fun k => ⟨_, a1, _, a2, ?_⟩, fun k => ms_at w1 ?_⟩⟩
  · have he : oneF m who = ⟨2, m.slot, m.target, who, 0, Sl.nil, Bs.zero 16⟩ := if_pos k
    refine put_n v2 (t := (Ms.mk 2 m.slot m.target who 0 Sl.nil (Bs.zero 16)).tv) mssz1 mssz fun h3 v3 f3 s3 => ?_
    refine ms_at (m := Ms.mk 2 m.slot m.target who 0 Sl.nil (Bs.zero 16)) v3 ?_
    have := hr h3 (Only.cut (x1.trans x2) f3 fun i hi => by omega)
    rw [he] at this
    exact this
  · have he : oneF m who = m := if_neg k
    refine put_n v2 (t := m.tv) mssz1 mssz fun h3 v3 f3 s3 => ?_
    refine ms_at v3 ?_
    have := hr h3 (Only.cut (x1.trans x2) f3 fun i hi => by omega)
    rw [he] at this
    exact this

/-! ### Who speaks -/

/-- Who speaks in a message, and whether they can. -/
noncomputable def speakF (n : Nat) (com : Int) (m : Ms) (row : List Bool) : List Int × Bool :=
  if goodF m row = false then ([], false)
  else if m.kind = 3 then (if mem n com m.slot = [] ∨ row.length ≠ (mem n com m.slot).length then ([], false) else (pk (mem n com m.slot) row, true))
  else if m.kind = 1 ∧ firstOf (mem n com m.slot) ≠ m.member then ([], false)
  else if idx (mem n com m.slot) m.member 0 < 0 then ([], false) else ([m.member], true)

theorem nil_ints (h : Heap) : Elems 1 h Sl.nil (ints []) := Elems.nil_ 1 h

theorem one_ints (h : Heap) (x : Int) : Elems 1 (h.push (Vc.row (TVs.cells [TV.int .i64 x]) 3)) ⟨some ⟨h.size, 0⟩, 1, 1⟩ (ints [x]) :=
  (Own.new (T := 3) (sz := 1) h [TV.int .i64 x] (fun t ht => by
    simp only [List.mem_cons, List.not_mem_nil, or_false] at ht
    subst ht; rfl)).elems

theorem speak_spec {c : Cf} {m : Ms} {row : List Bool} (hv : c.vals.len < 900) (e : Elems 1 h m.bits (bools row)) (hl : row.length < 100000)
    (hr : ∀ h' s', Elems 1 h' s' (ints (speakF c.vals.len c.com m row).1) → Ext h h' → R (TV.tup [.slice s', .bool (speakF c.vals.len c.com m row).2]).val h') : CallsH Try.prog 14 (TVs.vals [c.tv, m.tv]) h R := by
  apply seal_Speakers_calls c.vals c.ep c.com c.no c.orp c.ear c.quo c.pe c.by_ c.win c.ban c.dec m.kind m.slot m.target m.member m.body m.bits m.tag
  unfold seal_Speakers_vc
  refine newTV_in fun h1 v1 x1 s1 => newTV_in fun h2 v2 x2 s2 => ?_
  have v1 : Var 24 h1 h.size c.tv := v1
  have v2 : Var 32 h2 h1.size m.tv := v2
  have x02 := x1.trans x2
  refine ms_at v2 (mgood_spec (e.ext x02) hl fun h3 x3 => ⟨_, rfl, ?_⟩)
  have x03 := x02.trans x3
  have w1 : Var 24 h3 h.size c.tv := (v1.ext x2).ext x3
  have w2 : Var 32 h3 h1.size m.tv := v2.ext x3
  have at2 := w2.at
  obtain ⟨a0, a1, a2, a3, a4, a5, a6⟩ := at2
  have bad : ∀ h', Ext h h' → speakF c.vals.len c.com m row = ([], false) → R (TV.tup [.slice Sl.nil, .bool false]).val h' := fun h' x hs => by
    have := hr h' Sl.nil (by rw [hs]; exact nil_ints h') x
    rw [hs] at this
    exact this
  refine If.split (fun hg => bad h3 x03 ?_) fun hg => ⟨_, a0, If.dec.2 ⟨fun k3 => ?_, fun k3 => ⟨_, a0, ?_⟩⟩⟩
  · unfold speakF
    rw [if_pos (by simpa using hg)]
  · have hg : ¬ goodF m row = false := by simpa using hg
    refine cf_at w1 ⟨_, a1, _, a5, ?_⟩
    refine pick_spec (c := c) hv (e.ext x03) (fun h4 x4 hn => ⟨_, _, rfl, bad h4 (x03.trans x4) ?_⟩) fun h4 s4 o4 x4 hy1 hy2 => ⟨_, _, rfl, ?_⟩
    · unfold speakF
      rw [if_neg hg, if_pos k3, if_pos hn]
    · have hs : speakF c.vals.len c.com m row = (pk (mem c.vals.len c.com m.slot) row, true) := by
        unfold speakF
        rw [if_neg hg, if_pos k3, if_neg (fun hx => hx.elim hy1 (fun hx => hx hy2))]
      have := hr h4 s4 (by rw [hs]; exact o4.elems) (x03.trans x4)
      rw [hs] at this
      exact this
  · have hg : ¬ goodF m row = false := by simpa using hg
    have last : ∀ h4, Ext h3 h4 → (¬ (m.kind = 1 ∧ firstOf (mem c.vals.len c.com m.slot) ≠ m.member)) → CallsH Try.prog 33 (TVs.vals [c.tv, .int .i64 m.slot, .int .i64 m.member]) h4 fun v h => ∃ (n : Int), v = TV.val (TV.int .i64 n) ∧ If (decide (n < 0)) (R (TV.val (TV.tup [TV.slice Sl.nil, TV.bool false])) h) (∃ (n : Int), at1 h h1.size 34 (.int .i64 n) ∧ R (TV.val (TV.tup [TV.slice (Sl.mk (some (Vc.Loc.mk h.size 0)) 1 1), TV.bool true])) (h.push (Vc.row (TVs.cells [TV.int .i64 n]) 3))) := by
      intro h4 x4 hk
      refine place_spec (c := c) hv fun h5 x5 => ⟨_, rfl, If.dec.2 ⟨fun hi => bad h5 ((x03.trans x4).trans x5) ?_, fun hi => ⟨m.member, at1_ext x5 (at1_ext x4 a3), ?_⟩⟩⟩
      · unfold speakF
        rw [if_neg hg, if_neg k3, if_neg hk, if_pos hi]
      · have hs : speakF c.vals.len c.com m row = ([m.member], true) := by
          unfold speakF
          rw [if_neg hg, if_neg k3, if_neg hk, if_neg hi]
        have := hr _ ⟨some ⟨h5.size, 0⟩, 1, 1⟩ (by rw [hs]; exact one_ints h5 m.member) (((x03.trans x4).trans x5).trans (Ext.push _ _))
        rw [hs] at this
        exact this
    refine If.dec.2 ⟨fun k1 => ?_, fun k1 => ?_⟩
    · refine cf_at w1 ⟨_, a1, _, a3, ?_⟩
      refine proposer_spec (c := c) hv fun h4 x4 => ⟨_, rfl, x4, ?_⟩
      have w14 := w1.ext x4
      refine If.split (fun hp => If.split (fun hp => bad h4 (x03.trans x4) ?_) fun hn => absurd hp (by rw [hn]; decide)) fun hp => ?_
      · unfold speakF
        rw [if_neg hg, if_neg k3, if_pos ⟨k1, by simpa using hp⟩]
      · refine cf_at w14 ⟨_, at1_ext x4 a1, _, at1_ext x4 a3, ?_⟩
        exact last h4 x4 fun hx => hx.2 (by simpa using hp)
    · refine cf_at w1 ⟨_, a1, _, a3, ?_⟩
      exact last h3 (Ext.refl _) fun hx => k1 hx.1

theorem pk_sub : ∀ (l : List Int) (row : List Bool) (x : Int), x ∈ pk l row → x ∈ l
  | [], _, x, h => by simp [pk] at h
  | _ :: _, [], x, h => by simp [pk] at h
  | y :: l, b :: row, x, h => by
    unfold pk at h
    split at h
    · rcases List.mem_cons.1 h with h1 | h1
      · exact List.mem_cons.2 (.inl h1)
      · exact List.mem_cons.2 (.inr (pk_sub l row x h1))
    · exact List.mem_cons.2 (.inr (pk_sub l row x h))

theorem mem_range {n : Nat} {com slot x : Int} (h : x ∈ mem n com slot) : 0 ≤ x ∧ x < n := by
  by_cases hs : slot < 0 ∨ 1073741824 < slot
  · rw [mem_out hs] at h; cases h
  · rw [mem_eq (by omega) (by omega)] at h
    exact whos_mem (List.mem_of_mem_take h)

theorem speak_mem {n : Nat} {com : Int} {m : Ms} {row : List Bool} {x : Int} (h : x ∈ (speakF n com m row).1) : x ∈ mem n com m.slot := by
  unfold speakF at h
  split at h
  · cases h
  · split at h
    · split at h
      · cases h
      · exact pk_sub _ _ _ h
    · split at h
      · cases h
      · split at h
        · cases h
        · rename_i hi
          simp only [List.mem_singleton] at h
          subst h
          apply Classical.byContradiction
          intro hn
          rw [idx_out _ _ _ hn] at hi
          exact hi (by decide)

theorem speak_len {n : Nat} {com : Int} {m : Ms} {row : List Bool} : (speakF n com m row).1.length ≤ n + 1 := by
  have hp : ∀ (l : List Int) (row : List Bool), (pk l row).length ≤ l.length := by
    intro l
    induction l with
    | nil => intro row; simp [pk]
    | cons y l ih =>
      intro row
      cases row with
      | nil => simp [pk]
      | cons b row =>
        unfold pk
        split
        · simp [ih row]
        · have := ih row; simp; omega
  unfold speakF
  split
  · simp
  · split
    · split
      · simp
      · have := hp (mem n com m.slot) row
        have := mem_length n com m.slot
        show (pk _ _).length ≤ _
        omega
    · split
      · simp
      · split <;> simp

end
end Go.Proofs.Ytgdhddignbkloaa.Board
