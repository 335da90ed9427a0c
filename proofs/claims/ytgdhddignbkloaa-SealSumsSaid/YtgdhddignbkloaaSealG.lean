/- Tags joined in any order; what one vote of a sum is; SealSums. -/
import Derived.Test.YtgdhddignbkloaaSealF
import Derived.Test.YtgdhddignbkloaaRefF
import Derived.Test.YtgdhddignbkloaaVsSealSums
namespace Go.Proofs.Ytgdhddignbkloaa.Board
open Go Go.Vc

theorem xb_xor (c d : UInt8) : xb c (d.toNat : Int) = c ^^^ d := by
  unfold xb xv
  apply UInt8.toNat_inj.1
  rw [UInt8.toNat_ofNat', wrap_u8]
  have hc : BitVec.ofInt (IntKind.bits .u8) (c.toNat : Int) = c.toBitVec := by
    apply BitVec.eq_of_toNat_eq
    show (BitVec.ofInt 8 (c.toNat : Int)).toNat = c.toNat
    rw [BitVec.ofInt_natCast, BitVec.toNat_ofNat]
    exact Nat.mod_eq_of_lt c.toNat_lt
  have hd : BitVec.ofInt (IntKind.bits .u8) (d.toNat : Int) = d.toBitVec := by
    apply BitVec.eq_of_toNat_eq
    show (BitVec.ofInt 8 (d.toNat : Int)).toNat = d.toNat
    rw [BitVec.ofInt_natCast, BitVec.toNat_ofNat]
    exact Nat.mod_eq_of_lt d.toNat_lt
  rw [hc, hd]
  have : (c.toBitVec ^^^ d.toBitVec).toNat = (c ^^^ d).toNat := rfl
  have hlt := (c ^^^ d).toNat_lt
  show (((c.toBitVec ^^^ d.toBitVec).toNat : Int) % 256).toNat % 2 ^ 8 = _
  rw [this]
  omega

theorem x16_get (a t : Bs 16) (j : Nat) (hj : j < 16) : getB (x16 a t) j = getB a j ^^^ getB t j := by
  unfold x16
  rw [fillB_get _ _ _ _ (Nat.le_refl _), if_pos hj, xb_xor]

theorem x16_comm (a s t : Bs 16) : x16 (x16 a s) t = x16 (x16 a t) s := by
  apply Bs.get_ext
  intro j hj
  rw [x16_get _ _ _ hj, x16_get _ _ _ hj, x16_get _ _ _ hj, x16_get _ _ _ hj, UInt8.xor_assoc, UInt8.xor_assoc, UInt8.xor_comm (getB s j)]

theorem x16_zero (t : Bs 16) : x16 (Bs.zero 16) t = t := by
  apply Bs.get_ext
  intro j hj
  rw [x16_get _ _ _ hj]
  have : getB (Bs.zero 16) j = 0 := by
    unfold getB Bs.zero
    rw [List.getD_eq_getElem?_getD, List.getElem?_replicate, if_pos hj]
    rfl
  rw [this, UInt8.zero_xor]

theorem joinF_perm {l k : List (Bs 16)} (h : l.Perm k) : ∀ a, joinF l a = joinF k a := by
  induction h with
  | nil => intro a; rfl
  | cons x _ ih => intro a; exact ih _
  | swap x y l => intro a; show joinF l (x16 (x16 a y) x) = joinF l (x16 (x16 a x) y); rw [x16_comm]
  | trans _ _ ih1 ih2 => intro a; rw [ih1, ih2]

/-- The vote that one would have alone. -/
def om (m : Ms) (who : Int) : Ms := ⟨2, m.slot, m.target, who, 0, Sl.nil, Bs.zero 16⟩

theorem idx_in : ∀ (l : List Int) (x k : Int), 0 ≤ k → x ∈ l → 0 ≤ idx l x k
  | [], x, k, _, h => by cases h
  | y :: l, x, k, hk, h => by
    unfold idx
    split
    · exact hk
    · rename_i hne
      rcases List.mem_cons.1 h with h1 | h1
      · exact absurd h1 hne
      · exact idx_in l x (k + 1) (by omega) h1

theorem good_slot {m : Ms} {row : List Bool} (hg : goodF m row = true) : 0 ≤ m.slot ∧ m.slot ≤ 1073741824 := by
  unfold goodF at hg
  simp only [Bool.and_eq_true, Bool.not_eq_true', Bool.or_eq_false_iff, decide_eq_false_iff_not] at hg
  obtain ⟨⟨⟨⟨⟨h1, h2⟩, _⟩, _⟩, _⟩, _⟩ := hg
  omega

theorem speak_good {n : Nat} {com : Int} {m : Ms} {row : List Bool} (h : (speakF n com m row).2 = true) : goodF m row = true := by
  cases hg : goodF m row with
  | true => rfl
  | false => unfold speakF at h; rw [if_pos hg] at h; cases h

theorem om_good {m : Ms} {row : List Bool} {who : Int} (hg : goodF m row = true) (h0 : 0 ≤ who) (h1 : who ≤ 65535) : goodF (om m who) [] = true := by
  have hs := good_slot hg
  unfold goodF om
  simp only [Bool.and_eq_true, Bool.not_eq_true', Bool.or_eq_false_iff, decide_eq_false_iff_not]
  refine ⟨⟨⟨⟨⟨by omega, by omega⟩, by omega⟩, by omega⟩, by simp⟩, by simp⟩

theorem om_speak {n : Nat} {com : Int} {m : Ms} {row : List Bool} {who : Int} (hn : n ≤ 64) (hok : (speakF n com m row).2 = true) (hw : who ∈ mem n com m.slot) : speakF n com (om m who) [] = ([who], true) := by
  have hr := mem_range hw
  have hg := om_good (who := who) (speak_good hok) hr.1 (by omega)
  have hi := idx_in _ _ 0 (Int.le_refl 0) hw
  unfold speakF
  rw [if_neg (by rw [hg]; decide), if_neg (by show ¬ ((2 : Int) = 3); decide), if_neg (fun hx => absurd hx.1 (by show ¬ ((2 : Int) = 1); decide))]
  show (if idx (mem n com m.slot) who 0 < 0 then _ else _) = _
  rw [if_neg (by omega)]
  rfl

theorem om_tag1 (L : List Vd) {m : Ms} (row : List Bool) (hk : m.kind = 3) (who : Int) : tag1 L (om m who) [] who = tag1 L m row who := by
  unfold tag1 oneF oneR
  rw [if_pos hk, if_pos hk, if_neg (by show ¬ ((2 : Int) = 3); decide), if_neg (by show ¬ ((2 : Int) = 3); decide)]
  rfl

theorem om_tag {n : Nat} {com : Int} {L : List Vd} {m : Ms} {row : List Bool} {who : Int} (hn : n ≤ 64) (hk : m.kind = 3) (hok : (speakF n com m row).2 = true) (hw : who ∈ mem n com m.slot) : tagF n com L (om m who) [] = (tag1 L m row who, true) := by
  unfold tagF
  rw [om_speak hn hok hw, if_pos rfl]
  show (x16 (Bs.zero 16) (tag1 L (om m who) [] who), true) = _
  rw [x16_zero, om_tag1 L row hk]

theorem om_votes {n : Nat} {com : Int} {m : Ms} {row : List Bool} {who : Int} (hn : n ≤ 64) (hok : (speakF n com m row).2 = true) (hw : who ∈ mem n com m.slot) : votesF n com (om m who) [] = [⟨who, m.slot, m.target⟩] := by
  unfold votesF
  rw [om_speak hn hok hw, if_neg (by rintro (h | h); cases h; exact absurd h (by show ¬ ((2 : Int) = 1); decide))]
  rfl

theorem pk_ne : ∀ (l : List Int) (row : List Bool), row.length = l.length → row.contains true = true → pk l row ≠ []
  | [], [], _, h => by simp at h
  | x :: l, b :: row, hl, h => by
    unfold pk
    cases b with
    | true => rw [if_pos rfl]; simp
    | false =>
      rw [if_neg (by decide)]
      refine pk_ne l row (by simpa using hl) ?_
      simpa using h

theorem sum_ne {n : Nat} {com : Int} {m : Ms} {row : List Bool} (hk : m.kind = 3) (hok : (speakF n com m row).2 = true) : (speakF n com m row).1 ≠ [] := by
  have hg := speak_good hok
  have hct : row.contains true = true := by
    unfold goodF at hg
    rw [if_pos hk] at hg
    simp only [Bool.and_eq_true] at hg
    exact hg.2.2.2
  unfold speakF at hok ⊢
  rw [if_neg (by rw [hg]; decide), if_pos hk] at hok ⊢
  split at hok
  · cases hok
  · rename_i hx
    rw [if_neg hx]
    refine pk_ne _ _ ?_ hct
    apply Classical.byContradiction
    intro h
    exact hx (.inr h)

theorem rot_get {α : Type} (V : List α) (k i : Nat) (hk : k < V.length) (hi : i < V.length) : (V.drop k ++ V.take k)[i]? = V[(i + k) % V.length]? := by
  rw [List.getElem?_append, List.length_drop]
  split
  · rename_i h
    rw [List.getElem?_drop, Nat.mod_eq_of_lt (by omega), Nat.add_comm]
  · rename_i h
    rw [List.getElem?_take, if_pos (by omega)]
    congr 1
    rw [Nat.mod_eq_sub_mod (by omega), Nat.mod_eq_of_lt (by omega)]
    omega

section
variable {R : Value → Heap → Prop} {h : Heap} {c : Cf}

theorem wrap_u64m (n : Int) : IntKind.wrap .u64 n = n % 18446744073709551616 := by
  unfold IntKind.wrap
  show (if (false && _) = true then _ else n % 2 ^ 64) = _
  simp

theorem bpl {n : Nat} {x : Bs n} : (TV.bytes n x).plain = true := by simp only [TV.plain]

theorem vtsz {v w : Vt} : v.tv.size = w.tv.size := by simp only [Vt.tv, TV.size, TVs.size]
theorem vtsz1 {v : Vt} : 34 = v.tv.size := by simp only [Vt.tv, TV.size, TVs.size]
/-- How far the row is turned. -/
def wrap64 (k : Nat) (turn : Int) (n : Nat) : Prop := IntKind.wrap .i64 (Int.tmod (IntKind.wrap .u64 turn) (IntKind.wrap .u64 (n : Int))) = (k : Int)
def zeroV : Vt := ⟨0, 0, Bs.zero 32⟩

set_option maxHeartbeats 1000000 in
/-- A SUM'S TAG IS THAT OF ITS VOTES, JOINED. -/
theorem sealSums_spec {m : Ms} {turn : Int} (hc : ∃ L, Elems 2 h c.vals (vds L)) (hm : ∃ row, Elems 1 h m.bits (bools row)) (hr : ∀ h', Ext h h' → R (TV.bool true).val h') : CallsH Try.prog 3 (TVs.vals [c.tv, m.tv, .int .i64 turn]) h R := by
  obtain ⟨L, e⟩ := hc
  obtain ⟨row, em⟩ := hm
  apply tollerlaw08_SealSums_calls c.vals c.ep c.com c.no c.orp c.ear c.quo c.pe c.by_ c.win c.ban c.dec m.kind m.slot m.target m.member m.body m.bits m.tag
  unfold tollerlaw08_SealSums_vc
  refine newTV_in fun h1 v1 x1 s1 => newTV_in fun h2 v2 x2 s2 => ?_
  have v1 : Var 24 h2 h.size c.tv := Var.ext (t := c.tv) v1 x2
  have v2 : Var 32 h2 h1.size m.tv := v2
  have x02 := x1.trans x2
  refine alive_spec fun h3 x3 => ⟨_, rfl, If.no ?_⟩
  have x03 := x02.trans x3
  have v13 := v1.ext x3
  have v23 := v2.ext x3
  intro J HJ
  refine cf_at v13 (ms_at v23 (great8_spec (e.ext x03) (em.ext x03) (fun h5 x5 => ⟨_, rfl, If.yes (hr h5 (x03.trans x5))⟩) fun h4 x4 hf h200 => ⟨_, rfl, If.no ?_⟩))
  have x04 := x03.trans x4
  have hlen := hf.fine.len
  have hv : c.vals.len < 900 := by omega
  have hk := keys64 hf.keys
  have v14 := v13.ext x4
  have v24 := v23.ext x4
  refine ⟨m.kind, v24.at.1, If.split (fun hb => hr h4 x04) fun hb => HJ _ _ ?_⟩
  clear HJ J
  have hk3 : m.kind = 3 := by simpa using hb
  refine cf_at v14 (ms_at v24 (tag_spec hv (e.ext x04) hk (em.ext x04) (by omega) fun h5 x5 => ⟨_, _, rfl, ?_⟩))
  refine newTV_in fun h6 v6 x6 s6 => put_n v6 (t := .bytes 16 (tagF c.vals.len c.com L m row).1) rfl rfl fun h7 v7 f7 s7 => ?_
  have x57 : Ext h5 h7 := Only.cut x6 f7 fun i hi => by omega
  have x47 := x5.trans x57
  have x07 := x04.trans x47
  refine cf_at (v14.ext x47) (ms_at (v24.ext x47) (votes_spec hv (em.ext x07) (by omega) fun h8 s8 e8 x8 => ⟨_, rfl, ?_⟩))
  have x08 := x07.trans x8
  have x48 := x47.trans x8
  have el8 := e8.len
  rw [List.length_map] at el8
  rw [speak_tag_ok]
  refine If.split (fun hb2 => ?_) fun hb2 => ?_
  · have hb2 : (speakF c.vals.len c.com m row).2 = false := by simpa using hb2
    have hz : votesF c.vals.len c.com m row = [] := if_pos (.inl hb2)
    rw [hz] at el8
    have : decide (((s8.len : Nat) : Int) = 0) = true := by rw [← el8]; rfl
    rw [this]
    exact hr h8 x08
  have hok : (speakF c.vals.len c.com m row).2 = true := by simpa using hb2
  have hvo : votesF c.vals.len c.com m row = (speakF c.vals.len c.com m row).1.map fun i => ⟨i, m.slot, m.target⟩ := if_neg (by rw [hok]; rintro (h | h); cases h; rw [hk3] at h; exact absurd h (by decide))
  have hne := sum_ne hk3 hok
  have hvl := votes_len (n := c.vals.len) (com := c.com) (m := m) (row := row)
  have hvlen : (votesF c.vals.len c.com m row).length ≠ 0 := by
    rw [hvo, List.length_map]
    intro h0
    exact hne (List.eq_nil_of_length_eq_zero h0)
  have hvmem : ∀ v ∈ votesF c.vals.len c.com m row, v.who ∈ mem c.vals.len c.com m.slot ∧ v.slot = m.slot ∧ v.target = m.target := by
    intro v hv
    rw [hvo] at hv
    obtain ⟨i, hi, rfl⟩ := List.mem_map.1 hv
    exact ⟨speak_mem hi, rfl, rfl⟩
  have htag : (tagF c.vals.len c.com L m row).1 = joinF ((votesF c.vals.len c.com m row).map fun v => tag1 L m row v.who) (Bs.zero 16) := by
    unfold tagF
    rw [if_pos hok, hvo, List.map_map]
    rfl
  generalize hVV : votesF c.vals.len c.com m row = V at e8 el8 hvlen hvmem htag hvl
  refine If.dec.2 ⟨fun h0 => by omega, fun h0 => ?_⟩
  -- how far the row is turned
  have hwn : IntKind.wrap .u64 (s8.len : Int) = (s8.len : Int) := by
    rw [wrap_u64m]
    omega
  have htr := wrap_u64_range turn
  obtain ⟨k, hkl, hkk⟩ : ∃ k : Nat, k < V.length ∧ wrap64 k turn s8.len := ⟨(IntKind.wrap .u64 turn % (s8.len : Int)).toNat, by
    have h1 := Int.emod_nonneg (IntKind.wrap .u64 turn) (show (s8.len : Int) ≠ 0 by omega)
    have h2 := Int.emod_lt_of_pos (IntKind.wrap .u64 turn) (show (0 : Int) < s8.len by omega)
    omega, by
    have h1 := Int.emod_nonneg (IntKind.wrap .u64 turn) (show (s8.len : Int) ≠ 0 by omega)
    have h2 := Int.emod_lt_of_pos (IntKind.wrap .u64 turn) (show (0 : Int) < s8.len by omega)
    unfold wrap64
    rw [hwn, Int.tmod_eq_emod_of_nonneg htr.1, wrap_i64 (by omega) (by omega)]
    omega⟩
  unfold wrap64 at hkk
  obtain ⟨W, hW⟩ : ∃ W, W = V.drop k ++ V.take k := ⟨_, rfl⟩
  have hWl : W.length = V.length := by rw [hW, List.length_append, List.length_drop, List.length_take]; omega
  have hWp : W.Perm V := by
    rw [hW]
    refine List.perm_append_comm.trans ?_
    rw [List.take_append_drop]
  refine ⟨fun σ hh => 0 ≤ σ.2.2 ∧ σ.2.2 ≤ s8.len ∧ Own 30 16 hh σ.2.1 (tags ((W.take σ.2.2.toNat).map fun v => tag1 L m row v.who)) ∧ (∀ p, σ.2.1.a = some p → h8.size ≤ p.b) ∧ Ext h8 hh, fun σ _ => ((s8.len : Int) - σ.2.2).toNat,
    ⟨Int.le_refl 0, by first | omega | (dsimp only; omega), Own.nil _ _ _, (fun p hp => by cases hp), Ext.refl _⟩, ?_⟩
  rintro ⟨fl, t, i⟩ h9 ⟨i0, i1, o9, b9, x9⟩
  dsimp only at i0 i1 o9 b9 x9 ⊢
  have x89 := x08.trans x9
  have x49 := x48.trans x9
  refine If.dec.2 ⟨fun hi => ?_, fun hi => ?_⟩
  · have hidx : Int.tmod (IntKind.wrap .i64 (i + IntKind.wrap .i64 (Int.tmod (IntKind.wrap .u64 turn) (IntKind.wrap .u64 (s8.len : Int))))) (s8.len : Int) = (((i.toNat + k) % V.length : Nat) : Int) := by
      rw [hkk, wrap_i64 (by omega) (by omega), Int.tmod_eq_emod_of_nonneg (by omega), show i + (k : Int) = ((i.toNat + k : Nat) : Int) by omega, ← el8]
      rfl
    rw [hidx]
    have hml := Nat.mod_lt (i.toNat + k) (show 0 < V.length by omega)
    refine ⟨by rw [hwn]; omega, by omega, ?_⟩
    refine (e8.ext x9).read (i := (((i.toNat + k) % V.length : Nat) : Int)) (by omega) (by omega) fun l1 t1 ha1 ht1 at1' => ?_
    rw [List.getElem?_map] at ht1
    obtain ⟨vv, hvv, rfl⟩ := Option.map_eq_some_iff.1 ht1
    rw [Int.toNat_natCast] at hvv
    have hWi : W[i.toNat]? = some vv := by rw [hW, rot_get V k i.toNat hkl (by omega)]; exact hvv
    have hmem := hvmem vv (List.mem_of_getElem? hvv)
    obtain ⟨who, sl, tg⟩ := vv
    dsimp only at hmem
    obtain ⟨hw, rfl, rfl⟩ := hmem
    refine ⟨who, m.slot, m.target, at1', ?_⟩
    refine newTV_in fun h10 v10 x10 s10 => put_n (t0 := zeroV.tv) v10 (t := Vt.tv ⟨who, m.slot, m.target⟩) vtsz1 vtsz fun h11 v11 f11 s11 => ?_
    have x911 : Ext h9 h11 := Only.cut x10 f11 fun i hi => by omega
    refine ⟨m.slot, v11.at.2.1, m.target, v11.at.2.2, who, v11.at.1, ?_⟩
    refine newTV_in fun h12 v12 x12 s12 => put_n (t0 := zeroM.tv) v12 (t := (om m who).tv) mssz1 mssz fun h13 v13' f13 s13 => ?_
    have x1113 : Ext h11 h13 := Only.cut x12 f13 fun i hi => by omega
    have x913 := x911.trans x1113
    have x013 := x89.trans x913
    refine cf_at (v14.ext (x49.trans x913)) (ms_at (m := om m who) v13' (tag_spec (m := om m who) (row := []) hv (e.ext x013) hk (Elems.nil_ 1 h13) (by decide) fun h14 x14 => ⟨_, _, rfl, ?_⟩))
    rw [om_tag hlen hk3 hok hw]
    refine newTV_in fun h15 v15 x15 s15 => put_n v15 (t := .bytes 16 (tag1 L m row who)) rfl bsz fun h16 v16 f16 s16 => ?_
    have x1416 : Ext h14 h16 := Only.cut x15 f16 fun i hi => by omega
    have x1316 := x14.trans x1416
    have x016 := x013.trans x1316
    refine cf_at ((v14.ext (x49.trans x913)).ext x1316) (ms_at (m := om m who) (Var.ext (t := (om m who).tv) v13' x1316) (votes_spec (m := om m who) (row := []) hv (Elems.nil_ 1 h16) (by decide) fun h17 s17 e17 x17 => ⟨_, rfl, ?_⟩))
    rw [om_votes hlen hok hw] at e17
    have l17 : s17.len = 1 := e17.len.symm
    have x1417 := x1416.trans x17
    have x1317 := x1316.trans x17
    have x917 := x913.trans x1317
    have z17 : decide (((s17.len : Nat) : Int) = 1) = true := decide_eq_true (by omega)
    refine If.no ?_
    rw [z17]
    refine If.no ?_
    refine e17.read (i := 0) (by decide) (by omega) fun l2 t2 ha2 ht2 at2' => ?_
    obtain rfl := Option.some.inj ht2
    refine ⟨who, m.slot, m.target, at2', who, m.slot, m.target, (((v11.ext x1113).ext x1317)).at, ?_⟩
    have hsame : (!(decide (who = who) && (decide (m.slot = m.slot) && (decide (m.target.l = m.target.l) && true)))) = false := by simp
    rw [hsame]
    refine If.no ⟨_, (v16.ext x17).bytes, ?_⟩
    have o17 := o9.ext x917
    have tl := o17.len
    rw [List.length_map, List.length_map, List.length_take] at tl
    refine append1 (C := ctx) (T := 30) (sz := 16) (x := .bytes 16 (tag1 L m row who)) size30 zsize30 (by rw [bytes30]; decide) (by rw [bytes30]; omega) o17 (bsz (y := Bs.zero 16)) bpl fun s18 h18 o18 f18 b18 => ?_
    rw [wrap_i64 (n := i + 1) (by omega) (by omega)]
    have x817 := x9.trans x917
    have z8 := x817.size
    refine ⟨⟨by omega, by omega, ?_, fun p hp => ?_, Only.cut x817 f18 fun j ⟨p, hp, hj⟩ => by have := b9 p hp; omega⟩, by first | omega | (dsimp only; omega)⟩
    · rw [show (i + 1).toNat = i.toNat + 1 by omega, take_snoc hWi, List.map_append, List.map_cons, List.map_nil]
      simpa [tags] using o18
    · rcases b18 p hp with ⟨p', h1', h2'⟩ | h1'
      · have := b9 p' h1'; omega
      · omega
  · have hall : W.take i.toNat = W := List.take_of_length_le (by omega)
    rw [hall] at o9
    refine ⟨_, (((v7.ext x8).ext x9)).bytes, join_spec o9.elems (by rw [List.length_map]; omega) fun h10 x10 => ⟨_, rfl, x10, ?_⟩⟩
    have hfin : joinF (W.map fun v => tag1 L m row v.who) (Bs.zero 16) = (tagF c.vals.len c.com L m row).1 := by
      rw [htag]
      exact joinF_perm (hWp.map _) _
    rw [hfin, decide_eq_true rfl]
    exact hr h10 (x89.trans x10)

end
end Go.Proofs.Ytgdhddignbkloaa.Board
