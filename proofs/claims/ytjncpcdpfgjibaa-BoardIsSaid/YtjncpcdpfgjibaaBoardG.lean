/- The board's laws: as many members as Committee says; a greater committee; stakes play no part; picks. -/
import Derived.Test.YtjncpcdpfgjibaaBoardF
namespace Go.Proofs.Ytjncpcdpfgjibaa.Board
open Go Go.Vc

/-! ### The plain law -/

noncomputable def whos (slot : Int) (n : Nat) : List Int := (sorted slot n).map Seat.who

theorem whos_perm (slot : Int) (n : Nat) : (whos slot n).Perm ((List.range n).map fun (i : Nat) => (i : Int)) := by
  have := (sorted_perm slot n).map Seat.who
  unfold sts at this
  rw [List.map_map] at this
  exact this

theorem whos_nodup (slot : Int) (n : Nat) : (whos slot n).Nodup := by
  rw [(whos_perm slot n).nodup_iff]
  exact List.Pairwise.map _ (fun a b (h : a ≠ b) => by omega) List.nodup_range

theorem whos_mem {slot : Int} {n : Nat} {x : Int} (h : x ∈ whos slot n) : 0 ≤ x ∧ x < n := by
  have := (whos_perm slot n).mem_iff.1 h
  obtain ⟨i, hi, rfl⟩ := List.mem_map.1 this
  have := List.mem_range.1 hi
  omega

theorem whos_length (slot : Int) (n : Nat) : (whos slot n).length = n := by rw [(whos_perm slot n).length_eq]; simp

theorem mem_eq {n : Nat} {com slot : Int} (h0 : 0 ≤ slot) (h1 : slot ≤ 1073741824) : mem n com slot = (whos slot n).take (min (max com 0) (n : Int)).toNat := by
  unfold mem whos
  rw [if_neg (by omega), List.map_take]

theorem mem_out {n : Nat} {com slot : Int} (h : slot < 0 ∨ 1073741824 < slot) : mem n com slot = [] := by
  unfold mem
  rw [if_pos h]

theorem mem_len {n : Nat} {com slot : Int} (h0 : 0 ≤ slot) (h1 : slot ≤ 1073741824) (c0 : 0 ≤ com) (c1 : com ≤ n) : ((mem n com slot).length : Int) = com := by
  rw [mem_eq h0 h1, List.length_take, whos_length]
  omega

/-- With a lesser committee: the beginning of it. -/
theorem mem_less {n : Nat} {com less slot : Int} (l0 : 0 ≤ less) : mem n (com - less) slot = (mem n com slot).take (mem n (com - less) slot).length := by
  by_cases h : slot < 0 ∨ 1073741824 < slot
  · rw [mem_out h, mem_out h]; rfl
  · rw [mem_eq (by omega) (by omega), mem_eq (by omega) (by omega), List.length_take, whos_length, List.take_take]
    congr 1
    omega

theorem idx_at : ∀ (l : List Int) (k : Int) (i : Nat) (x : Int), l.Nodup → l[i]? = some x → idx l x k = k + i
  | [], _, _, _, _, h => by cases h
  | y :: ys, k, 0, x, _, h => by
    injection h with h
    subst h
    simp [idx]
  | y :: ys, k, i + 1, x, hn, h => by
    have hn' := List.nodup_cons.1 hn
    have hx : x ∈ ys := List.mem_of_getElem? h
    have hne : x ≠ y := fun e => hn'.1 (by rw [← e]; exact hx)
    rw [idx, if_neg hne, idx_at ys (k + 1) i x hn'.2 h]
    omega

theorem idx_out : ∀ (l : List Int) (k x : Int), x ∉ l → idx l x k = -1
  | [], _, _, _ => rfl
  | y :: ys, k, x, h => by
    rw [idx, if_neg (fun e => h (by rw [e]; exact List.mem_cons_self ..)), idx_out ys _ x (fun hx => h (List.mem_cons_of_mem _ hx))]

theorem pk_all : ∀ (l : List Int), pk l (List.replicate l.length true) = l
  | [] => rfl
  | x :: xs => by
    rw [List.length_cons, List.replicate_succ, pk, if_pos rfl, pk_all xs]

theorem pk_none : ∀ (l : List Int) (n : Nat), pk l (List.replicate n false) = []
  | [], 0 => rfl
  | [], n + 1 => rfl
  | x :: xs, 0 => rfl
  | x :: xs, n + 1 => by
    rw [List.replicate_succ, pk, if_neg (by decide), pk_none xs]

theorem pk_both : ∀ (l : List Int) (r : List Bool), r.length = l.length → (pk l r).length + (pk l (r.map not)).length = l.length
  | [], [], _ => rfl
  | [], _ :: _, h => by cases h
  | _ :: _, [], h => by cases h
  | x :: xs, b :: bs, h => by
    have ih := pk_both xs bs (by simpa using h)
    cases b
    · simp [pk]; omega
    · simp [pk]; omega

theorem set_true (m : Nat) : ∀ a : Nat, (List.replicate a true ++ List.replicate (m + 1) false).set a true = List.replicate (a + 1) true ++ List.replicate m false
  | 0 => by simp [List.replicate_succ]
  | a + 1 => by
    rw [List.replicate_succ, List.cons_append, List.set_cons_succ, set_true m a, List.replicate_succ (n := a + 1), List.cons_append]

/-! ### The program -/

section
variable {R : Value → Heap → Prop} {h : Heap} {c : Cf}

/-- A configuration is read. -/
theorem cf_at {b : Nat} (v : Var 24 h b c.tv) {K : Sl → Int → Int → Int → Int → Int → Int → Int → Int → Int → Int → Int → Prop} (hk : K c.vals c.ep c.com c.no c.orp c.ear c.quo c.pe c.by_ c.win c.ban c.dec) :
    ∃ (s : Sl), ∃ (n n_1 n_2 n_3 n_4 n_5 n_6 n_7 n_8 n_9 n_10 : Int), (at1 h b 0 (slVal s) ∧ at1 h b 1 (.int .i64 n) ∧ at1 h b 2 (.int .i64 n_1) ∧ at1 h b 3 (.int .i64 n_2) ∧ at1 h b 4 (.int .i64 n_3) ∧ at1 h b 5 (.int .i64 n_4) ∧ at1 h b 6 (.int .i64 n_5) ∧ at1 h b 7 (.int .i64 n_6) ∧
      at1 h b 8 (.int .i64 n_7) ∧ at1 h b 9 (.int .i64 n_8) ∧ at1 h b 10 (.int .i64 n_9) ∧ at1 h b 11 (.int .i64 n_10)) ∧ K s n n_1 n_2 n_3 n_4 n_5 n_6 n_7 n_8 n_9 n_10 :=
  ⟨c.vals, c.ep, c.com, c.no, c.orp, c.ear, c.quo, c.pe, c.by_, c.win, c.ban, c.dec, v.at, hk⟩

theorem cfsz {c d : Cf} : c.tv.size = d.tv.size := by simp only [Cf.tv, TV.size, TVs.size]
theorem cfsz1 {c : Cf} : 12 = c.tv.size := by simp only [Cf.tv, TV.size, TVs.size]

def zeroC : Cf := ⟨Sl.nil, 0, 0, 0, 0, 0, 0, 0, 0, 0, 0, 0⟩

theorem two_whos : whos 7 2 = [0, 1] ∨ whos 7 2 = [1, 0] := by
  have hl := whos_length 7 2
  have hn := whos_nodup 7 2
  have hm := fun x => @whos_mem 7 2 x
  generalize whos 7 2 = l at *
  match l, hl with
  | [a, b], _ =>
    have ha := hm a (by simp)
    have hb := hm b (by simp)
    have hab : a ≠ b := by simpa using hn
    by_cases h0 : a = 0
    · left; subst h0; have : b = 1 := by omega
      rw [this]
    · right; have h1 : a = 1 := by omega
      have : b = 0 := by omega
      rw [h1, this]

theorem alive_spec (hr : ∀ h', Ext h h' → R (TV.bool true).val h') : CallsH Try.prog 8 (TVs.vals []) h R := by
  apply tollerlaw06_alive_calls
  unfold tollerlaw06_alive_vc
  have xp := Ext.push h (row (TVs.cells [TV.agg [TV.int IntKind.i64 5, TV.str (ByteArray.mk #[(107 : UInt8)]).data.toList], TV.agg [TV.int IntKind.i64 5, TV.str (ByteArray.mk #[(108 : UInt8)]).data.toList]]) 41)
  generalize Array.push h _ = hp at *
  let c : Cf := ⟨⟨some ⟨h.size, 0⟩, 2, 2⟩, 4, 2, 1, 1, 1, 1, 1, 1, 1, 1, 1⟩
  have h900 : c.vals.len < 900 := (by decide : 2 < 900)
  refine newTV_in fun h1 v1 x1 s1 => put_in (t0 := zeroC.tv) (t := c.tv) v1 cfsz fun h2 v2 o2 s2 => cf_at v2 ?_
  have x02 : Ext h h2 := xp.trans (Only.cut x1 o2 fun i hi => by omega)
  have hm : mem 2 2 7 = whos 7 2 := by
    rw [mem_eq (by decide) (by decide), List.take_of_length_le (by rw [whos_length]; decide)]
  refine members_spec (c := c) h900 fun h3 s3 o3 x3 _ => ⟨_, rfl, ?_⟩
  have hm' : mem c.vals.len c.com 7 = whos 7 2 := hm
  rw [hm'] at o3
  have el := ints_len o3.elems
  have two := two_whos
  have hl := whos_length 7 2
  refine If.dec.2 ⟨fun _ => ?_, fun hn => absurd (by omega) hn⟩
  have key : ∃ a b, whos 7 2 = [a, b] ∧ a + b = 1 ∧ a ≠ b ∧ (a = 0 ∨ a = 1) := by
    rcases two with h | h
    · exact ⟨0, 1, h, by decide, by decide, .inl rfl⟩
    · exact ⟨1, 0, h, by decide, by decide, .inr rfl⟩
  obtain ⟨a, b, hw, hs, hne, ha⟩ := key
  rw [hw] at o3 hm'
  refine read_int o3.elems (i := 0) (by decide) (by simp) fun x hx => read_int o3.elems (i := 1) (by decide) (by simp) fun y hy => ?_
  obtain rfl : a = x := by injection hx
  obtain rfl : b = y := by injection hy
  rw [wrap_i64 (n := a + b) (by omega) (by omega)]
  refine If.dec.2 ⟨fun _ => ?_, fun hn => absurd hs hn⟩
  refine cf_at (c := c) (v2.ext x3) (read_int o3.elems (i := 0) (by decide) (by simp) fun x hx => ?_)
  obtain rfl : a = x := by injection hx
  refine proposer_spec (c := c) h900 fun h4 x4 => ⟨_, rfl, x4, ?_⟩
  rw [hm']
  refine If.dec.2 ⟨fun _ => ?_, fun hn => absurd rfl hn⟩
  refine cf_at (c := c) ((v2.ext x3).ext x4) (read_int (o3.elems.ext x4) (i := 1) (by decide) (by simp) fun y hy => ?_)
  obtain rfl : b = y := by injection hy
  refine place_spec (c := c) h900 fun h5 x5 => ⟨_, rfl, ?_⟩
  rw [hm']
  have i1 : idx [a, b] b 0 = 1 := by simp [idx, Ne.symm hne]
  rw [i1]
  refine If.dec.2 ⟨fun _ => ?_, fun hn => absurd rfl hn⟩
  refine cf_at (c := c) (((v2.ext x3).ext x4).ext x5) (place_spec (c := c) h900 fun h6 x6 => ⟨_, rfl, ?_⟩)
  rw [hm']
  have i2 : idx [a, b] 2 0 = -1 := idx_out _ _ _ (by simp; omega)
  rw [i2]
  exact hr h6 ((((x02.trans x3).trans x4).trans x5).trans x6)

theorem boardStakes_spec {a b : Cf} {La Lb : List Vd} {slot : Int} (ea : Elems 2 h a.vals (vds La)) (eb : Elems 2 h b.vals (vds Lb)) (hr : ∀ h', Ext h h' → R (TV.bool true).val h') :
    CallsH Try.prog 4 (TVs.vals [a.tv, b.tv, .int .i64 slot]) h R := by
  apply tollerlaw06_BoardStakes_calls a.vals a.ep a.com a.no a.orp a.ear a.quo a.pe a.by_ a.win a.ban a.dec b.vals b.ep b.com b.no b.orp b.ear b.quo b.pe b.by_ b.win b.ban b.dec slot
  unfold tollerlaw06_BoardStakes_vc
  refine newTV_in fun h1 v1 x1 s1 => newTV_in fun h2 v2 x2 s2 => alive_spec fun h3 x3 => ⟨_, rfl, If.no ?_⟩
  have va : Var 24 h3 h.size a.tv := (v1.ext x2).ext x3
  have vb : Var 24 h3 h1.size b.tv := v2.ext x3
  have x03 : Ext h h3 := (x1.trans x2).trans x3
  refine cf_at va (great_spec (c := a) (ea.ext x03) (fun h4 x4 => ⟨_, rfl, If.yes (hr h4 (x03.trans x4))⟩) fun h4 x4 la => ⟨_, rfl, If.no ?_⟩)
  have x04 := x03.trans x4
  refine cf_at (va.ext x4) (good_spec (c := a) (ea.ext x04) la (fun h5 x5 => ⟨_, rfl, If.yes (hr h5 (x04.trans x5))⟩) fun h5 x5 fa => ⟨_, rfl, If.no ?_⟩)
  have x05 := x04.trans x5
  have x35 := x4.trans x5
  refine cf_at (vb.ext x35) (great_spec (c := b) (eb.ext x05) (fun h6 x6 => ⟨_, rfl, If.yes (hr h6 (x05.trans x6))⟩) fun h6 x6 lb => ⟨_, rfl, If.no ?_⟩)
  have x06 := x05.trans x6
  have x36 := x35.trans x6
  refine cf_at (vb.ext x36) (good_spec (c := b) (eb.ext x06) lb (fun h7 x7 => ⟨_, rfl, If.yes (hr h7 (x06.trans x7))⟩) fun h7 x7 fb => ⟨_, rfl, If.no ?_⟩)
  have x07 := x06.trans x7
  have va7 := va.ext (x36.trans x7)
  have vb7 := vb.ext (x36.trans x7)
  refine ⟨a.vals, va7.at1 rfl, b.vals, vb7.at1 rfl, If.split (fun _ => hr h7 x07) fun hlen => ⟨a.com, va7.at1 rfl, b.com, vb7.at1 rfl, If.split (fun _ => hr h7 x07) fun hcom => ?_⟩⟩
  have hlen' : a.vals.len = b.vals.len := by
    have : (a.vals.len : Int) = b.vals.len := by simpa using hlen
    omega
  have hcom' : a.com = b.com := by simpa using hcom
  refine cf_at va7 (cf_at vb7 (members_spec (c := a) (by omega) fun h8 s8 o8 x8 _ => ⟨_, rfl, x8, members_spec (c := b) (by omega) fun h9 s9 o9 x9 _ => ⟨_, rfl, ?_⟩⟩))
  have ml := mem_length a.vals.len a.com slot
  refine same_spec (o8.elems.ext x9) o9.elems (by omega) ⟨_, rfl, ?_⟩
  rw [hlen', hcom', decide_eq_true rfl]
  exact hr h9 ((x07.trans x8).trans x9)

theorem boardMore_spec {L : List Vd} {slot less : Int} (e : Elems 2 h c.vals (vds L)) (hr : ∀ h', Ext h h' → R (TV.bool true).val h') :
    CallsH Try.prog 3 (TVs.vals [c.tv, .int .i64 slot, .int .i64 less]) h R := by
  apply tollerlaw06_BoardMore_calls c.vals c.ep c.com c.no c.orp c.ear c.quo c.pe c.by_ c.win c.ban c.dec slot less
  unfold tollerlaw06_BoardMore_vc
  refine newTV_in fun h1 v1 x1 s1 => alive_spec fun h2 x2 => ⟨_, rfl, If.no ?_⟩
  have x02 := x1.trans x2
  have v2 := v1.ext x2
  intro J hJ
  refine cf_at v2 (great_spec (c := c) (e.ext x02) (fun h3 x3 => ⟨_, rfl, If.yes (hr h3 (x02.trans x3))⟩) fun h3 x3 lc => ⟨_, rfl, If.no ?_⟩)
  have x03 := x02.trans x3
  refine cf_at (v2.ext x3) (good_spec (c := c) (e.ext x03) lc (fun h4 x4 => ⟨_, rfl, If.yes (hr h4 (x03.trans x4))⟩) fun h4 x4 fc => ⟨_, rfl, If.no ?_⟩)
  have x04 := x03.trans x4
  have v4 := (v2.ext x3).ext x4
  refine If.dec.2 ⟨fun _ => hr h4 x04, fun l0 => ⟨c.com, v4.at1 rfl, If.dec.2 ⟨fun _ => hr h4 x04, fun l1 => hJ _ _ ?_⟩⟩⟩
  refine cf_at v4 (newTV_in fun h5 v5 x5 s5 => put_in (t0 := zeroC.tv) (t := c.tv) v5 cfsz fun h6 v6 o6 s6 => ?_)
  have x46 : Ext h4 h6 := Only.cut x5 o6 fun i hi => by omega
  have vc6 := v4.ext x46
  let d : Cf := { c with com := c.com - less }
  refine ⟨c.com, vc6.at1 rfl, ?_⟩
  have hf := fc.com1
  have hf2 := fc.com2
  have hf3 := fc.com3
  rw [wrap_i64 (n := c.com - less) (by omega) (by omega)]
  refine field_in (i := 2) (t := .int .i64 (c.com - less)) (t0 := .int .i64 c.com) v6 rfl rfl rfl rfl fun h7 v7 o7 s7 => ?_
  have vd7 : Var 24 h7 h4.size d.tv := v7
  have hne : h.size ≠ h4.size := by have := v4.lt; omega
  have vc7 := vc6.only o7 hne
  have x47 : Ext h4 h7 := Only.cut x46 o7 fun i hi => by omega
  have x07 := x04.trans x47
  refine cf_at vc7 (cf_at (c := d) vd7 (members_spec (c := c) (by omega) fun h8 s8 o8 x8 _ => ⟨_, rfl, x8, members_spec (c := d) (show c.vals.len < 900 by omega) fun h9 s9 o9 x9 _ => ⟨_, rfl, ?_⟩⟩))
  have hl := mem_less (n := c.vals.len) (com := c.com) (less := less) (slot := slot) (by omega)
  have hd : mem d.vals.len d.com slot = mem c.vals.len (c.com - less) slot := rfl
  rw [hd] at o9
  have e8 := ints_len o8.elems
  have e9 := ints_len o9.elems
  have hle : s9.len ≤ s8.len := by
    rw [← e8, ← e9, hl, List.length_take]
    omega
  refine If.dec.2 ⟨fun _ => ⟨by omega, by have := o8.cap; omega, ?_⟩, fun hn => absurd (by omega) hn⟩
  have hcut : Elems 1 h9 (cutSl s8 0 (Int.toNat (s9.len : Int)) 1) (ints (mem c.vals.len (c.com - less) slot)) := by
    have := cut_elems (i := 0) (j := s9.len) (o8.elems.ext x9) (Nat.zero_le _) hle o8.cap
    rw [List.drop_zero, Nat.sub_zero, ← List.map_take, ← e9, ← hl, e9] at this
    exact this
  have ml := mem_length c.vals.len (c.com - less) slot
  refine same_spec hcut o9.elems (by omega) ⟨_, rfl, ?_⟩
  rw [decide_eq_true rfl]
  have x79 := x8.trans x9
  refine If.yes (cf_at (vc7.ext x79) (cf_at (c := d) (vd7.ext x79) (proposer_spec (c := c) (by omega) fun h10 x10 => ⟨_, rfl, x10, proposer_spec (c := d) (show c.vals.len < 900 by omega) fun h11 x11 => ⟨_, rfl, ?_⟩⟩)))
  have hfirst : firstOf (mem c.vals.len c.com slot) = firstOf (mem d.vals.len d.com slot) := by
    rw [hd]
    by_cases hs : slot < 0 ∨ 1073741824 < slot
    · rw [mem_out hs, mem_out hs]
    · have l1 := mem_len (n := c.vals.len) (com := c.com - less) (slot := slot) (by omega) (by omega) (by omega) (by omega)
      have l2 := mem_len (n := c.vals.len) (com := c.com) (slot := slot) (by omega) (by omega) (by omega) (by omega)
      rw [hl]
      generalize (mem c.vals.len (c.com - less) slot).length = k at *
      cases hm : mem c.vals.len c.com slot with
      | nil => rw [hm] at l2; simp at l2; omega
      | cons y ys =>
        cases k with
        | zero => omega
        | succ k => rfl
  rw [hfirst, decide_eq_true rfl]
  exact hr h11 (((x07.trans x79).trans x10).trans x11)

theorem boardOnce_spec {L : List Vd} {slot : Int} (e : Elems 2 h c.vals (vds L)) (hr : ∀ h', Ext h h' → R (TV.bool true).val h') :
    CallsH Try.prog 5 (TVs.vals [c.tv, .int .i64 slot]) h R := by
  apply tollerlaw06_BoardOnce_calls c.vals c.ep c.com c.no c.orp c.ear c.quo c.pe c.by_ c.win c.ban c.dec slot
  unfold tollerlaw06_BoardOnce_vc
  refine newTV_in fun h1 v1 x1 s1 => alive_spec fun h2 x2 => ⟨_, rfl, If.no ?_⟩
  have x02 := x1.trans x2
  have v2 := v1.ext x2
  intro J hJ
  refine cf_at v2 (great_spec (c := c) (e.ext x02) (fun h3 x3 => ⟨_, rfl, If.yes (hr h3 (x02.trans x3))⟩) fun h3 x3 lc => ⟨_, rfl, If.no ?_⟩)
  have x03 := x02.trans x3
  refine cf_at (v2.ext x3) (good_spec (c := c) (e.ext x03) lc (fun h4 x4 => ⟨_, rfl, If.yes (hr h4 (x03.trans x4))⟩) fun h4 x4 fc => ⟨_, rfl, If.no ?_⟩)
  have x04 := x03.trans x4
  have v4 := (v2.ext x3).ext x4
  refine If.dec.2 ⟨fun _ => hr h4 x04, fun l0 => If.dec.2 ⟨fun _ => hr h4 x04, fun l1 => hJ _ _ ?_⟩⟩
  refine cf_at v4 (members_spec (c := c) (by omega) fun h5 s5 o5 x5 _ => ⟨_, rfl, c.com, (v4.ext x5).at1 rfl, ?_⟩)
  have x05 := x04.trans x5
  have v5 := v4.ext x5
  have hf := fc.com1
  have hf2 := fc.com2
  have hf3 := fc.com3
  have ml := mem_len (n := c.vals.len) (com := c.com) (slot := slot) (by omega) (by omega) (by omega) (by omega)
  have el := ints_len o5.elems
  have hmq := mem_eq (n := c.vals.len) (com := c.com) (slot := slot) (by omega) (by omega)
  have hnd : (mem c.vals.len c.com slot).Nodup := by rw [hmq]; exact (whos_nodup slot c.vals.len).sublist (List.take_sublist _ _)
  have hin : ∀ x ∈ mem c.vals.len c.com slot, 0 ≤ x ∧ x < c.vals.len := fun x hx => by
    rw [hmq] at hx
    exact whos_mem (List.mem_of_mem_take hx)
  refine If.split (fun hb => ?_) fun _ => ?_
  · have : (s5.len : Int) = c.com := by omega
    simp [this] at hb
  refine ⟨fun σ hh => 0 ≤ σ.2 ∧ σ.2 ≤ s5.len ∧ Ext h5 hh, fun σ _ => ((s5.len : Int) - σ.2).toNat, ⟨Int.le_refl 0, by first | omega | (dsimp only; omega), Ext.refl _⟩, ?_⟩
  rintro ⟨f, i⟩ h6 ⟨i0, i1, x6⟩
  dsimp only at i0 i1 ⊢
  refine If.dec.2 ⟨fun hi => ?_, fun hi => ?_⟩
  · refine read_int (o5.elems.ext x6) i0 (by omega) fun x hx => ?_
    have hxin := hin x (List.mem_of_getElem? hx)
    refine If.dec.2 ⟨fun hn => absurd hn (by omega), fun _ => ⟨c.vals, (v5.ext x6).at1 rfl, If.dec.2 ⟨fun hn => absurd hn (by omega), fun _ => ?_⟩⟩⟩
    refine cf_at (v5.ext x6) (place_spec (c := c) (by omega) fun h7 x7 => ⟨_, rfl, ?_⟩)
    rw [idx_at _ _ _ _ hnd hx]
    have hii : (0 : Int) + (i.toNat : Int) = i := by omega
    rw [hii]
    refine If.split (fun hb => by simp at hb) fun _ => ?_
    rw [wrap_i64 (n := i + 1) (by omega) (by omega)]
    exact ⟨⟨by first | omega | (dsimp only; omega), by first | omega | (dsimp only; omega), x6.trans x7⟩, by first | omega | (dsimp only; omega)⟩
  · refine ⟨by omega, Int.le_refl _, by omega, by omega, ?_⟩
    have o6 := Own.new (T := 4) (sz := 1) h6 (List.replicate s5.len (TV.bool false)) (fun t ht => by rw [List.eq_of_mem_replicate ht]; rfl)
    rw [List.length_replicate, ← zeros_rep] at o6
    have xp := Ext.push h6 (row (zeros (TV.bool false) s5.len) 4)
    have hsn : Int.toNat (s5.len : Int) = s5.len := Int.toNat_natCast _
    rw [hsn]
    have szp : (Array.push h6 (row (zeros (TV.bool false) s5.len) 4)).size = h6.size + 1 := by simp
    generalize Array.push h6 (row (zeros (TV.bool false) s5.len) 4) = hp at *
    refine ⟨fun i hh => 0 ≤ i ∧ i ≤ s5.len ∧ Own 4 1 hh ⟨some ⟨h6.size, 0⟩, s5.len, s5.len⟩ (bools (List.replicate i.toNat true ++ List.replicate (s5.len - i.toNat) false)) ∧ Only (· = h6.size) hp hh, fun i _ => ((s5.len : Int) - i).toNat,
      ⟨Int.le_refl 0, by omega, by simpa [bools] using o6, Only.refl _ _⟩, ?_⟩
    rintro j h7 ⟨j0, j1, o7, f7⟩
    refine If.dec.2 ⟨fun hj => ?_, fun hj => ?_⟩
    · refine o7.put_in j0 (by simp [bools]; omega) (t := .bool true) rfl rfl fun h8 o8 f8 s8 => ?_
      rw [wrap_i64 (n := j + 1) (by omega) (by omega)]
      refine ⟨⟨by omega, by omega, ?_, f7.trans (f8.mono fun i ⟨l, hl, ei⟩ => by cases hl; exact ei.symm)⟩, by first | omega | (dsimp only; omega)⟩
      have : (bools (List.replicate j.toNat true ++ List.replicate (s5.len - j.toNat) false)).set j.toNat (TV.bool true) = bools (List.replicate (j + 1).toNat true ++ List.replicate (s5.len - (j + 1).toNat) false) := by
        have hj1 : (j + 1).toNat = j.toNat + 1 := by omega
        rw [hj1]
        unfold bools
        rw [show TV.bool true = (fun b => TV.bool b) true from rfl, ← List.map_set]
        congr 1
        obtain ⟨m, hm⟩ : ∃ m, s5.len - j.toNat = m + 1 := ⟨s5.len - j.toNat - 1, by omega⟩
        have hm2 : s5.len - (j.toNat + 1) = m := by omega
        rw [hm, hm2]
        exact set_true m j.toNat
      rw [← this]
      exact o8
    · have hj2 : j.toNat = s5.len := by omega
      rw [hj2, Nat.sub_self, List.replicate_zero, List.append_nil] at o7
      have x67 : Ext h6 h7 := Only.cut xp f7 fun i hi => by omega
      have x57 := x6.trans x67
      refine cf_at (v5.ext x57) (pick_spec (c := c) (by omega) o7.elems (fun h8 x8 hbad => ?_) fun h8 s8 o8 x8 hne hle => ⟨_, _, rfl, If.yes ?_⟩)
      · exfalso
        rw [List.length_replicate] at hbad
        rcases hbad with hb | hb
        · rw [hb] at ml; simp at ml; omega
        · omega
      · rw [← el, pk_all] at o8
        refine same_spec o8.elems ((o5.elems.ext x57).ext x8) (by omega) ⟨_, rfl, ?_⟩
        rw [decide_eq_true rfl]
        exact hr h8 ((x05.trans x57).trans x8)

end
end Go.Proofs.Ytjncpcdpfgjibaa.Board
