/- Whole bodies do what their conditions say. -/
import Derived.Test.YtgdhddignbkloaaVcG
namespace Go.Vc
open Go

section
variable {P : Program} {C : Ctx}

/-- What is asked at an exit, told of slots and world. -/
def Lift (m : Nat) (env : Env) (w : World) (Q : Exit → Env → Heap → Prop) : Exit → Act → World → Prop :=
  fun e a' w' => SameEnv w w' ∧ ∃ env', EnvOk env' a' ∧ Keep m env env' ∧ Q e env' w'.heap

theorem exists_min (p : Nat → Prop) (h : ∃ n, p n) : ∃ n, p n ∧ ∀ m, m < n → ¬ p m := by
  obtain ⟨n, hn⟩ := h
  induction n using Nat.strongRecOn with
  | _ n ih =>
    by_cases hx : ∃ m, m < n ∧ p m
    · obtain ⟨m, hm, hp⟩ := hx
      exact ih m hm hp
    · exact ⟨n, hn, fun m hm hp => hx ⟨m, hm, hp⟩⟩

open Classical in
/-- A loop by states that get less. -/
theorem wp_loop_less {c : Code} {Q : Exit → Act → World → Prop} (S : Nat → Act → World → Prop)
    (round : ∀ n a w, S n a w → c.wp P (Exit.then (fun a' w' => ∃ m, m < n ∧ S m a' w') Q) a w) {n : Nat} {a : Act} {w : World} (h : S n a w) : (Code.loop c).wp P Q a w := by
  refine wp_loop (fun a w => ∃ n, S n a w) (fun a w => if h : ∃ n, S n a w then Classical.choose (exists_min _ h) else 0) ⟨n, h⟩ ?_
  intro a w hI
  have hmin := Classical.choose_spec (exists_min _ hI)
  refine Code.wp_mono (fun e a' w' hq => ?_) (round _ a w hmin.1)
  cases e with
  | normal =>
    obtain ⟨m, hm, hs⟩ := hq
    refine ⟨⟨m, hs⟩, ?_⟩
    have hI' : ∃ n, S n a' w' := ⟨m, hs⟩
    have hmin' := Classical.choose_spec (exists_min _ hI')
    show (if h : ∃ n, S n a' w' then Classical.choose (exists_min _ h) else 0) < (if h : ∃ n, S n a w then Classical.choose (exists_min _ h) else 0)
    rw [dif_pos hI', dif_pos hI]
    rcases Nat.lt_or_ge (Classical.choose (exists_min _ hI')) (Classical.choose (exists_min _ hI)) with hlt | hge
    · exact hlt
    · exact absurd hs (hmin'.2 m (by omega))
  | exit _ => exact hq
  | goto _ => exact hq
  | ret => exact hq
  | panic _ => exact hq
  | outgrown => exact hq

theorem joinTl_bit {C : Ctx} {a b : Code} {env : Env} : ∀ x ∈ joinTl C a b env, (maskCode a).testBit x.1 = true := by
  intro x hx
  unfold joinTl at hx
  rcases List.mem_append.1 hx with hx | hx
  · exact carried_bit _ _ _ x hx
  · rcases List.mem_append.1 hx with hx | hx
    · exact extra_bit x hx
    · rcases List.mem_append.1 hx with hx | hx
      · exact made_bit x hx
      · exact allMade_bit x hx

theorem TV.proj_dat (t : TV) (h : canCarry t = true) : t.proj t = some t.dat := by
  cases t <;> simp_all [TV.proj, TV.dat, canCarry]

theorem carried_get (m : Nat) : ∀ (env : Env) (k : Nat) (x : Nat × TV), x ∈ carried m k env → k ≤ x.1 ∧ env.getD (x.1 - k) none = some x.2 ∧ canCarry x.2 = true
  | [], k, x, h => by simp [carried] at h
  | y :: ys, k, x, h => by
    have step : x ∈ carried m (k + 1) ys → k ≤ x.1 ∧ (y :: ys).getD (x.1 - k) none = some x.2 ∧ canCarry x.2 = true := fun h => by
      obtain ⟨h1, h2, h3⟩ := carried_get m ys (k + 1) x h
      refine ⟨by omega, ?_, h3⟩
      rw [show x.1 - k = (x.1 - (k + 1)) + 1 by omega, List.getD_cons_succ]
      exact h2
    unfold carried at h
    split at h
    · rename_i t hb
      split at h
      · rename_i hc
        rcases List.mem_cons.1 h with rfl | h
        · exact ⟨Nat.le_refl _, by simp, hc⟩
        · exact step h
      · exact step h
    · exact step h

theorem dat_proj_aux (env : Env) : ∀ T : Tl, (∀ x ∈ T, env.getD x.1 none = some x.2 ∧ canCarry x.2 = true) → T.proj env = some (Tl.dat T)
  | [], _ => rfl
  | [x], h => by
    obtain ⟨h1, h2⟩ := h x (by simp)
    simp only [Tl.proj, projAt, h1, Tl.dat]
    exact TV.proj_dat _ h2
  | x :: y :: xs, h => by
    obtain ⟨h1, h2⟩ := h x (by simp)
    have ih := dat_proj_aux env (y :: xs) (fun z hz => h z (by simp [hz]))
    simp only [Tl.proj, projAt, h1, Tl.dat, TV.proj_dat _ h2, ih]

theorem dat_proj (env : Env) (m : Nat) : (carried m 0 env).proj env = some (Tl.dat _) :=
  dat_proj_aux env _ (fun x hx => by
    obtain ⟨_, h2, h3⟩ := carried_get m env 0 x hx
    exact ⟨by simpa using h2, h3⟩)

theorem back_some {T : Tl} {K : T.S → Heap → Prop} {env : Env} {h : Heap} (hb : back T K env h) : ∃ s, T.proj env = some s ∧ K s h := by
  unfold back at hb
  split at hb
  · rename_i s hs
    exact ⟨s, hs, hb⟩
  · exact hb.elim

theorem vc_sound (hC : C.Ok) : ∀ (c : Code) (Q : Exit → Env → Heap → Prop) (env : Env) (a : Act) (w : World), vc C c Q env w.heap → EnvOk env a → c.wp C.P (Lift (maskCode c) env w Q) a w
  | .skip, Q, env, a, w, hv, he => wp_skip ⟨SameEnv.refl w, env, he, Keep.refl _ _, hv⟩
  | .label _, Q, env, a, w, hv, he => wp_label ⟨SameEnv.refl w, env, he, Keep.refl _ _, hv⟩
  | .exit id, Q, env, a, w, hv, he => wp_exit ⟨SameEnv.refl w, env, he, Keep.refl _ _, hv⟩
  | .ret, Q, env, a, w, hv, he => wp_ret ⟨SameEnv.refl w, env, he, Keep.refl _ _, hv⟩
  | .region id ops draw, Q, env, a, w, hv, he => by
    cases draw with
    | false =>
      have h1 := vcOps_sound hC (all := ops.toList) (QQ := Lift (maskCode (.region id ops false)) env w Q) (env0 := env) (w0 := w) (m := maskCode (.region id ops false)) (Q := Q .normal)
        (fun env' a' w' he' hs' hk' hq' => ⟨hs', env', he', hk', hq'⟩) ops.toList 0 env a w hv he (SameEnv.refl w) (Keep.refl _ _) (fun j hj => hj)
      have h2 : wpList C.P ops (Lift (maskCode (.region id ops false)) env w Q) ops.toList a w := by
        have : ops.toList.toArray = ops := by simp
        rw [this] at h1
        exact h1
      exact wp_region_list h2
    | true =>
      simp only [vc] at hv
      split at hv
      · rename_i hap hsel
        obtain ⟨B, hB, hv⟩ := withBase_out hv
        let QQ : Exit → Act → World → Prop := fun e a' w' => match e with
          | .normal => Lift (maskCode (.region id ops true)) env w Q .normal a' w'
          | _ => False
        have ho : ops.toList.toArray = ops := by simp
        have hl : (noneB ops.toList).toArray = Array.replicate ops.size false := by
          apply Array.toList_inj.1
          unfold noneB
          rw [List.map_const']
          simp
        have h1 := drawGo_sound hC (all := ops.toList) hap hsel (QQ := QQ) (env0 := env) (w0 := w) (m := maskCode (.region id ops true)) (Q := Q .normal) (fun j hj => hj) (fun c a w h => h)
          (fun env' a' w' he' hs' hk' hq' => ⟨hs', env', he', hk', hq'⟩) ops.toList.length false (noneB ops.toList) env a { w with drawn := w.drawn + 1 } hv (fun _ => hB) he ⟨rfl, rfl, rfl, Nat.le_succ _⟩ (Keep.refl _ _) (closed_none _)
        rw [ho, hl] at h1
        have h2 := wp_region_any (id := id) (ops := ops) (Q := QQ) (a := a) (w := w) hC.mixed (by
          have := any_of_anyX _ _ _ _ h1
          simpa using this)
        refine Code.wp_mono (fun e a' w' hq => ?_) h2
        cases e with
        | normal => exact hq
        | exit _ => exact hq.elim
        | goto _ => exact hq.elim
        | ret => exact hq.elim
        | panic _ => exact hq.elim
        | outgrown => exact hq.elim
      · exact hv.elim
  | .cond c x y, Q, env, a, w, hv, he => by
    simp only [vc] at hv
    split at hv
    · rename_i b hb
      have hc : a.eval c = .bool b := he.known hb
      cases b with
      | true => exact wp_cond_true hc (Code.wp_mono (fun e a' w' ⟨h1, env', h2, h3, h4⟩ => ⟨h1, env', h2, h3.mono lor_left, h4⟩) (vc_sound hC x Q env a w hv he))
      | false => exact wp_cond_false hc (Code.wp_mono (fun e a' w' ⟨h1, env', h2, h3, h4⟩ => ⟨h1, env', h2, h3.mono lor_right, h4⟩) (vc_sound hC y Q env a w hv he))
    · exact hv.elim
  | .block id c, Q, env, a, w, hv, he => by
    refine wp_block (Code.wp_mono (fun e a' w' hq => ?_) (vc_sound hC c (inBlk id Q) env a w hv he))
    obtain ⟨h1, env', h2, h3, h4⟩ := hq
    cases e with
    | exit id' =>
      simp only [inBlk] at h4
      simp only [Exit.inBlock]
      cases hb : Nat.beq id' id with
      | true =>
        rw [hb] at h4
        rw [if_pos (by simpa using hb)]
        exact ⟨h1, env', h2, h3, h4⟩
      | false =>
        rw [hb] at h4
        rw [if_neg (by intro hx; subst hx; simp at hb)]
        exact ⟨h1, env', h2, h3, h4⟩
    | normal => exact ⟨h1, env', h2, h3, h4⟩
    | goto _ => exact ⟨h1, env', h2, h3, h4⟩
    | ret => exact ⟨h1, env', h2, h3, h4⟩
    | panic _ => exact ⟨h1, env', h2, h3, h4⟩
    | outgrown => exact ⟨h1, env', h2, h3, h4⟩
  | .seq x y, Q, env, a, w, hv, he => by
    simp only [vc] at hv
    split at hv
    · refine wp_seq (Code.wp_mono (fun e a' w' hq => ?_) (vc_sound hC x _ env a w hv he))
      obtain ⟨h1, env', h2, h3, h4⟩ := hq
      cases e with
      | normal =>
        refine Code.wp_mono (fun e a'' w'' hq => ?_) (vc_sound hC y Q env' a' w' h4 h2)
        obtain ⟨g1, env'', g2, g3, g4⟩ := hq
        exact ⟨h1.trans g1, env'', g2, (h3.mono lor_left).trans (g3.mono lor_right), g4⟩
      | exit _ => exact ⟨h1, env', h2, h3.mono lor_left, h4⟩
      | goto _ => exact ⟨h1, env', h2, h3.mono lor_left, h4⟩
      | ret => exact ⟨h1, env', h2, h3.mono lor_left, h4⟩
      | panic _ => exact ⟨h1, env', h2, h3.mono lor_left, h4⟩
      | outgrown => exact ⟨h1, env', h2, h3.mono lor_left, h4⟩
    · have hv := hv _ (fun s h hh => hh)
      refine wp_seq (Code.wp_mono (fun e a' w' hq => ?_) (vc_sound hC x _ env a w hv he))
      obtain ⟨h1, env', h2, h3, h4⟩ := hq
      cases e with
      | normal =>
        obtain ⟨s, hs, h5⟩ := back_some h4
        have hu := upd_ok h2 h3 hs
        have hk : Keep (maskCode x) env (upd env (maskCode x) (joinTl C x y env) s) := upd_keep joinTl_bit
        refine Code.wp_mono (fun e a'' w'' hq => ?_) (vc_sound hC y Q _ a' w' h5 hu)
        obtain ⟨g1, env'', g2, g3, g4⟩ := hq
        exact ⟨h1.trans g1, env'', g2, (hk.mono lor_left).trans (g3.mono lor_right), g4⟩
      | exit _ => exact ⟨h1, env', h2, h3.mono lor_left, h4⟩
      | goto _ => exact ⟨h1, env', h2, h3.mono lor_left, h4⟩
      | ret => exact ⟨h1, env', h2, h3.mono lor_left, h4⟩
      | panic _ => exact ⟨h1, env', h2, h3.mono lor_left, h4⟩
      | outgrown => exact ⟨h1, env', h2, h3.mono lor_left, h4⟩
  | .loop c, Q, env, a, w, hv, he => by
    simp only [vc] at hv
    obtain ⟨I, μ, h0, hround⟩ := hv
    have hT : ∀ x ∈ carried (maskCode c) 0 env, (maskCode c).testBit x.1 = true := fun x hx => carried_bit _ _ _ x hx
    let T := carried (maskCode c) 0 env
    refine wp_loop_less (n := μ (Tl.dat T) w.heap) (fun n a' w' => SameEnv w w' ∧ ∃ s : T.S, EnvOk (upd env (maskCode c) T s) a' ∧ I s w'.heap ∧ n = μ s w'.heap) ?_ ?_
    · rintro n a' w' ⟨h1, s, h2, h3, rfl⟩
      have hr := hround s w'.heap h3
      refine Code.wp_mono (fun e a'' w'' hq => ?_) (vc_sound hC c _ _ a' w' hr h2)
      obtain ⟨g1, env'', g2, g3, g4⟩ := hq
      have hk : Keep (maskCode c) env (upd env (maskCode c) T s) := upd_keep hT
      have hk' := hk.trans g3
      cases e with
      | normal =>
        obtain ⟨s', hs', g5, g6⟩ := back_some (T := T) (K := fun s' h' => I s' h' ∧ μ s' h' < μ s w'.heap) g4
        exact ⟨_, g6, h1.trans g1, s', upd_ok g2 hk' hs', g5, rfl⟩
      | exit _ => exact ⟨h1.trans g1, env'', g2, hk', g4⟩
      | goto _ => exact ⟨h1.trans g1, env'', g2, hk', g4⟩
      | ret => exact ⟨h1.trans g1, env'', g2, hk', g4⟩
      | panic _ => exact ⟨h1.trans g1, env'', g2, hk', g4⟩
      | outgrown => exact ⟨h1.trans g1, env'', g2, hk', g4⟩
    · refine ⟨SameEnv.refl w, Tl.dat T, ?_, h0, rfl⟩
      exact upd_ok he (Keep.refl _ _) (dat_proj env (maskCode c))
  | .rangeFunc _ _ _ _, Q, env, a, w, hv, he => hv.elim
  | .scope _, Q, env, a, w, hv, he => hv.elim
  | .goto _, Q, env, a, w, hv, he => hv.elim
  | .refuse _, Q, env, a, w, hv, he => hv.elim

/-! ### Functions -/

def vcRet (C : Ctx) : List ResultVar → Env → Heap → (List TV → Prop) → Prop
  | [], _, _, K => K []
  | .tmp t :: rs, env, h, K => match env.getD t none with
    | some tv => vcRet C rs env h fun ts => K (tv :: ts)
    | none => False
  | .cell a t :: rs, env, h, K => match env.getD a none with
    | some (.ptr p) => Nn p fun l => vcLoad C t l h fun r => match r with
      | some tv => vcRet C rs env h fun ts => K (tv :: ts)
      | none => False
    | _ => False

def retVal : List TV → Value
  | [t] => t.val
  | ts => (TV.tup ts).val

def retThen (C : Ctx) (rs : List ResultVar) (R : Value → Heap → Prop) : Exit → Env → Heap → Prop
  | .normal, env, h => vcRet C rs env h fun ts => R (retVal ts) h
  | .ret, env, h => vcRet C rs env h fun ts => R (retVal ts) h
  | _, _, _ => False

def initEnv (args : List TV) (n : Nat) : Env := args.map some ++ List.replicate (n - args.length) none

/-- The condition of a call. -/
def vcFn (C : Ctx) (fn : Func) (args : List TV) (h : Heap) (R : Value → Heap → Prop) : Prop :=
  match fn.body with
  | some c => vc C c (retThen C fn.results.toList R) (initEnv args fn.ntmps) h
  | none => False

theorem vals_length : ∀ ts : List TV, (TVs.vals ts).length = ts.length
  | [] => rfl
  | t :: ts => by simp [TVs.vals, vals_length ts]

theorem initEnv_ok (args : List TV) (n : Nat) : EnvOk (initEnv args n) { tmps := (TVs.vals args).toArray ++ Array.replicate (n - (TVs.vals args).toArray.size) undef, defers := [] } := by
  refine ⟨rfl, by simp [initEnv, vals_length], fun i tv hi => ?_⟩
  simp only [initEnv] at hi
  by_cases hl : i < args.length
  · rw [List.getElem?_append_left (by simpa using hl), List.getElem?_map] at hi
    rw [Array.getElem?_append_left (by simp [vals_length]; exact hl)]
    cases ha : args[i]? with
    | none => rw [ha] at hi; cases hi
    | some u =>
      rw [ha] at hi
      simp only [Option.map_some, Option.some.injEq] at hi
      subst hi
      simpa using vals_get args i u ha
  · rw [List.getElem?_append_right (by simpa using hl)] at hi
    rw [List.getElem?_replicate] at hi
    split at hi <;> cases hi

def resOne (tmps : Array Value) : ResultVar → Sem Value
  | .tmp t => pure (tmps.getD t undef)
  | .cell x t => do loadVar t (← asAddr (tmps.getD x undef))

theorem results_eq (fn : Func) (tmps : Array Value) : results fn tmps = (do
    let vs ← fn.results.mapM (resOne tmps)
    pure (if h : vs.size = 1 then vs[0] else .tuple vs)) := by
  unfold results
  congr 2

theorem vcRet_sound (hC : C.Ok) {env : Env} {a : Act} (he : EnvOk env a) (w : World) : ∀ (rs : List ResultVar) (K : List TV → Prop), vcRet C rs env w.heap K →
    ∃ ts, K ts ∧ (rs.mapM (resOne a.tmps)).run C.P w = .ok (TVs.vals ts) w
  | [], K, h => ⟨[], h, by simp [TVs.vals]⟩
  | .tmp t :: rs, K, h => by
    simp only [vcRet] at h
    split at h
    · rename_i tv htv
      obtain ⟨ts, h1, h2⟩ := vcRet_sound hC he w rs _ h
      refine ⟨tv :: ts, h1, ?_⟩
      have hv : a.eval (.tmp t) = tv.val := he.known (x := .tmp t) htv
      have hv' : a.tmps.getD t undef = tv.val := hv
      simp only [List.mapM_cons, resOne, Sem.run_bind, Sem.run_pure, Result.andThen_ok, hv']
      rw [h2]
      rfl
    · exact h.elim
  | .cell x t :: rs, K, h => by
    simp only [vcRet] at h
    split at h
    · rename_i p hp
      obtain ⟨l, rfl, hl⟩ := elim_some h
      obtain ⟨r, v, h1, h2, h3⟩ := vcLoad_sound hC hl
      cases r with
      | none => exact h1.elim
      | some tv =>
        obtain rfl := h2 _ rfl
        obtain ⟨ts, g1, g2⟩ := vcRet_sound hC he w rs _ h1
        refine ⟨tv :: ts, g1, ?_⟩
        have hv : a.eval (.tmp x) = (TV.ptr (some l)).val := he.known (x := .tmp x) hp
        have hv' : a.tmps.getD x undef = .pointer (some l.addr) := hv
        have h3' := h3 w rfl
        unfold Instr.loadAt at h3'
        simp only [Instr.sureAddr, Sem.run_bind, Sem.run_pure, Result.andThen_ok] at h3'
        simp only [List.mapM_cons, resOne, Sem.run_bind, Sem.run_pure, Result.andThen_ok, hv', asAddr]
        rw [h3']
        simp only [Result.andThen_ok]
        rw [g2]
        rfl
    · exact h.elim

theorem vcFn_sound (hC : C.Ok) {f : FuncId} {fn : Func} (hf : C.P.funcs[f]? = some fn) {args : List TV} {h : Heap} {R : Value → Heap → Prop} (hv : vcFn C fn args h R) : CallsH C.P f (TVs.vals args) h R := by
  intro w hw
  subst hw
  unfold vcFn at hv
  split at hv
  · rename_i c hc
    refine calls_of_wp hf hc (Code.wp_mono (fun e a' w' hq => ?_) (vc_sound hC c _ _ _ w hv (initEnv_ok args fn.ntmps)))
    obtain ⟨h1, env', h2, h3, h4⟩ := hq
    have key : vcRet C fn.results.toList env' w'.heap (fun ts => R (retVal ts) w'.heap) → a'.defers = [] ∧ ∃ v, (results fn a'.tmps).run C.P w' = .ok v w' ∧ (SameEnv w w' ∧ ∃ v', Ending.returned v = .returned v' ∧ R v' w'.heap) := by
      intro hr
      obtain ⟨ts, g1, g2⟩ := vcRet_sound hC h2 w' _ _ hr
      refine ⟨h2.defers, retVal ts, ?_, h1, _, rfl, g1⟩
      rw [results_eq]
      have hm : (fn.results.mapM (resOne a'.tmps)).run C.P w' = .ok (TVs.vals ts).toArray w' := by
        rw [Array.mapM_eq_mapM_toList]
        simp [g2]
      rw [Sem.run_bind, hm]
      simp only [Result.andThen_ok, Sem.run_pure]
      congr 1
      match ts with
      | [] => rfl
      | [t] => rfl
      | t :: u :: ts => rw [dif_neg (by simp [TVs.vals])]; rfl
    cases e with
    | normal => exact key h4
    | ret => exact key h4
    | exit _ => exact h4.elim
    | goto _ => exact h4.elim
    | panic _ => exact h4.elim
    | outgrown => exact h4.elim
  · exact hv.elim

end
end Go.Vc
