/- Texts that the proof needs, joined: VcH, VcI, VcL, VcS, VcM, VcS2, VcS3, VcP, Ctx, VsSha, ShaA, ShaB, ShaC, VcR, VsShaT, ShaT, VsLe, LeA, LeA2, LeA3, RefA, RefB, RefC, RefD, ShaG, LeB, BoardD, BoardE, VsBoardL, BoardF, GenP, VcU, VtP, VcW, SumP. -/
import Derived.Test.YtldocdpdjdekiaaProg
import Derived.KernelRfl
import Derived.Test.YtldocdpdjdekiaaPkA

section
/- Whole bodies do what their conditions say. -/
namespace Go.Vc
open Go

section
variable {P : Program} {C : Ctx}

/-- What is asked at an exit, told of slots and world. -/
def Lift (s : Bool) (m : Nat) (env : Env) (w : World) (Q : Exit → Env → Heap → Prop) : Exit → Act → World → Prop :=
  fun e a' w' => EnvS s w w' ∧ ∃ env', EnvOk env' a' ∧ Keep m env env' ∧ Q e env' w'.heap

theorem exists_min (p : Nat → Prop) (h : ∃ n, p n) : ∃ n, p n ∧ ∀ m, m < n → ¬ p m := by
  obtain ⟨n, hn⟩ := h
  induction n using Nat.strongRecOn with
  | _ n ih =>
    by_cases hx : ∃ m, m < n ∧ p m
    · obtain ⟨m, hm, hp⟩ := hx
      exact ih m hm hp
    · exact ⟨n, hn, fun m hm hp => hx ⟨m, hm, hp⟩⟩

open Classical in
/-- A loop by states that get less. -/
theorem wp_loop_less {c : Code} {Q : Exit → Act → World → Prop} (S : Nat → Act → World → Prop)
    (round : ∀ n a w, S n a w → c.wp P (Exit.then (fun a' w' => ∃ m, m < n ∧ S m a' w') Q) a w) {n : Nat} {a : Act} {w : World} (h : S n a w) : (Code.loop c).wp P Q a w := by
  refine wp_loop (fun a w => ∃ n, S n a w) (fun a w => if h : ∃ n, S n a w then Classical.choose (exists_min _ h) else 0) ⟨n, h⟩ ?_
  intro a w hI
  have hmin := Classical.choose_spec (exists_min _ hI)
  refine Code.wp_mono (fun e a' w' hq => ?_) (round _ a w hmin.1)
  cases e with
  | normal =>
    obtain ⟨m, hm, hs⟩ := hq
    refine ⟨⟨m, hs⟩, ?_⟩
    have hI' : ∃ n, S n a' w' := ⟨m, hs⟩
    have hmin' := Classical.choose_spec (exists_min _ hI')
    show (if h : ∃ n, S n a' w' then Classical.choose (exists_min _ h) else 0) < (if h : ∃ n, S n a w then Classical.choose (exists_min _ h) else 0)
    rw [dif_pos hI', dif_pos hI]
    rcases Nat.lt_or_ge (Classical.choose (exists_min _ hI')) (Classical.choose (exists_min _ hI)) with hlt | hge
    · exact hlt
    · exact absurd hs (hmin'.2 m (by omega))
  | exit _ => exact hq
  | goto _ => exact hq
  | ret => exact hq
  | panic _ => exact hq
  | outgrown => exact hq

theorem joinTl_bit {C : Ctx} {a b : Code} {env : Env} : ∀ x ∈ joinTl C a b env, (maskCode a).testBit x.1 = true := by
  intro x hx
  unfold joinTl at hx
  rcases List.mem_append.1 hx with hx | hx
  · exact carried_bit _ _ _ x hx
  · rcases List.mem_append.1 hx with hx | hx
    · exact extra_bit x hx
    · rcases List.mem_append.1 hx with hx | hx
      · exact made_bit x hx
      · exact allMade_bit x hx

theorem TV.proj_dat (t : TV) (h : canCarry t = true) : t.proj t = some t.dat := by
  cases t <;> simp_all [TV.proj, TV.dat, canCarry]

theorem carried_get (m : Nat) : ∀ (env : Env) (k : Nat) (x : Nat × TV), x ∈ carried m k env → k ≤ x.1 ∧ env.getD (x.1 - k) none = some x.2 ∧ canCarry x.2 = true
  | [], k, x, h => by simp [carried] at h
  | y :: ys, k, x, h => by
    have step : x ∈ carried m (k + 1) ys → k ≤ x.1 ∧ (y :: ys).getD (x.1 - k) none = some x.2 ∧ canCarry x.2 = true := fun h => by
      obtain ⟨h1, h2, h3⟩ := carried_get m ys (k + 1) x h
      refine ⟨by omega, ?_, h3⟩
      rw [show x.1 - k = (x.1 - (k + 1)) + 1 by omega, List.getD_cons_succ]
      exact h2
    unfold carried at h
    split at h
    · rename_i t hb
      split at h
      · rename_i hc
        rcases List.mem_cons.1 h with rfl | h
        · exact ⟨Nat.le_refl _, by simp, hc⟩
        · exact step h
      · exact step h
    · exact step h

theorem dat_proj_aux (env : Env) : ∀ T : Tl, (∀ x ∈ T, env.getD x.1 none = some x.2 ∧ canCarry x.2 = true) → T.proj env = some (Tl.dat T)
  | [], _ => rfl
  | [x], h => by
    obtain ⟨h1, h2⟩ := h x (by simp)
    simp only [Tl.proj, projAt, h1, Tl.dat]
    exact TV.proj_dat _ h2
  | x :: y :: xs, h => by
    obtain ⟨h1, h2⟩ := h x (by simp)
    have ih := dat_proj_aux env (y :: xs) (fun z hz => h z (by simp [hz]))
    simp only [Tl.proj, projAt, h1, Tl.dat, TV.proj_dat _ h2, ih]

theorem dat_proj (env : Env) (m : Nat) : (carried m 0 env).proj env = some (Tl.dat _) :=
  dat_proj_aux env _ (fun x hx => by
    obtain ⟨_, h2, h3⟩ := carried_get m env 0 x hx
    exact ⟨by simpa using h2, h3⟩)

theorem back_some {T : Tl} {K : T.S → Heap → Prop} {env : Env} {h : Heap} (hb : back T K env h) : ∃ s, T.proj env = some s ∧ K s h := by
  unfold back at hb
  split at hb
  · rename_i s hs
    exact ⟨s, hs, hb⟩
  · exact hb.elim

theorem vc_sound (hC : C.Ok) : ∀ (c : Code) (Q : Exit → Env → Heap → Prop) (env : Env) (a : Act) (w : World), vc C c Q env w.heap → EnvOk env a → c.wp C.P (Lift C.strict (maskCode c) env w Q) a w
  | .skip, Q, env, a, w, hv, he => wp_skip ⟨EnvS.refl w, env, he, Keep.refl _ _, hv⟩
  | .label _, Q, env, a, w, hv, he => wp_label ⟨EnvS.refl w, env, he, Keep.refl _ _, hv⟩
  | .exit id, Q, env, a, w, hv, he => wp_exit ⟨EnvS.refl w, env, he, Keep.refl _ _, hv⟩
  | .ret, Q, env, a, w, hv, he => wp_ret ⟨EnvS.refl w, env, he, Keep.refl _ _, hv⟩
  | .region id ops draw, Q, env, a, w, hv, he => by
    cases draw with
    | false =>
      have h1 := vcOps_sound hC (all := ops.toList) (QQ := Lift C.strict (maskCode (.region id ops false)) env w Q) (env0 := env) (w0 := w) (m := maskCode (.region id ops false)) (Q := Q .normal)
        (fun env' a' w' he' hs' hk' hq' => ⟨hs', env', he', hk', hq'⟩) ops.toList 0 env a w hv he (EnvS.refl w) (Keep.refl _ _) (fun j hj => hj)
      have h2 : wpList C.P ops (Lift C.strict (maskCode (.region id ops false)) env w Q) ops.toList a w := by
        have : ops.toList.toArray = ops := by simp
        rw [this] at h1
        exact h1
      exact wp_region_list h2
    | true =>
      simp only [vc] at hv
      split at hv
      · rename_i hap hsel
        obtain ⟨B, hB, hv⟩ := withBase_out hv
        let QQ : Exit → Act → World → Prop := fun e a' w' => match e with
          | .normal => Lift C.strict (maskCode (.region id ops true)) env w Q .normal a' w'
          | _ => False
        have ho : ops.toList.toArray = ops := by simp
        have hl : (noneB ops.toList).toArray = Array.replicate ops.size false := by
          apply Array.toList_inj.1
          unfold noneB
          rw [List.map_const']
          simp
        have h1 := drawGo_sound hC (all := ops.toList) hap hsel (QQ := QQ) (env0 := env) (w0 := w) (m := maskCode (.region id ops true)) (Q := Q .normal) (fun j hj => hj) (fun c a w h => h)
          (fun env' a' w' he' hs' hk' hq' => ⟨hs', env', he', hk', hq'⟩) ops.toList.length false (noneB ops.toList) env a { w with drawn := w.drawn + 1 } hv (fun _ => hB) he ⟨rfl, rfl, rfl, fun _ => Nat.le_succ _⟩ (Keep.refl _ _) (closed_none _)
        rw [ho, hl] at h1
        have h2 := wp_region_any (id := id) (ops := ops) (Q := QQ) (a := a) (w := w) hC.mixed (by
          have := any_of_anyX _ _ _ _ h1
          simpa using this)
        refine Code.wp_mono (fun e a' w' hq => ?_) h2
        cases e with
        | normal => exact hq
        | exit _ => exact hq.elim
        | goto _ => exact hq.elim
        | ret => exact hq.elim
        | panic _ => exact hq.elim
        | outgrown => exact hq.elim
      · exact hv.elim
  | .cond c x y, Q, env, a, w, hv, he => by
    simp only [vc] at hv
    split at hv
    · rename_i b hb
      have hc : a.eval c = .bool b := he.known hb
      cases b with
      | true => exact wp_cond_true hc (Code.wp_mono (fun e a' w' ⟨h1, env', h2, h3, h4⟩ => ⟨h1, env', h2, h3.mono lor_left, h4⟩) (vc_sound hC x Q env a w hv he))
      | false => exact wp_cond_false hc (Code.wp_mono (fun e a' w' ⟨h1, env', h2, h3, h4⟩ => ⟨h1, env', h2, h3.mono lor_right, h4⟩) (vc_sound hC y Q env a w hv he))
    · exact hv.elim
  | .block id c, Q, env, a, w, hv, he => by
    refine wp_block (Code.wp_mono (fun e a' w' hq => ?_) (vc_sound hC c (inBlk id Q) env a w hv he))
    obtain ⟨h1, env', h2, h3, h4⟩ := hq
    cases e with
    | exit id' =>
      simp only [inBlk] at h4
      simp only [Exit.inBlock]
      cases hb : Nat.beq id' id with
      | true =>
        rw [hb] at h4
        rw [if_pos (by simpa using hb)]
        exact ⟨h1, env', h2, h3, h4⟩
      | false =>
        rw [hb] at h4
        rw [if_neg (by intro hx; subst hx; simp at hb)]
        exact ⟨h1, env', h2, h3, h4⟩
    | normal => exact ⟨h1, env', h2, h3, h4⟩
    | goto _ => exact ⟨h1, env', h2, h3, h4⟩
    | ret => exact ⟨h1, env', h2, h3, h4⟩
    | panic _ => exact ⟨h1, env', h2, h3, h4⟩
    | outgrown => exact ⟨h1, env', h2, h3, h4⟩
  | .seq x y, Q, env, a, w, hv, he => by
    simp only [vc] at hv
    split at hv
    · refine wp_seq (Code.wp_mono (fun e a' w' hq => ?_) (vc_sound hC x _ env a w hv he))
      obtain ⟨h1, env', h2, h3, h4⟩ := hq
      cases e with
      | normal =>
        refine Code.wp_mono (fun e a'' w'' hq => ?_) (vc_sound hC y Q env' a' w' h4 h2)
        obtain ⟨g1, env'', g2, g3, g4⟩ := hq
        exact ⟨h1.trans g1, env'', g2, (h3.mono lor_left).trans (g3.mono lor_right), g4⟩
      | exit _ => exact ⟨h1, env', h2, h3.mono lor_left, h4⟩
      | goto _ => exact ⟨h1, env', h2, h3.mono lor_left, h4⟩
      | ret => exact ⟨h1, env', h2, h3.mono lor_left, h4⟩
      | panic _ => exact ⟨h1, env', h2, h3.mono lor_left, h4⟩
      | outgrown => exact ⟨h1, env', h2, h3.mono lor_left, h4⟩
    · have hv := hv _ (fun s h hh => hh)
      refine wp_seq (Code.wp_mono (fun e a' w' hq => ?_) (vc_sound hC x _ env a w hv he))
      obtain ⟨h1, env', h2, h3, h4⟩ := hq
      cases e with
      | normal =>
        obtain ⟨s, hs, h5⟩ := back_some h4
        have hu := upd_ok h2 h3 hs
        have hk : Keep (maskCode x) env (upd env (maskCode x) (joinTl C x y env) s) := upd_keep joinTl_bit
        refine Code.wp_mono (fun e a'' w'' hq => ?_) (vc_sound hC y Q _ a' w' h5 hu)
        obtain ⟨g1, env'', g2, g3, g4⟩ := hq
        exact ⟨h1.trans g1, env'', g2, (hk.mono lor_left).trans (g3.mono lor_right), g4⟩
      | exit _ => exact ⟨h1, env', h2, h3.mono lor_left, h4⟩
      | goto _ => exact ⟨h1, env', h2, h3.mono lor_left, h4⟩
      | ret => exact ⟨h1, env', h2, h3.mono lor_left, h4⟩
      | panic _ => exact ⟨h1, env', h2, h3.mono lor_left, h4⟩
      | outgrown => exact ⟨h1, env', h2, h3.mono lor_left, h4⟩
  | .loop c, Q, env, a, w, hv, he => by
    simp only [vc] at hv
    obtain ⟨I, μ, h0, hround⟩ := hv
    have hT : ∀ x ∈ carried (maskCode c) 0 env, (maskCode c).testBit x.1 = true := fun x hx => carried_bit _ _ _ x hx
    let T := carried (maskCode c) 0 env
    refine wp_loop_less (n := μ (Tl.dat T) w.heap) (fun n a' w' => EnvS C.strict w w' ∧ ∃ s : T.S, EnvOk (upd env (maskCode c) T s) a' ∧ I s w'.heap ∧ n = μ s w'.heap) ?_ ?_
    · rintro n a' w' ⟨h1, s, h2, h3, rfl⟩
      have hr := hround s w'.heap h3
      refine Code.wp_mono (fun e a'' w'' hq => ?_) (vc_sound hC c _ _ a' w' hr h2)
      obtain ⟨g1, env'', g2, g3, g4⟩ := hq
      have hk : Keep (maskCode c) env (upd env (maskCode c) T s) := upd_keep hT
      have hk' := hk.trans g3
      cases e with
      | normal =>
        obtain ⟨s', hs', g5, g6⟩ := back_some (T := T) (K := fun s' h' => I s' h' ∧ μ s' h' < μ s w'.heap) g4
        exact ⟨_, g6, h1.trans g1, s', upd_ok g2 hk' hs', g5, rfl⟩
      | exit _ => exact ⟨h1.trans g1, env'', g2, hk', g4⟩
      | goto _ => exact ⟨h1.trans g1, env'', g2, hk', g4⟩
      | ret => exact ⟨h1.trans g1, env'', g2, hk', g4⟩
      | panic _ => exact ⟨h1.trans g1, env'', g2, hk', g4⟩
      | outgrown => exact ⟨h1.trans g1, env'', g2, hk', g4⟩
    · refine ⟨EnvS.refl w, Tl.dat T, ?_, h0, rfl⟩
      exact upd_ok he (Keep.refl _ _) (dat_proj env (maskCode c))
  | .rangeFunc _ _ _ _, Q, env, a, w, hv, he => hv.elim
  | .scope _, Q, env, a, w, hv, he => hv.elim
  | .goto _, Q, env, a, w, hv, he => hv.elim
  | .refuse _, Q, env, a, w, hv, he => hv.elim

/-! ### Functions -/

def vcRet (C : Ctx) : List ResultVar → Env → Heap → (List TV → Prop) → Prop
  | [], _, _, K => K []
  | .tmp t :: rs, env, h, K => match env.getD t none with
    | some tv => vcRet C rs env h fun ts => K (tv :: ts)
    | none => False
  | .cell a t :: rs, env, h, K => match env.getD a none with
    | some (.ptr p) => Nn p fun l => vcLoad C t l h fun r => match r with
      | some tv => vcRet C rs env h fun ts => K (tv :: ts)
      | none => False
    | _ => False

def retVal : List TV → Value
  | [t] => t.val
  | ts => (TV.tup ts).val

def retThen (C : Ctx) (rs : List ResultVar) (R : Value → Heap → Prop) : Exit → Env → Heap → Prop
  | .normal, env, h => vcRet C rs env h fun ts => R (retVal ts) h
  | .ret, env, h => vcRet C rs env h fun ts => R (retVal ts) h
  | _, _, _ => False

def initEnv (args : List TV) (n : Nat) : Env := args.map some ++ List.replicate (n - args.length) none

/-- The condition of a call. -/
def vcFn (C : Ctx) (fn : Func) (args : List TV) (h : Heap) (R : Value → Heap → Prop) : Prop :=
  match fn.body with
  | some c => vc C c (retThen C fn.results.toList R) (initEnv args fn.ntmps) h
  | none => False

theorem vals_length : ∀ ts : List TV, (TVs.vals ts).length = ts.length
  | [] => rfl
  | t :: ts => by simp [TVs.vals, vals_length ts]

theorem initEnv_ok (args : List TV) (n : Nat) : EnvOk (initEnv args n) { tmps := (TVs.vals args).toArray ++ Array.replicate (n - (TVs.vals args).toArray.size) undef, defers := [] } := by
  refine ⟨rfl, by simp [initEnv, vals_length], fun i tv hi => ?_⟩
  simp only [initEnv] at hi
  by_cases hl : i < args.length
  · rw [List.getElem?_append_left (by simpa using hl), List.getElem?_map] at hi
    rw [Array.getElem?_append_left (by simp [vals_length]; exact hl)]
    cases ha : args[i]? with
    | none => rw [ha] at hi; cases hi
    | some u =>
      rw [ha] at hi
      simp only [Option.map_some, Option.some.injEq] at hi
      subst hi
      simpa using vals_get args i u ha
  · rw [List.getElem?_append_right (by simpa using hl)] at hi
    rw [List.getElem?_replicate] at hi
    split at hi <;> cases hi

def resOne (tmps : Array Value) : ResultVar → Sem Value
  | .tmp t => pure (tmps.getD t undef)
  | .cell x t => do loadVar t (← asAddr (tmps.getD x undef))

theorem results_eq (fn : Func) (tmps : Array Value) : results fn tmps = (do
    let vs ← fn.results.mapM (resOne tmps)
    pure (if h : vs.size = 1 then vs[0] else .tuple vs)) := by
  unfold results
  congr 2

theorem vcRet_sound (hC : C.Ok) {env : Env} {a : Act} (he : EnvOk env a) (w : World) : ∀ (rs : List ResultVar) (K : List TV → Prop), vcRet C rs env w.heap K →
    ∃ ts, K ts ∧ (rs.mapM (resOne a.tmps)).run C.P w = .ok (TVs.vals ts) w
  | [], K, h => ⟨[], h, by simp [TVs.vals]⟩
  | .tmp t :: rs, K, h => by
    simp only [vcRet] at h
    split at h
    · rename_i tv htv
      obtain ⟨ts, h1, h2⟩ := vcRet_sound hC he w rs _ h
      refine ⟨tv :: ts, h1, ?_⟩
      have hv : a.eval (.tmp t) = tv.val := he.known (x := .tmp t) htv
      have hv' : a.tmps.getD t undef = tv.val := hv
      simp only [List.mapM_cons, resOne, Sem.run_bind, Sem.run_pure, Result.andThen_ok, hv']
      rw [h2]
      rfl
    · exact h.elim
  | .cell x t :: rs, K, h => by
    simp only [vcRet] at h
    split at h
    · rename_i p hp
      obtain ⟨l, rfl, hl⟩ := elim_some h
      obtain ⟨r, v, h1, h2, h3⟩ := vcLoad_sound hC hl
      cases r with
      | none => exact h1.elim
      | some tv =>
        obtain rfl := h2 _ rfl
        obtain ⟨ts, g1, g2⟩ := vcRet_sound hC he w rs _ h1
        refine ⟨tv :: ts, g1, ?_⟩
        have hv : a.eval (.tmp x) = (TV.ptr (some l)).val := he.known (x := .tmp x) hp
        have hv' : a.tmps.getD x undef = .pointer (some l.addr) := hv
        have h3' := h3 w rfl
        unfold Instr.loadAt at h3'
        simp only [Instr.sureAddr, Sem.run_bind, Sem.run_pure, Result.andThen_ok] at h3'
        simp only [List.mapM_cons, resOne, Sem.run_bind, Sem.run_pure, Result.andThen_ok, hv', asAddr]
        rw [h3']
        simp only [Result.andThen_ok]
        rw [g2]
        rfl
    · exact h.elim

theorem vcFn_sound (hC : C.Ok) {f : FuncId} {fn : Func} (hf : C.P.funcs[f]? = some fn) {args : List TV} {h : Heap} {R : Value → Heap → Prop} (hv : vcFn C fn args h R) : CallsX C.strict C.P f (TVs.vals args) h R := by
  intro w hw
  subst hw
  unfold vcFn at hv
  split at hv
  · rename_i c hc
    refine calls_of_wp hf hc (Code.wp_mono (fun e a' w' hq => ?_) (vc_sound hC c _ _ _ w hv (initEnv_ok args fn.ntmps)))
    obtain ⟨h1, env', h2, h3, h4⟩ := hq
    have key : vcRet C fn.results.toList env' w'.heap (fun ts => R (retVal ts) w'.heap) → a'.defers = [] ∧ ∃ v, (results fn a'.tmps).run C.P w' = .ok v w' ∧ (EnvS C.strict w w' ∧ ∃ v', Ending.returned v = .returned v' ∧ R v' w'.heap) := by
      intro hr
      obtain ⟨ts, g1, g2⟩ := vcRet_sound hC h2 w' _ _ hr
      refine ⟨h2.defers, retVal ts, ?_, h1, _, rfl, g1⟩
      rw [results_eq]
      have hm : (fn.results.mapM (resOne a'.tmps)).run C.P w' = .ok (TVs.vals ts).toArray w' := by
        rw [Array.mapM_eq_mapM_toList]
        simp [g2]
      rw [Sem.run_bind, hm]
      simp only [Result.andThen_ok, Sem.run_pure]
      congr 1
      match ts with
      | [] => rfl
      | [t] => rfl
      | t :: u :: ts => rw [dif_neg (by simp [TVs.vals])]; rfl
    cases e with
    | normal => exact key h4
    | ret => exact key h4
    | exit _ => exact h4.elim
    | goto _ => exact h4.elim
    | panic _ => exact h4.elim
    | outgrown => exact h4.elim
  · exact hv.elim

end
end Go.Vc
end

section
/- A context out of a program. -/
namespace Go.Vc
open Go

def entB (P : Program) (f : FuncId) : Bool :=
  match P.funcs[f]? with
  | some fn => fn.body.isSome
  | none => false

def nameOk (P : Program) (f : FuncId) : Bool :=
  match P.funcs[f]? with
  | some fn => !(fn.name == "runtime.NumGoroutine")
  | none => true

def Ctx.of (P : Program) (n nf : Nat) : Ctx := { P, tab := (List.range n).map (TI.of P), ent := (List.range nf).map (entB P) }

def okSize (P : Program) (t : TypeId) : Bool :=
  isTup (P.underlying t) || (Nat.beq (shOf P 20 t).size (P.cellsOf t) && Nat.beq (zOf P 20 t).size (P.cellsOf t))

theorem Ctx.ok_of {P : Program} {n nf : Nat} (hz : (List.range n).map (fun t => (P.info? t).bind (·.zero)) = (List.range n).map (fun t => some (zOf P 20 t).val))
    (hs : (List.range n).all (okSize P) = true) (hm : P.follows .mixedOrders = true) (hn : (List.range nf).all (nameOk P) = true) : (Ctx.of P n nf).Ok := by
  have hti : ∀ t, t < n → (Ctx.of P n nf).ti t = TI.of P t := fun t ht => by
    simp [Ctx.ti, Ctx.of, List.getD_eq_getElem?_getD, ht]
  refine ⟨fun t ht => hti t (by simpa [Ctx.of] using ht), fun t ht hd => ?_, fun t ht => ?_, fun f hf => ?_, hm⟩
  · have ht' : t < n := by simpa [Ctx.of] using ht
    have hz' := congrArg (fun l => l[t]?) hz
    simp only [List.getElem?_map, List.getElem?_range ht', Option.map_some, Option.some.injEq] at hz'
    cases hi : P.info? t with
    | none => rw [hi] at hz'; cases hz'
    | some i =>
      rw [hi] at hz'
      refine ⟨i, hi, .inr ?_⟩
      rw [hti t ht']
      exact hz'
  · have ht' : t < n := by simpa [Ctx.of] using ht
    have := List.all_eq_true.1 hs t (List.mem_range.2 ht')
    rw [hti t ht']
    unfold okSize at this
    simp only [Bool.or_eq_true, Bool.and_eq_true] at this
    rcases this with h1 | h1
    · exact .inl h1
    · exact .inr ⟨Nat.eq_of_beq_eq_true h1.1, Nat.eq_of_beq_eq_true h1.2⟩
  · have hl : f < nf := by
      rcases Nat.lt_or_ge f nf with hl | hl
      · exact hl
      · simp only [Ctx.of, List.getD_eq_getElem?_getD] at hf
        rw [List.getElem?_eq_none (by simpa using hl)] at hf; simp at hf
    have : entB P f = true := by
      simp only [Ctx.of, List.getD_eq_getElem?_getD, List.getElem?_map] at hf
      simpa [hl] using hf
    have hnm := List.all_eq_true.1 hn f (List.mem_range.2 hl)
    unfold entB at this
    unfold nameOk at hnm
    split at this
    · rename_i fn hfn
      rw [hfn] at hnm
      exact ⟨fn, hfn, this, by simpa using hnm⟩
    · cases this

end Go.Vc
end

section
/- Small laws for proving conditions. -/
namespace Go.Vc
open Go

theorem If.yes {p q : Prop} (hp : p) : If true p q := hp
theorem If.no {p q : Prop} (hq : q) : If false p q := hq

/-! ### Reading -/

theorem at1_fun {h : Heap} {b o : Nat} {u v : Value} (h1 : at1 h b o u) (h2 : at1 h b o v) : u = v := Option.some.inj (h1.symm.trans h2)

theorem ex_int {h : Heap} {b o : Nat} {k : IntKind} {n0 : Int} (hc : at1 h b o (.int k n0)) {P : Int → Prop} (hp : P n0) : ∃ n, at1 h b o (.int k n) ∧ P n := ⟨n0, hc, hp⟩
theorem ex_ptr {h : Heap} {b o : Nat} {p : Option Loc} (hc : at1 h b o (.pointer (p.map Loc.addr))) {P : Option Loc → Prop} (hp : P p) : ∃ n : Option Loc, at1 h b o (.pointer (n.map Loc.addr)) ∧ P n := ⟨p, hc, hp⟩
theorem ex_slice {h : Heap} {b o : Nat} {s : Sl} (hc : at1 h b o (slVal s)) {P : Sl → Prop} (hp : P s) : ∃ n, at1 h b o (slVal n) ∧ P n := ⟨s, hc, hp⟩

theorem at1_ext {h h' : Heap} (e : Ext h h') {b o : Nat} {v : Value} (ha : at1 h b o v) : at1 h' b o v := by
  unfold at1 at *
  rw [e.cel (cel_lt ha), ha]

theorem atBytes_ext {h h' : Heap} (e : Ext h h') {b o n : Nat} {x : Bs n} (ha : atBytes h b o n x) : atBytes h' b o n x := fun j hj => by
  rw [e.cel (cel_lt (ha j hj)), ha j hj]

/-! ### Rows -/

theorem at1_row {h : Heap} {b o : Nat} {vs : List Value} {T : TypeId} {v : Value} (hb : h[b]? = some (row vs T)) (hv : vs[o]? = some v) : at1 h b o v := by
  unfold at1 cel row at *
  rw [hb]
  simpa using hv

theorem wok_row {h : Heap} {b o n : Nat} {vs : List Value} {T : TypeId} (hb : h[b]? = some (row vs T)) (hn : o + n ≤ vs.length) : wok h b o n := fun j hj => by
  unfold cel frz row at *
  rw [hb]
  have : o + j < vs.length := by omega
  simp [this]

theorem row_lt {h : Heap} {b : Nat} {x : Obj} (hb : h[b]? = some x) : b < h.size := (Array.getElem?_eq_some_iff.1 hb).1

/-- Only blocks of S may have changed of those that stood. -/
structure Only (S : Nat → Prop) (h h' : Heap) : Prop where
  size : h.size ≤ h'.size
  same : ∀ b, b < h.size → ¬ S b → h'[b]? = h[b]?

theorem Only.refl (S : Nat → Prop) (h : Heap) : Only S h h := ⟨Nat.le_refl _, fun _ _ _ => rfl⟩
theorem Only.of_ext {S : Nat → Prop} {h h' : Heap} (e : Ext h h') : Only S h h' := ⟨e.size, fun b hb _ => e.same b hb⟩
theorem Only.trans {S : Nat → Prop} {a b c : Heap} (h : Only S a b) (k : Only S b c) : Only S a c := ⟨Nat.le_trans h.size k.size, fun i hi hs => (k.same i (Nat.lt_of_lt_of_le hi h.size) hs).trans (h.same i hi hs)⟩
theorem Only.mono {S S' : Nat → Prop} {a b : Heap} (h : Only S a b) (hs : ∀ i, S i → S' i) : Only S' a b := ⟨h.size, fun i hi hn => h.same i hi (fun hx => hn (hs i hx))⟩
theorem Only.ext {S : Nat → Prop} {a b : Heap} (h : Only S a b) (hs : ∀ i, i < a.size → ¬ S i) : Ext a b := ⟨h.size, fun i hi => h.same i hi (hs i hi)⟩
/-- Blocks of the call's own don't count. -/
theorem Only.cut {S : Nat → Prop} {a b c : Heap} (e : Ext a b) (h : Only S b c) (hs : ∀ i, S i → a.size ≤ i) : Ext a c :=
  ⟨Nat.le_trans e.size h.size, fun i hi => (h.same i (Nat.lt_of_lt_of_le hi e.size) (fun hx => by have := hs i hx; omega)).trans (e.same i hi)⟩

/-! ### New rows -/

theorem newTV_get (h : Heap) (t : TV) (T : TypeId) : (newTV h t T)[h.size]? = some (row t.cells T) := by simp [newTV]
theorem newTV_ext (h : Heap) (t : TV) (T : TypeId) : Ext h (newTV h t T) := Ext.push h _
theorem newTV_size (h : Heap) (t : TV) (T : TypeId) : (newTV h t T).size = h.size + 1 := by simp [newTV]
theorem push_get (h : Heap) (x : Obj) : (h.push x)[h.size]? = some x := by simp

/-! ### Putting -/

theorem putl_get : ∀ (vs : List Value) (h : Heap) (b o : Nat) (us : List Value) (T : TypeId), h[b]? = some (row us T) → o + vs.length ≤ us.length →
    (putl h b o vs)[b]? = some (row (us.take o ++ vs ++ us.drop (o + vs.length)) T) ∧ (putl h b o vs).size = h.size ∧ ∀ b', b' ≠ b → (putl h b o vs)[b']? = h[b']?
  | [], h, b, o, us, T, hb, hl => by simp [putl, hb]
  | v :: vs, h, b, o, us, T, hb, hl => by
    simp only [List.length_cons] at hl
    have h1 : (putc h b o v)[b]? = some (row (us.set o v) T) := by
      unfold putc row at *
      rw [Array.getElem?_modify, if_pos rfl, hb]
      simp
    have h2 : (putc h b o v).size = h.size := by simp [putc]
    have h3 : ∀ b', b' ≠ b → (putc h b o v)[b']? = h[b']? := fun b' hb' => by
      unfold putc
      rw [Array.getElem?_modify, if_neg (Ne.symm hb')]
    obtain ⟨g1, g2, g3⟩ := putl_get vs (putc h b o v) b (o + 1) (us.set o v) T h1 (by simp; omega)
    refine ⟨?_, by simp only [putl]; rw [g2, h2], fun b' hb' => by simp only [putl]; rw [g3 b' hb', h3 b' hb']⟩
    simp only [putl]
    rw [g1]
    congr 2
    have hlo : o < us.length := by omega
    have e1 : (us.set o v).take (o + 1) = us.take o ++ [v] := by
      rw [List.take_add_one, List.take_set_of_le (Nat.le_refl _), List.getElem?_set, if_pos rfl, if_pos hlo]
      rfl
    have e2 : (us.set o v).drop (o + 1 + vs.length) = us.drop (o + (vs.length + 1)) := by
      rw [List.drop_set, if_pos (by omega)]
      congr 1
      omega
    rw [e1, e2]
    simp

theorem put_row {h : Heap} {b o : Nat} {us : List Value} {T : TypeId} {t : TV} (hb : h[b]? = some (row us T)) (hl : o + t.size ≤ us.length) :
    (t.put h b o)[b]? = some (row (us.take o ++ t.cells ++ us.drop (o + t.size)) T) := by
  have := (putl_get t.cells h b o us T hb (by rw [TV.cells_length]; exact hl)).1
  rw [TV.cells_length] at this
  exact this

theorem put_only {h : Heap} {b o : Nat} {us : List Value} {T : TypeId} {t : TV} (hb : h[b]? = some (row us T)) (hl : o + t.size ≤ us.length) : Only (· = b) h (t.put h b o) := by
  have := putl_get t.cells h b o us T hb (by rw [TV.cells_length]; exact hl)
  exact ⟨by rw [TV.put, this.2.1]; exact Nat.le_refl _, fun b' _ hn => this.2.2 b' hn⟩

theorem put_size {h : Heap} {b o : Nat} {us : List Value} {T : TypeId} {t : TV} (hb : h[b]? = some (row us T)) (hl : o + t.size ≤ us.length) : (t.put h b o).size = h.size :=
  (putl_get t.cells h b o us T hb (by rw [TV.cells_length]; exact hl)).2.1

/-! ### Numbers -/

theorem wrap_i64 {n : Int} (h0 : -9223372036854775808 ≤ n) (h1 : n ≤ 9223372036854775807) : IntKind.wrap .i64 n = n := IntWalk.i64_in n ⟨h0, h1⟩

theorem mn_eq (a b : Int) : mn a b = min a b := by unfold mn; omega
theorem mx_eq (a b : Int) : mx a b = max a b := by unfold mx; omega

theorem byte_i64 {n : Int} (h : (Lit.int .i64 n).wf = true) : -9223372036854775808 ≤ n ∧ n ≤ 9223372036854775807 := by
  simp only [Lit.wf, Bool.and_eq_true, decide_eq_true_eq] at h
  exact h

/-- A slice of integers. -/
structure Ints (k : IntKind) (h : Heap) (s : Sl) (zs : List Int) : Prop where
  len : zs.length = s.len
  nil : s.a = none → zs = []
  get : ∀ l, s.a = some l → ∀ i (hi : i < zs.length), at1 h l.b (l.o + i) (.int k zs[i])
  fit : ∀ n ∈ zs, (Lit.int k n).wf = true
  low : ∀ l, s.a = some l → zs ≠ [] → l.b < h.size

theorem Ints.ext {k : IntKind} {h h' : Heap} {s : Sl} {zs : List Int} (hz : Ints k h s zs) (e : Ext h h') : Ints k h' s zs :=
  ⟨hz.len, hz.nil, fun l hl i hi => at1_ext e (hz.get l hl i hi), hz.fit, fun l hl hn => Nat.lt_of_lt_of_le (hz.low l hl hn) e.size⟩

theorem Ints.read {k : IntKind} {h : Heap} {s : Sl} {zs : List Int} (hz : Ints k h s zs) {i : Int} (h0 : 0 ≤ i) (h1 : i < s.len) {K : Loc → Prop}
    (hk : ∀ l, s.a = some l → (∀ n, (Lit.int k n).wf = true → at1 h l.b (l.o + i.toNat * 1) (.int k n) → zs[i.toNat]? = some n → K l)) : Nn s.a K := by
  have hl := hz.len
  cases ha : s.a with
  | none => have := hz.nil ha; subst this; simp at hl; omega
  | some l =>
    have hi : i.toNat < zs.length := by omega
    refine hk l ha zs[i.toNat] (hz.fit _ (List.getElem_mem _)) ?_ (by simp [hi])
    rw [Nat.mul_one]
    exact hz.get l ha _ hi

/-! ### From a heap to worlds -/

theorem below_of {s : Bool} {w w' : World} (hs : EnvS s w w') (e : Ext w.heap w'.heap) : Go.RowKit.Below w.heap.size w w' := ⟨hs.os, hs.tape, hs.output, e.size, e.same⟩

theorem CallsH.fin {P : Program} {f : FuncId} {args : List Value} {w : World} (hc : CallsH P f args w.heap (fun v h' => v = .bool true ∧ Ext w.heap h')) :
    Calls P f args.toArray w fun e w' => e = .returned (.bool true) ∧ Go.RowKit.Below w.heap.size w w' :=
  (hc w rfl).mono fun _ _ ⟨se, _, he, hv, ex⟩ => ⟨by rw [he, hv], below_of se ex⟩

theorem cel_of_cell {w : World} {x : Addr} {v : Value} (hs : x.spot = none) {i : Nat} (h : w.cell? (x.add i) = some v) : cel w.heap x.block (x.off + i) = some v := by
  have e : x.add i = ⟨x.block, x.off + i, none⟩ := by
    unfold Addr.add
    cases x
    simp only at hs
    subst hs
    split
    · subst i; rfl
    · rfl
  rw [e] at h
  unfold World.cell? at h
  unfold cel
  split at h
  · simp_all
  · cases h

/-- A slice of integers that came in. -/
theorem ints_of {w : World} {k : IntKind} {a : Option Addr} {len cap : Nat} {zs : List Int} (hs : ∀ x, a = some x → x.spot = none)
    (h : (a = none ∧ len = 0 ∧ cap = 0 ∧ zs = []) ∨ ∃ x, a = some x ∧ len ≤ cap ∧ cap ≤ maxLen ∧ zs.length = cap ∧ (∀ i, i < zs.length → w.cell? (x.add i) = some (.int k (zs.getD i 0))) ∧ ∀ n ∈ zs, (Lit.int k n).wf = true) :
    ∃ s : Sl, Value.slice a len cap = slVal s ∧ s.len = len ∧ s.cap = cap ∧ Ints k w.heap s (zs.take len) := by
  rcases h with ⟨rfl, rfl, rfl, rfl⟩ | ⟨x, rfl, hl, _, hz, hc, hw⟩
  · exact ⟨⟨none, 0, 0⟩, rfl, rfl, rfl, ⟨rfl, fun _ => rfl, fun _ h => by (cases h), fun _ h => by (cases h), fun _ h => by (cases h)⟩⟩
  · have hx := hs x rfl
    have hg : ∀ i (hi : i < (zs.take len).length), at1 w.heap x.block (x.off + i) (.int k (zs.take len)[i]) := fun i hi => by
      have h1 : i < zs.length := by simp at hi; omega
      have := cel_of_cell hx (hc i h1)
      unfold at1
      rw [this]
      simp [h1]
    refine ⟨⟨some ⟨x.block, x.off⟩, len, cap⟩, ?_, rfl, rfl, ⟨by simp [hz, hl], fun h => by (cases h), ?_, fun n hn => hw n (List.mem_of_mem_take hn), ?_⟩⟩
    · cases x
      simp only at hx
      subst hx
      rfl
    · rintro l ⟨rfl⟩ i hi
      exact hg i hi
    · rintro l ⟨rfl⟩ hn
      exact cel_lt (hg 0 (List.length_pos_iff.2 hn))

theorem okWide_spot {P : Program} {w : World} {r : Reach} {base : Nat} {t e : TypeId} (ht : P.underlying t = some (.slice e)) {a : Addr} {len cap : Nat} (h : Value.okWide P w r base t (.slice (some a) len cap)) : a.spot = none := by
  unfold Value.okWide at h
  rw [ht] at h
  simp only at h
  unfold Cell.okWide at h
  rw [ht] at h
  simp only at h
  unfold Cell.ok at h
  rw [ht] at h
  exact h.2.2.2.1

end Go.Vc
end

section
/- Slices in memory: what stands in them, and what append makes of them. -/
namespace Go.Vc
open Go

theorem TVs.cells_append : ∀ a b : List TV, TVs.cells (a ++ b) = TVs.cells a ++ TVs.cells b
  | [], b => rfl
  | x :: a, b => by simp only [List.cons_append, TVs.cells, TVs.cells_append a b, List.append_assoc]

theorem TVs.cells_uniform {sz : Nat} : ∀ ts : List TV, (∀ t ∈ ts, t.size = sz) → (TVs.cells ts).length = ts.length * sz
  | [], _ => by simp [TVs.cells]
  | x :: a, h => by
    simp only [TVs.cells, List.length_append, List.length_cons, TV.cells_length, h x (List.mem_cons_self ..), TVs.cells_uniform a (fun t ht => h t (List.mem_cons_of_mem _ ht)), Nat.succ_mul]
    omega

theorem TVs.cells_get {sz : Nat} : ∀ (ts : List TV) (i j : Nat) (t : TV), (∀ t ∈ ts, t.size = sz) → ts[i]? = some t → j < sz → (TVs.cells ts)[i * sz + j]? = t.cells[j]?
  | [], i, j, t, _, ht, _ => by simp at ht
  | x :: a, 0, j, t, h, ht, hj => by
    simp only [List.getElem?_cons_zero, Option.some.injEq] at ht
    subst ht
    have := h x (List.mem_cons_self ..)
    simp only [TVs.cells, Nat.zero_mul, Nat.zero_add]
    rw [List.getElem?_append_left (by rw [TV.cells_length]; omega)]
  | x :: a, i + 1, j, t, h, ht, hj => by
    simp only [List.getElem?_cons_succ] at ht
    have hx := h x (List.mem_cons_self ..)
    simp only [TVs.cells]
    rw [List.getElem?_append_right (by rw [TV.cells_length, hx, Nat.succ_mul]; omega), TV.cells_length, hx]
    have : (i + 1) * sz + j - sz = i * sz + j := by rw [Nat.succ_mul]; omega
    rw [this]
    exact TVs.cells_get a i j t (fun t ht => h t (List.mem_cons_of_mem _ ht)) ht hj

/-- What stands in a slice. -/
structure Elems (sz : Nat) (h : Heap) (s : Sl) (ts : List TV) : Prop where
  len : ts.length = s.len
  nil : s.a = none → ts = []
  get : ∀ l, s.a = some l → ∀ (i : Nat) (t : TV), ts[i]? = some t → t.at h l.b (l.o + i * sz)

theorem Elems.ext {sz : Nat} {h h' : Heap} {s : Sl} {ts : List TV} (he : Elems sz h s ts) (e : Ext h h') : Elems sz h' s ts :=
  ⟨he.len, he.nil, fun l hl i t ht => TV.at_ext e (he.get l hl i t ht)⟩

theorem TV.at_only {S : Nat → Prop} {h h' : Heap} (e : Only S h h') {b o : Nat} {t : TV} (hb : ¬ S b) (ha : t.at h b o) : t.at h' b o := by
  rw [TV.at_iff] at ha ⊢
  intro j hj
  have h1 := ha j hj
  have hl : j < t.cells.length := by rw [TV.cells_length]; exact hj
  rw [List.getElem?_eq_getElem hl] at h1 ⊢
  have := e.same b (cel_lt h1) hb
  unfold cel at h1 ⊢
  rw [this]
  exact h1

theorem at1_only {S : Nat → Prop} {h h' : Heap} (e : Only S h h') {b o : Nat} {v : Value} (hb : ¬ S b) (ha : at1 h b o v) : at1 h' b o v := by
  have := e.same b (cel_lt ha) hb
  unfold at1 cel at *
  rw [this]
  exact ha

theorem Elems.only {sz : Nat} {S : Nat → Prop} {h h' : Heap} {s : Sl} {ts : List TV} (he : Elems sz h s ts) (e : Only S h h') (hs : ∀ l, s.a = some l → ¬ S l.b) : Elems sz h' s ts :=
  ⟨he.len, he.nil, fun l hl i t ht => TV.at_only e (hs l hl) (he.get l hl i t ht)⟩

theorem Elems.read {sz : Nat} {h : Heap} {s : Sl} {ts : List TV} (he : Elems sz h s ts) {i : Int} (h0 : 0 ≤ i) (h1 : i < s.len) {K : Loc → Prop}
    (hk : ∀ l t, s.a = some l → ts[i.toNat]? = some t → t.at h l.b (l.o + i.toNat * sz) → K l) : 0 ≤ i ∧ i < s.len ∧ Nn s.a K := by
  refine ⟨h0, h1, ?_⟩
  have hl := he.len
  have hi : i.toNat < ts.length := by omega
  cases ha : s.a with
  | none => have := he.nil ha; subst this; simp at hi
  | some l => exact hk l ts[i.toNat] ha (by simp [hi]) (he.get l ha _ _ (by simp [hi]))

theorem Elems.nil_ (sz : Nat) (h : Heap) : Elems sz h Sl.nil [] := ⟨rfl, fun _ => rfl, fun l hl => by cases hl⟩

/-- A slice that has its row for itself. -/
structure Own (T : TypeId) (sz : Nat) (h : Heap) (s : Sl) (ts : List TV) : Prop where
  size : ∀ t ∈ ts, t.size = sz
  len : ts.length = s.len
  cap : s.len ≤ s.cap
  row : (s = Sl.nil) ∨ ∃ b rest, s.a = some ⟨b, 0⟩ ∧ h[b]? = some (Go.Vc.row (TVs.cells ts ++ rest) T) ∧ rest.length = (s.cap - s.len) * sz

theorem Own.nil (T : TypeId) (sz : Nat) (h : Heap) : Own T sz h Sl.nil [] := ⟨(fun t ht => by cases ht), rfl, Nat.le_refl _, .inl rfl⟩

theorem Own.lt {T : TypeId} {sz : Nat} {h : Heap} {s : Sl} {ts : List TV} (o : Own T sz h s ts) : ∀ l, s.a = some l → l.b < h.size := fun l hl => by
  rcases o.row with rfl | ⟨b, rest, ha, hb, _⟩
  · cases hl
  · rw [ha] at hl; cases hl; exact row_lt hb

theorem Own.elems {T : TypeId} {sz : Nat} {h : Heap} {s : Sl} {ts : List TV} (o : Own T sz h s ts) : Elems sz h s ts := by
  refine ⟨o.len, fun hn => ?_, fun l hl i t ht => ?_⟩
  · rcases o.row with rfl | ⟨b, rest, ha, _⟩
    · exact List.eq_nil_of_length_eq_zero o.len
    · rw [ha] at hn; cases hn
  · rcases o.row with rfl | ⟨b, rest, ha, hb, _⟩
    · cases hl
    · rw [ha] at hl
      cases hl
      rw [TV.at_iff]
      intro j hj
      have hsz := o.size t (List.mem_of_getElem? ht)
      have hcel := TVs.cells_get ts i j t o.size ht (by omega)
      have hlen := TVs.cells_uniform ts o.size
      have hi : i < ts.length := (List.getElem?_eq_some_iff.1 ht).1
      have hlt : i * sz + j < (TVs.cells ts).length := by
        rw [hlen]
        have : (i + 1) * sz ≤ ts.length * sz := Nat.mul_le_mul_right _ hi
        rw [Nat.succ_mul] at this
        omega
      unfold cel
      rw [hb]
      simp only [Go.Vc.row, Nat.zero_add]
      rw [List.getElem?_toArray, List.getElem?_append_left hlt, hcel]

theorem Own.only {T : TypeId} {sz : Nat} {S : Nat → Prop} {h h' : Heap} {s : Sl} {ts : List TV} (o : Own T sz h s ts) (e : Only S h h') (hs : ∀ l, s.a = some l → ¬ S l.b) : Own T sz h' s ts := by
  refine ⟨o.size, o.len, o.cap, ?_⟩
  rcases o.row with h1 | ⟨b, rest, ha, hb, hr⟩
  · exact .inl h1
  · exact .inr ⟨b, rest, ha, by rw [e.same b (row_lt hb) (hs _ ha), hb], hr⟩

theorem Own.ext {T : TypeId} {sz : Nat} {h h' : Heap} {s : Sl} {ts : List TV} (o : Own T sz h s ts) (e : Ext h h') : Own T sz h' s ts :=
  o.only (S := fun _ => False) (Only.of_ext e) (fun _ _ h => h)

/-- A row made just now. -/
theorem Own.new {T : TypeId} {sz : Nat} (h : Heap) (ts : List TV) (hs : ∀ t ∈ ts, t.size = sz) : Own T sz (h.push (Go.Vc.row (TVs.cells ts) T)) ⟨some ⟨h.size, 0⟩, ts.length, ts.length⟩ ts :=
  ⟨hs, rfl, Nat.le_refl _, .inr ⟨h.size, [], rfl, by simp, by simp⟩⟩

theorem zeros_length {z : TV} {n : Nat} : (zeros z n).length = n * z.size := by
  induction n with
  | zero => simp [zeros]
  | succ n ih => simp only [zeros, List.length_append, TV.cells_length, ih, Nat.succ_mul]; omega

/-- One element more. -/
theorem append1 {C : Ctx} {T : TypeId} {sz : Nat} {h : Heap} {s : Sl} {ts : List TV} {x : TV} {K : Sl → Heap → Prop} (hsz : (C.ti T).size = sz) (hz : (C.ti T).z.size = sz) (hpos : 0 < (C.ti T).bytes)
    (hb : (s.len + 1) * (C.ti T).bytes ≤ 70368744177664) (o : Own T sz h s ts) (hx : x.size = sz) (hp : x.plain = true)
    (hk : ∀ s' h', Own T sz h' s' (ts ++ [x]) → Only (fun b => ∃ l, s.a = some l ∧ l.b = b) h h' → (∀ l, s'.a = some l → (∃ l', s.a = some l' ∧ l'.b = l.b) ∨ h.size ≤ l.b) → K s' h') :
    ∃ new, slAt (h.push (row (TVs.cells [x]) T)) (Sl.mk (some (Loc.mk h.size 0)) 1 1) sz new ∧ (∀ v ∈ new, isOne v = true) ∧ vcAppend C T s 1 new (h.push (row (TVs.cells [x]) T)) K := by
  have hcx : TVs.cells [x] = x.cells := by simp [TVs.cells]
  have hlx : x.cells.length = sz := by rw [TV.cells_length, hx]
  refine ⟨x.cells, ⟨by simp [hlx], .inr ⟨_, rfl, fun j hj => ?_⟩⟩, TV.plain_cells x hp, ?_⟩
  · unfold cel
    simp [row, hcx]
  have e1 : Ext h (h.push (row (TVs.cells [x]) T)) := Ext.push h _
  have o1 := o.ext e1
  have hsize : ∀ t ∈ ts ++ [x], t.size = sz := fun t ht => by
    rcases List.mem_append.1 ht with h1 | h1
    · exact o.size t h1
    · simp only [List.mem_singleton] at h1; rw [h1]; exact hx
  have hlen := TVs.cells_uniform ts o.size
  have hcells : TVs.cells (ts ++ [x]) = TVs.cells ts ++ x.cells := by rw [TVs.cells_append, hcx]
  refine ⟨TVs.cells ts, ?_, hb, hpos, ?_, ?_, ?_⟩
  · rw [hsz]
    refine ⟨by rw [hlen, o.len], ?_⟩
    rcases o1.row with rfl | ⟨b, rest, ha, hbk, _⟩
    · exact .inl ⟨rfl, rfl⟩
    · refine .inr ⟨_, ha, fun j hj => ?_⟩
      unfold cel
      rw [hbk]
      simp only [row, Nat.zero_add]
      rw [List.getElem?_toArray, List.getElem?_append_left hj]
  · intro hroom
    rcases o1.row with rfl | ⟨b, rest, ha, hbk, hr⟩
    · simp [Sl.nil] at hroom
    · refine ⟨.inr (by rw [ha]; rfl), fun l hl => ?_⟩
      rw [ha] at hl
      cases hl
      rw [hsz]
      simp only [Nat.zero_add]
      have hrl : x.cells.length ≤ rest.length := by
        rw [hlx, hr]
        exact Nat.le_mul_of_pos_left _ (by omega)
      refine ⟨wok_row hbk (by simp only [List.length_append, hlen, ← o.len]; omega), ?_⟩
      obtain ⟨g1, g2, g3⟩ := putl_get x.cells (h.push (row (TVs.cells [x]) T)) b (s.len * sz) _ T hbk (by simp only [List.length_append, hlen, ← o.len]; omega)
      refine hk _ _ ⟨hsize, by simp [o.len], by simp only; omega, .inr ⟨b, rest.drop sz, rfl, ?_, by simp only [List.length_drop, hr]; rw [← Nat.sub_sub, Nat.sub_mul (s.cap - s.len), Nat.one_mul]⟩⟩ ?_ ?_
      · rw [g1, hcells, ← o.len]
        congr 1
        congr 1
        rw [← hlen]
        simp [hlx]
      · refine ⟨by rw [g2]; exact e1.size, fun b' hb' hn => ?_⟩
        rw [g3 b' (fun hx => hn ⟨_, ha, hx.symm⟩), e1.same b' hb']
      · intro l hl
        cases hl
        exact .inl ⟨_, ha, rfl⟩
  · intro hroom hn
    rcases o1.row with rfl | ⟨b, rest, ha, _⟩
    · simp [Sl.nil] at hroom
    · rw [ha] at hn; cases hn
  · intro hroom c hc
    have hh : (h.push (row (TVs.cells [x]) T)).size = h.size + 1 := by simp
    refine hk _ _ ⟨hsize, by simp [o.len], hc, .inr ⟨_, zeros (C.ti T).z (c - (s.len + 1)), rfl, ?_, ?_⟩⟩ ?_ ?_
    · rw [push_get, hcells]
    · rw [zeros_length, hz]
    · refine Only.of_ext (e1.trans (Ext.push _ _))
    · intro l hl
      cases hl
      right
      simp only
      omega

end Go.Vc
end

section
/- Variables in memory: a block that holds one value. -/
namespace Go.Vc
open Go

/-- A block of its own holds a value. -/
def Var (T : TypeId) (h : Heap) (b : Nat) (t : TV) : Prop := h[b]? = some (row t.cells T)

theorem Var.lt {T : TypeId} {h : Heap} {b : Nat} {t : TV} (v : Var T h b t) : b < h.size := row_lt v
theorem Var.only {T : TypeId} {S : Nat → Prop} {h h' : Heap} {b : Nat} {t : TV} (v : Var T h b t) (o : Only S h h') (hs : ¬ S b) : Var T h' b t := (o.same b v.lt hs).trans v
theorem Var.ext {T : TypeId} {h h' : Heap} {b : Nat} {t : TV} (v : Var T h b t) (e : Ext h h') : Var T h' b t := (e.same b v.lt).trans v
theorem Var.at {T : TypeId} {h : Heap} {b : Nat} {t : TV} (v : Var T h b t) : t.at h b 0 := by
  rw [TV.at_iff]
  intro j hj
  unfold cel
  rw [v]
  simp [row]
theorem Var.at1 {T : TypeId} {h : Heap} {b o : Nat} {t : TV} {x : Value} (v : Var T h b t) (hx : t.cells[o]? = some x) : Go.Vc.at1 h b o x := at1_row v hx
theorem Var.bytes {T : TypeId} {h : Heap} {b n : Nat} {x : Bs n} (v : Var T h b (.bytes n x)) : atBytes h b 0 n x := v.at
theorem Var.wok {T : TypeId} {h : Heap} {b o n : Nat} {t : TV} (v : Var T h b t) (hn : o + n ≤ t.size) : Go.Vc.wok h b o n := wok_row v (by rw [TV.cells_length]; exact hn)

theorem newTV_spec (h : Heap) (t : TV) (T : TypeId) : ∃ h1, newTV h t T = h1 ∧ Var T h1 h.size t ∧ Ext h h1 ∧ h1.size = h.size + 1 :=
  ⟨_, rfl, newTV_get h t T, newTV_ext h t T, newTV_size h t T⟩

theorem put_spec {T : TypeId} {h : Heap} {b : Nat} {t0 : TV} (v : Var T h b t0) (t : TV) (hs : t.size = t0.size) : ∃ h1, t.put h b 0 = h1 ∧ Var T h1 b t ∧ Only (· = b) h h1 ∧ h1.size = h.size := by
  have hl : 0 + t.size ≤ t0.cells.length := by rw [TV.cells_length, hs]; omega
  refine ⟨_, rfl, ?_, put_only v hl, put_size v hl⟩
  have := put_row (t := t) v hl
  unfold Var
  rw [this]
  congr 1
  congr 1
  rw [List.take_zero, List.nil_append, Nat.zero_add, List.drop_eq_nil_of_le (by rw [TV.cells_length, hs]; exact Nat.le_refl _), List.append_nil]

/-- A new variable, written at once. -/
theorem newput_spec (h : Heap) (t0 t : TV) (T : TypeId) (hs : t.size = t0.size) : wok (newTV h t0 T) h.size 0 t.size ∧ ∃ h1, t.put (newTV h t0 T) h.size 0 = h1 ∧ Var T h1 h.size t ∧ Ext h h1 ∧ h1.size = h.size + 1 := by
  obtain ⟨h1, e1, v1, x1, s1⟩ := newTV_spec h t0 T
  rw [e1]
  refine ⟨v1.wok (by omega), ?_⟩
  obtain ⟨h2, e2, v2, o2, s2⟩ := put_spec v1 t hs
  exact ⟨h2, e2, v2, Only.cut x1 o2 (fun i hi => by omega), by omega⟩

theorem wrap_shift (a q : Int) : IntKind.wrap .i64 (a + 18446744073709551616 * q) = IntKind.wrap .i64 a := by
  have : (a + 18446744073709551616 * q) % 2 ^ IntKind.i64.bits = a % 2 ^ IntKind.i64.bits := by
    show (a + 18446744073709551616 * q) % 2 ^ 64 = a % 2 ^ 64
    omega
  unfold IntKind.wrap
  rw [this]

theorem wrap_off (a : Int) : ∃ q, IntKind.wrap .i64 a = a + 18446744073709551616 * q := by
  have e : a % 2 ^ 64 = a + 18446744073709551616 * (-(a / 18446744073709551616)) := by omega
  unfold IntKind.wrap
  show ∃ q, (if (true && decide (a % 2 ^ 64 ≥ 2 ^ 63)) = true then a % 2 ^ 64 - 2 ^ 64 else a % 2 ^ 64) = _
  split
  · exact ⟨-(a / 18446744073709551616) - 1, by omega⟩
  · exact ⟨_, e⟩

theorem wrap_add (a b : Int) : IntKind.wrap .i64 (IntKind.wrap .i64 a + b) = IntKind.wrap .i64 (a + b) := by
  obtain ⟨q, e⟩ := wrap_off a
  rw [e, ← wrap_shift (a + b) q]
  congr 1
  omega

theorem wrap_add2 (a b : Int) : IntKind.wrap .i64 (a + IntKind.wrap .i64 b) = IntKind.wrap .i64 (a + b) := by
  rw [Int.add_comm, wrap_add, Int.add_comm]

theorem wrap_wrap (a : Int) : IntKind.wrap .i64 (IntKind.wrap .i64 a) = IntKind.wrap .i64 a := by
  have := wrap_add a 0
  simpa using this

theorem ex_bytes {h : Heap} {b o n : Nat} {x : Bs n} (hc : atBytes h b o n x) {P : Bs n → Prop} (hp : P x) : ∃ y, atBytes h b o n y ∧ P y := ⟨x, hc, hp⟩
theorem ex_slice2 {h : Heap} {b o b' o' : Nat} {s s' : Sl} (hc : at1 h b o (slVal s)) (hc' : at1 h b' o' (slVal s')) {P : Sl → Sl → Prop} (hp : P s s') : ∃ n m, (at1 h b o (slVal n) ∧ at1 h b' o' (slVal m)) ∧ P n m := ⟨s, s', ⟨hc, hc'⟩, hp⟩

end Go.Vc
end

section
/- Slices in memory, continued: all of another slice is appended; a copy with one element more. -/
namespace Go.Vc
open Go

theorem Elems.cells {sz : Nat} {h : Heap} {s : Sl} {us : List TV} (e : Elems sz h s us) (hs : ∀ u ∈ us, u.size = sz) (hp : 0 < sz) : slAt h s sz (TVs.cells us) := by
  have hl := TVs.cells_uniform us hs
  refine ⟨by rw [hl, e.len], ?_⟩
  cases ha : s.a with
  | none =>
    left
    have := e.nil ha
    have hlen := e.len
    rw [this] at hlen
    exact ⟨hlen.symm, rfl⟩
  | some l =>
    right
    refine ⟨l, rfl, fun j hj => ?_⟩
    rw [hl] at hj
    have hi : j / sz < us.length := by rw [Nat.div_lt_iff_lt_mul hp]; exact hj
    have hget : us[j / sz]? = some us[j / sz] := List.getElem?_eq_getElem hi
    have hm : j % sz < sz := Nat.mod_lt _ hp
    have hd : j / sz * sz + j % sz = j := by rw [Nat.mul_comm]; exact Nat.div_add_mod j sz
    have h1 := e.get l ha (j / sz) _ hget
    rw [TV.at_iff] at h1
    have h2 := h1 (j % sz) (by rw [hs _ (List.getElem_mem hi)]; exact hm)
    have h3 := TVs.cells_get us (j / sz) (j % sz) _ hs hget hm
    rw [hd] at h3
    rw [h3, ← h2, Nat.add_assoc, hd]

theorem TVs.plain_cells_of {us : List TV} (hp : ∀ u ∈ us, u.plain = true) : ∀ v ∈ TVs.cells us, isOne v = true := by
  induction us with
  | nil => intro v hv; cases hv
  | cons x xs ih =>
    intro v hv
    simp only [TVs.cells, List.mem_append] at hv
    rcases hv with h1 | h1
    · exact TV.plain_cells x (hp x (List.mem_cons_self ..)) v h1
    · exact ih (fun u hu => hp u (List.mem_cons_of_mem _ hu)) v h1

/-- All elements of another slice are appended. -/
theorem appendN {C : Ctx} {T : TypeId} {sz : Nat} {h : Heap} {t s : Sl} {ts us : List TV} {K : Sl → Heap → Prop} (hsz : (C.ti T).size = sz) (hz : (C.ti T).z.size = sz) (hpos : 0 < (C.ti T).bytes) (h0 : 0 < sz)
    (hb : (t.len + s.len) * (C.ti T).bytes ≤ 70368744177664) (o : Own T sz h t ts) (e : Elems sz h s us) (hs : ∀ u ∈ us, u.size = sz) (hp : ∀ u ∈ us, u.plain = true)
    (hk : ∀ t' h', Own T sz h' t' (ts ++ us) → (t.len = t.cap → Ext h h') → Only (fun b => ∃ l, t.a = some l ∧ l.b = b) h h' → (∀ l, t'.a = some l → (∃ l', t.a = some l' ∧ l'.b = l.b) ∨ h.size ≤ l.b) → K t' h') :
    ∃ new, slAt h s sz new ∧ (∀ v ∈ new, isOne v = true) ∧ vcAppend C T t s.len new h K := by
  have hlu := TVs.cells_uniform us hs
  refine ⟨TVs.cells us, e.cells hs h0, TVs.plain_cells_of hp, ?_⟩
  have hsize : ∀ x ∈ ts ++ us, x.size = sz := fun x hx => by
    rcases List.mem_append.1 hx with h1 | h1
    · exact o.size x h1
    · exact hs x h1
  have hlen := TVs.cells_uniform ts o.size
  have elen := e.len
  have olen := o.len
  have ocap := o.cap
  refine ⟨TVs.cells ts, ?_, hb, hpos, ?_, ?_, ?_⟩
  · rw [hsz]
    exact o.elems.cells o.size h0
  · intro hroom
    rcases o.row with rfl | ⟨b, rest, ha, hbk, hr⟩
    · simp only [Sl.nil] at hroom ⊢
      exact ⟨.inl (by omega), fun l hl => by cases hl⟩
    · refine ⟨.inr (by rw [ha]; rfl), fun l hl => ?_⟩
      rw [ha] at hl
      cases hl
      rw [hsz]
      simp only [Nat.zero_add]
      have hcl : s.len * sz ≤ rest.length := by
        rw [hr]
        exact Nat.mul_le_mul_right _ (by omega)
      have hfit : t.len * sz + (TVs.cells us).length ≤ (TVs.cells ts ++ rest).length := by
        simp only [List.length_append, hlen, ← o.len, hlu, elen]
        omega
      refine ⟨wok_row hbk hfit, ?_⟩
      obtain ⟨g1, g2, g3⟩ := putl_get (TVs.cells us) h b (t.len * sz) _ T hbk hfit
      have hcc : TVs.cells (ts ++ us) = TVs.cells ts ++ TVs.cells us := TVs.cells_append _ _
      have hrow : (putl h b (t.len * sz) (TVs.cells us))[b]? = some (Go.Vc.row (TVs.cells (ts ++ us) ++ rest.drop (s.len * sz)) T) := by
        rw [g1, hcc, ← o.len, ← hlen]
        congr 2
        simp [hlu, elen]
      have hrl : (rest.drop (s.len * sz)).length = (t.cap - (t.len + s.len)) * sz := by
        simp only [List.length_drop, hr]
        rw [← Nat.sub_sub, Nat.sub_mul (t.cap - t.len)]
      refine hk _ _ ⟨hsize, by simp [olen, elen], by simp only; omega, .inr ⟨b, rest.drop (s.len * sz), rfl, hrow, hrl⟩⟩ ?_ ?_ ?_
      · intro hfull
        have hs0 : s.len = 0 := by omega
        refine ⟨by rw [g2]; exact Nat.le_refl _, fun b' hb' => ?_⟩
        by_cases hbb : b' = b
        · subst hbb
          have hu0 : us = [] := List.eq_nil_of_length_eq_zero (by omega)
          rw [hrow, hbk, hu0, hs0]
          simp
        · exact g3 b' hbb
      · refine ⟨by rw [g2]; exact Nat.le_refl _, fun b' hb' hn => ?_⟩
        exact g3 b' (fun hx => hn ⟨_, ha, hx.symm⟩)
      · intro l hl
        cases hl
        exact .inl ⟨_, ha, rfl⟩
  · intro hroom hn
    rcases o.row with rfl | ⟨b, rest, ha, _⟩
    · simp only [Sl.nil] at hroom
      have hs0 : s.len = 0 := by omega
      have hu0 : us = [] := List.eq_nil_of_length_eq_zero (by omega)
      have ht0 : ts = [] := List.eq_nil_of_length_eq_zero (by simpa [Sl.nil] using olen)
      rw [hs0]
      refine hk _ _ ?_ (fun _ => Ext.refl _) (Only.refl _ _) (fun l hl => by cases hl)
      rw [hu0, ht0]
      exact Own.nil T sz h
    · rw [ha] at hn; cases hn
  · intro hroom c hc
    refine hk _ _ ⟨hsize, by simp [olen, elen], hc, .inr ⟨_, zeros (C.ti T).z (c - (t.len + s.len)), rfl, ?_, ?_⟩⟩ ?_ ?_ ?_
    · rw [push_get, TVs.cells_append]
    · rw [zeros_length, hz]
    · intro _; exact Ext.push _ _
    · exact Only.of_ext (Ext.push _ _)
    · intro l hl
      cases hl
      right
      exact Nat.le_refl _

/-- A copy with one element more, in all three orders. -/
theorem append_copy {C : Ctx} {T : TypeId} {sz : Nat} {H : Heap} {s : Sl} {us : List TV} {x : TV} {K1 K2 K3 : Sl → Heap → Sl → Heap → Prop} (hsz : (C.ti T).size = sz) (hz : (C.ti T).z.size = sz) (hpos : 0 < (C.ti T).bytes) (h0 : 0 < sz)
    (hb : (s.len + 1) * (C.ti T).bytes ≤ 70368744177664) (e : Elems sz H s us) (hs : ∀ u ∈ us, u.size = sz) (hp : ∀ u ∈ us, u.plain = true) (hx : x.size = sz) (hxp : x.plain = true)
    (hk : ∀ s20 h s21 h7, Own T sz h7 s21 (us ++ [x]) → Ext H h7 → (∀ l, s21.a = some l → H.size ≤ l.b) → K1 s20 h s21 h7 ∧ K2 s20 h s21 h7 ∧ K3 s20 h s21 h7) :
    (Ext H (H.push (row (TVs.cells []) T)) ∧
     (∃ new, slAt (H.push (row (TVs.cells []) T)) s sz new ∧ (∀ v ∈ new, isOne v = true) ∧
       vcAppend C T (Sl.mk (some (Loc.mk H.size 0)) 0 0) s.len new (H.push (row (TVs.cells []) T)) fun s20 h => Ext (H.push (row (TVs.cells []) T)) h ∧ Ext h (h.push (row (TVs.cells [x]) T)) ∧
         ∃ new, slAt (h.push (row (TVs.cells [x]) T)) (Sl.mk (some (Loc.mk h.size 0)) 1 1) sz new ∧ (∀ v ∈ new, isOne v = true) ∧ vcAppend C T s20 1 new (h.push (row (TVs.cells [x]) T)) fun s21 h7 => K1 s20 h s21 h7) ∧
     Ext (H.push (row (TVs.cells []) T)) ((H.push (row (TVs.cells []) T)).push (row (TVs.cells [x]) T)) ∧
     ∃ new, slAt ((H.push (row (TVs.cells []) T)).push (row (TVs.cells [x]) T)) s sz new ∧ (∀ v ∈ new, isOne v = true) ∧
       vcAppend C T (Sl.mk (some (Loc.mk H.size 0)) 0 0) s.len new ((H.push (row (TVs.cells []) T)).push (row (TVs.cells [x]) T)) fun s20 h => Ext ((H.push (row (TVs.cells []) T)).push (row (TVs.cells [x]) T)) h ∧
         ∃ new, slAt h (Sl.mk (some (Loc.mk (H.push (row (TVs.cells []) T)).size 0)) 1 1) sz new ∧ (∀ v ∈ new, isOne v = true) ∧ vcAppend C T s20 1 new h fun s21 h7 => K2 s20 h s21 h7) ∧
    Ext H (H.push (row (TVs.cells [x]) T)) ∧ Ext (H.push (row (TVs.cells [x]) T)) ((H.push (row (TVs.cells [x]) T)).push (row (TVs.cells []) T)) ∧
    ∃ new, slAt ((H.push (row (TVs.cells [x]) T)).push (row (TVs.cells []) T)) s sz new ∧ (∀ v ∈ new, isOne v = true) ∧
       vcAppend C T (Sl.mk (some (Loc.mk (H.push (row (TVs.cells [x]) T)).size 0)) 0 0) s.len new ((H.push (row (TVs.cells [x]) T)).push (row (TVs.cells []) T)) fun s20 h => Ext ((H.push (row (TVs.cells [x]) T)).push (row (TVs.cells []) T)) h ∧
         ∃ new, slAt h (Sl.mk (some (Loc.mk H.size 0)) 1 1) sz new ∧ (∀ v ∈ new, isOne v = true) ∧ vcAppend C T s20 1 new h fun s21 h7 => K3 s20 h s21 h7 := by
  have lb : (0 + s.len) * (C.ti T).bytes ≤ 70368744177664 := Nat.le_trans (Nat.mul_le_mul_right _ (by omega)) hb
  have one : ∀ t ∈ [x], t.size = sz := fun t ht => by rw [List.mem_singleton.1 ht]; exact hx
  have onep : ∀ t ∈ [x], t.plain = true := fun t ht => by rw [List.mem_singleton.1 ht]; exact hxp
  have e1 := Ext.push H (row (TVs.cells []) T)
  have f1 := Ext.push H (row (TVs.cells [x]) T)
  refine ⟨⟨e1, ?_, Ext.push _ _, ?_⟩, f1, Ext.push _ _, ?_⟩
  · have o0 := Own.new (T := T) (sz := sz) H [] (by simp)
    refine appendN hsz hz hpos h0 lb o0 (e.ext e1) hs hp fun t' h' o' x' _ b' => ?_
    have x'' := x' rfl
    have hlen := o'.len
    simp only [List.nil_append] at hlen
    have elen := e.len
    refine ⟨x'', Ext.push _ _, ?_⟩
    have := x''.size
    have := e1.size
    have hbt : ∀ l, t'.a = some l → H.size ≤ l.b := fun l hl => by
      rcases b' l hl with ⟨l', hl', he⟩ | hx
      · cases hl'; rw [← he]; exact Nat.le_refl _
      · omega
    refine append1 hsz hz hpos (by rw [← hlen, elen]; exact hb) o' hx hxp fun s' h7 o7 w7 b7 => (hk t' h' s' h7 (by simpa using o7) (Only.cut (e1.trans x'') w7 ?_) ?_).1
    · rintro b ⟨l, hl, rfl⟩
      exact hbt l hl
    · intro l hl
      rcases b7 l hl with ⟨l', hl', he⟩ | hx
      · rw [← he]; exact hbt l' hl'
      · omega
  · have o0 := (Own.new (T := T) (sz := sz) H [] (by simp)).ext (Ext.push _ (row (TVs.cells [x]) T))
    have e2 := Ext.push (H.push (row (TVs.cells []) T)) (row (TVs.cells [x]) T)
    have ox := Own.new (T := T) (sz := sz) (H.push (row (TVs.cells []) T)) [x] one
    refine appendN hsz hz hpos h0 lb o0 ((e.ext e1).ext e2) hs hp fun t' h' o' x' _ b' => ?_
    have x'' := x' rfl
    have hlen := o'.len
    simp only [List.nil_append] at hlen
    have elen := e.len
    refine ⟨x'', ?_⟩
    have := x''.size
    have := e1.size
    have := e2.size
    have hbt : ∀ l, t'.a = some l → H.size ≤ l.b := fun l hl => by
      rcases b' l hl with ⟨l', hl', he⟩ | hx
      · cases hl'; rw [← he]; exact Nat.le_refl _
      · omega
    refine appendN (s := Sl.mk (some (Loc.mk (H.push (row (TVs.cells []) T)).size 0)) 1 1) hsz hz hpos h0 (by rw [← hlen, elen]; exact hb) o' (ox.elems.ext x'') one onep fun s' h7 o7 _ w7 b7 => (hk t' h' s' h7 (by simpa using o7) (Only.cut ((e1.trans e2).trans x'') w7 ?_) ?_).2.1
    · rintro b ⟨l, hl, rfl⟩
      exact hbt l hl
    · intro l hl
      rcases b7 l hl with ⟨l', hl', he⟩ | hx
      · rw [← he]; exact hbt l' hl'
      · omega
  · have o0 := Own.new (T := T) (sz := sz) (H.push (row (TVs.cells [x]) T)) [] (by simp)
    have e2 := Ext.push (H.push (row (TVs.cells [x]) T)) (row (TVs.cells []) T)
    have ox := (Own.new (T := T) (sz := sz) H [x] one).ext e2
    refine appendN hsz hz hpos h0 lb o0 ((e.ext f1).ext e2) hs hp fun t' h' o' x' _ b' => ?_
    have x'' := x' rfl
    have hlen := o'.len
    simp only [List.nil_append] at hlen
    have elen := e.len
    refine ⟨x'', ?_⟩
    have := x''.size
    have := f1.size
    have := e2.size
    have hbt : ∀ l, t'.a = some l → H.size ≤ l.b := fun l hl => by
      rcases b' l hl with ⟨l', hl', he⟩ | hx
      · cases hl'; rw [← he]; exact f1.size
      · omega
    refine appendN (s := Sl.mk (some (Loc.mk H.size 0)) 1 1) hsz hz hpos h0 (by rw [← hlen, elen]; exact hb) o' (ox.elems.ext x'') one onep fun s' h7 o7 _ w7 b7 => (hk t' h' s' h7 (by simpa using o7) (Only.cut ((f1.trans e2).trans x'') w7 ?_) ?_).2.2
    · rintro b ⟨l, hl, rfl⟩
      exact hbt l hl
    · intro l hl
      rcases b7 l hl with ⟨l', hl', he⟩ | hx
      · rw [← he]; exact hbt l' hl'
      · omega

end Go.Vc
end

section
/- Fields and elements of one cell that are written. -/
namespace Go.Vc
open Go

theorem cells_ones : ∀ (ts : List TV) (i : Nat) (t : TV), (∀ t ∈ ts, t.size = 1) → t.size = 1 → i < ts.length → (TVs.cells ts).take i ++ t.cells ++ (TVs.cells ts).drop (i + 1) = TVs.cells (ts.set i t)
  | [], i, t, _, _, hi => by simp at hi
  | x :: xs, 0, t, h, ht, _ => by
    have hx : x.cells.length = 1 := by rw [TV.cells_length]; exact h x (List.mem_cons_self ..)
    simp only [TVs.cells, List.set_cons_zero, List.take_zero, List.nil_append, Nat.zero_add]
    rw [← hx, List.drop_left]
  | x :: xs, i + 1, t, h, ht, hi => by
    have hx : x.cells.length = 1 := by rw [TV.cells_length]; exact h x (List.mem_cons_self ..)
    obtain ⟨v, hv⟩ := List.length_eq_one_iff.1 hx
    have ih := cells_ones xs i t (fun t ht => h t (List.mem_cons_of_mem _ ht)) ht (by simpa using hi)
    simp only [TVs.cells, List.set_cons_succ, hv, List.cons_append, List.nil_append, List.take_succ_cons, List.drop_succ_cons]
    rw [← ih]

/-- A field of one cell is written. -/
theorem put_field {T : TypeId} {h : Heap} {b i : Nat} {ts : List TV} (v : Var T h b (.agg ts)) (h1 : ∀ t ∈ ts, t.size = 1) (hi : i < ts.length) {t : TV} (ht : t.size = 1) :
    wok h b i 1 ∧ ∃ h1, t.put h b i = h1 ∧ Var T h1 b (.agg (ts.set i t)) ∧ Only (· = b) h h1 ∧ h1.size = h.size := by
  have hlen : (TVs.cells ts).length = ts.length := by rw [TVs.cells_uniform (sz := 1) ts h1, Nat.mul_one]
  have hl : i + t.size ≤ (TV.agg ts).cells.length := by simp only [TV.cells, hlen, ht]; omega
  refine ⟨wok_row v (by rw [← ht]; exact hl), _, rfl, ?_, put_only v hl, put_size v hl⟩
  have := put_row (t := t) v hl
  unfold Var
  rw [this]
  simp only [TV.cells, ht]
  rw [cells_ones ts i t h1 ht hi]

/-- A block in which a slice's row lies. -/
def In (A : Sl) (i : Nat) : Prop := ∃ l, A.a = some l ∧ l.b = i

/-- An element of one cell is written. -/
theorem Own.set {T : TypeId} {h : Heap} {s : Sl} {ts : List TV} (o : Own T 1 h s ts) {i : Nat} {t : TV} (hi : i < ts.length) (ht : t.size = 1) :
    ∃ l, s.a = some l ∧ wok h l.b (l.o + i * 1) 1 ∧ ∃ h1, t.put h l.b (l.o + i * 1) = h1 ∧ Own T 1 h1 s (ts.set i t) ∧ Only (In s) h h1 ∧ h1.size = h.size := by
  have hlen : (TVs.cells ts).length = ts.length := by rw [TVs.cells_uniform (sz := 1) ts o.size, Nat.mul_one]
  rcases o.row with rfl | ⟨b, rest, ha, hb, hr⟩
  · have := o.len
    simp [Sl.nil] at this
    rw [this] at hi
    simp at hi
  · have hl : i + t.size ≤ (TVs.cells ts ++ rest).length := by rw [List.length_append, hlen, ht]; omega
    refine ⟨⟨b, 0⟩, ha, ?_, _, rfl, ?_, ?_, ?_⟩
    · simp only [Nat.zero_add, Nat.mul_one]
      exact wok_row hb (by rw [← ht]; exact hl)
    · simp only [Nat.zero_add, Nat.mul_one]
      have := put_row (t := t) hb hl
      refine ⟨fun u hu => ?_, by rw [List.length_set]; exact o.len, o.cap, .inr ⟨b, rest, ha, ?_, hr⟩⟩
      · rcases List.mem_or_eq_of_mem_set hu with h1 | rfl
        · exact o.size u h1
        · exact ht
      · rw [this, ht, ← cells_ones ts i t o.size ht hi]
        congr 2
        rw [List.take_append_of_le_length (by omega), List.drop_append_of_le_length (by omega)]
        simp
    · simp only [Nat.zero_add, Nat.mul_one]
      exact (put_only hb hl).mono fun j hj => ⟨⟨b, 0⟩, ha, hj.symm⟩
    · simp only [Nat.zero_add, Nat.mul_one]
      exact put_size hb hl

end Go.Vc
end

section
/- Values that are packed with their types: the methods of a pointer; functions that are entered; heaps that have names; structs that are read. -/
namespace Go.Vc
open Go

theorem Ctx.Ok.entP {C : Ctx} (hC : C.Ok) {f : FuncId} (h : C.ent.getD f false = true) : EntP C.P f := by
  obtain ⟨fn, hfn, hbody, hname⟩ := hC.ent f h
  intro args w
  have hname' : ¬ fn.name = "runtime.NumGoroutine" := by simpa using hname
  have hb3 : ¬ fn.body = none := by intro hx; rw [hx] at hbody; cases hbody
  simp [callFunc, hfn, hname', hb3]

/-- A method whose receiver is the pointer itself. -/
theorem methodAt_ptr {P : Program} {h : Heap} {t e : TypeId} {i : TypeInfo} {m : Go.Method} {name : String} {f : FuncId} {l : Loc} (hi : P.info? t = some i) (hf : i.methods.find? (·.name == name) = some m)
    (hp : m.path = #[]) (hm : m.func = some (f, true)) (hu : P.underlying t = some (.pointer e)) (hs : 0 < P.types.size) (he : EntP P f) : MethodAt P h t (TV.ptr (some l)).val name f (TV.ptr (some l)).val := by
  refine ⟨he, fun w _ => ?_⟩
  obtain ⟨n, hn⟩ : ∃ n, P.types.size + Made.depth = n + 1 := ⟨P.types.size + Made.depth - 1, by omega⟩
  rw [hn]
  unfold method
  simp only [Sem.run_bind, run_typeInfo w hi, Result.andThen_ok, hf, hp, follow, Sem.run_pure, hm, receiverAt, run_underlying hu, Place.get]

theorem nilChk (ts : Array TypeId) (ty : TypeId) (a : Addr) (s m : ByteArray) : Builtin.ssaWrapNilChk_ ts ty #[.pointer (some a), .string s, .string m] = pure (.pointer (some a)) := rfl

/-- A method whose receiver is what the pointer points at. -/
theorem methodAt_val {C : Ctx} (hC : C.Ok) {h : Heap} {t e : TypeId} {i : TypeInfo} {m : Go.Method} {name : String} {f : FuncId} {l : Loc} {tv : TV} (hi : C.P.info? t = some i) (hf : i.methods.find? (·.name == name) = some m)
    (hp : m.path = #[]) (hm : m.func = some (f, false)) (hu : C.P.underlying t = some (.pointer e)) (hs : 0 < C.P.types.size) (he : EntP C.P f)
    (hn : notTuple (C.ti e).d = true) (hh : tv.has (C.ti e).sh = true) (ha : tv.at h l.b l.o) : MethodAt C.P h t (TV.ptr (some l)).val name f tv.val := by
  refine ⟨he, fun w hw => ?_⟩
  obtain ⟨n, hn'⟩ : ∃ n, C.P.types.size + Made.depth = n + 1 := ⟨C.P.types.size + Made.depth - 1, by omega⟩
  rw [hn']
  have hl := load_run hC hn hh (w := w) (l := l) (by rw [hw]; exact ha)
  unfold Instr.loadAt at hl
  simp only [Instr.sureAddr, Sem.run_bind, Sem.run_pure, Result.andThen_ok] at hl
  unfold method
  simp only [Sem.run_bind, run_typeInfo w hi, Result.andThen_ok, hf, hp, follow, Sem.run_pure, hm, receiverAt, run_underlying hu, Place.get, TV.val, Option.map_some, strVal, nilChk, asAddr]
  rw [if_pos (by rfl : (#[] : Array FieldStep).isEmpty = true)]
  simp only [Sem.run_bind, Sem.run_pure, Result.andThen_ok, hl]

/-- The function behind a method of a name that is the type's own, and whether it takes the pointer. -/
def methF (P : Program) (t : TypeId) (name : String) : Option (FuncId × Bool) := match P.info? t with
  | some i => match i.methods.find? (·.name == name) with
    | some m => match m.path.isEmpty with
      | true => m.func
      | false => none
    | none => none
  | none => none

theorem methF_iff {P : Program} {t : TypeId} {name : String} {r : FuncId × Bool} (h : methF P t name = some r) : ∃ i m, P.info? t = some i ∧ i.methods.find? (·.name == name) = some m ∧ m.path = #[] ∧ m.func = some r := by
  unfold methF at h
  split at h
  · rename_i i hi
    split at h
    · rename_i m hm
      split at h
      · rename_i hp
        exact ⟨i, m, hi, hm, Array.isEmpty_iff.1 hp, h⟩
      · cases h
    · cases h
  · cases h

theorem meth_ptr {C : Ctx} (hC : C.Ok) {h : Heap} {t e : TypeId} {name : String} {f : FuncId} {l : Loc} (hm : methF C.P t name = some (f, true)) (hd : (C.ti t).d = some (.pointer e)) (hs : 0 < C.P.types.size) (he : C.ent.getD f false = true) :
    MethodAt C.P h t (TV.ptr (some l)).val name f (TV.ptr (some l)).val := by
  obtain ⟨i, m, h1, h2, h3, h4⟩ := methF_iff hm
  exact methodAt_ptr h1 h2 h3 h4 (hC.d hd) hs (hC.entP he)

theorem meth_val {C : Ctx} (hC : C.Ok) {h : Heap} {t e : TypeId} {name : String} {f : FuncId} {l : Loc} {tv : TV} (hm : methF C.P t name = some (f, false)) (hd : (C.ti t).d = some (.pointer e)) (hs : 0 < C.P.types.size) (he : C.ent.getD f false = true)
    (hn : notTuple (C.ti e).d = true) (hh : tv.has (C.ti e).sh = true) (ha : tv.at h l.b l.o) : MethodAt C.P h t (TV.ptr (some l)).val name f tv.val := by
  obtain ⟨i, m, h1, h2, h3, h4⟩ := methF_iff hm
  exact methodAt_val hC h1 h2 h3 h4 (hC.d hd) hs (hC.entP he) hn hh ha

/-! ### Heaps that have names -/

theorem newTV_in {h : Heap} {t : TV} {T : TypeId} {K : Heap → Prop} (hk : ∀ h1, Var T h1 h.size t → Ext h h1 → h1.size = h.size + 1 → K h1) : Bind (newTV h t T) K := by
  obtain ⟨h1, e1, v1, x1, s1⟩ := newTV_spec h t T
  rw [e1]
  exact hk h1 v1 x1 s1

theorem put_in {T : TypeId} {h : Heap} {b : Nat} {t0 t : TV} {K : Heap → Prop} (v : Var T h b t0) (hs : t.size = t0.size) (hk : ∀ h1, Var T h1 b t → Only (· = b) h h1 → h1.size = h.size → K h1) : wok h b 0 t0.size ∧ Bind (t.put h b 0) K := by
  obtain ⟨h1, e1, v1, o1, s1⟩ := put_spec v t hs
  refine ⟨v.wok (by omega), ?_⟩
  rw [e1]
  exact hk h1 v1 o1 s1

/-- A field of one cell of a struct is written; `pre` is what stands ahead of it. -/
theorem cells_field : ∀ (ts : List TV) (i o : Nat) (t t0 : TV), ts[i]? = some t0 → t.size = t0.size → TVs.size (ts.take i) = o → (TVs.cells ts).take o ++ t.cells ++ (TVs.cells ts).drop (o + t.size) = TVs.cells (ts.set i t)
  | [], i, o, t, t0, h, _, _ => by simp at h
  | x :: xs, 0, o, t, t0, h, hs, ho => by
    simp only [List.getElem?_cons_zero, Option.some.injEq] at h
    subst h
    simp only [List.take_zero, TVs.size] at ho
    subst ho
    simp only [TVs.cells, List.set_cons_zero, List.take_zero, List.nil_append, Nat.zero_add]
    rw [hs, ← TV.cells_length x, List.drop_left]
  | x :: xs, i + 1, o, t, t0, h, hs, ho => by
    simp only [List.getElem?_cons_succ] at h
    simp only [List.take_succ_cons, TVs.size] at ho
    have ih := cells_field xs i (o - x.size) t t0 h hs (by omega)
    have hx := TV.cells_length x
    simp only [TVs.cells, List.set_cons_succ]
    rw [← ih]
    have e1 : (x.cells ++ TVs.cells xs).take o = x.cells ++ (TVs.cells xs).take (o - x.size) := by
      rw [List.take_append, List.take_of_length_le (by omega), hx]
    have e2 : (x.cells ++ TVs.cells xs).drop (o + t.size) = (TVs.cells xs).drop (o - x.size + t.size) := by
      rw [List.drop_append, List.drop_of_length_le (by omega), hx, List.nil_append]
      congr 1
      omega
    rw [e1, e2]
    simp only [List.append_assoc]

theorem TVs.size_take_le : ∀ (ts : List TV) (i : Nat) (t0 : TV), ts[i]? = some t0 → TVs.size (ts.take i) + t0.size ≤ TVs.size ts
  | [], i, t0, h => by simp at h
  | x :: xs, 0, t0, h => by
    simp only [List.getElem?_cons_zero, Option.some.injEq] at h
    subst h
    simp only [List.take_zero, TVs.size]
    omega
  | x :: xs, i + 1, t0, h => by
    simp only [List.getElem?_cons_succ] at h
    have := TVs.size_take_le xs i t0 h
    simp only [List.take_succ_cons, TVs.size]
    omega

/-- A field of a struct is written. -/
theorem field_in {T : TypeId} {h : Heap} {b i o n : Nat} {ts : List TV} {t t0 : TV} {K : Heap → Prop} (v : Var T h b (.agg ts)) (hi : ts[i]? = some t0) (hs : t.size = t0.size) (hn : n = t0.size) (ho : TVs.size (ts.take i) = o)
    (hk : ∀ h1, Var T h1 b (.agg (ts.set i t)) → Only (· = b) h h1 → h1.size = h.size → K h1) : wok h b o n ∧ Bind (t.put h b o) K := by
  have hle := TVs.size_take_le ts i t0 hi
  have hl : o + t.size ≤ (TV.agg ts).cells.length := by rw [TV.cells_length]; simp only [TV.size]; omega
  refine ⟨wok_row v (by rw [hn, ← hs]; exact hl), ?_⟩
  refine hk _ ?_ (put_only v hl) (put_size v hl)
  have := put_row (t := t) v hl
  unfold Var
  rw [this]
  simp only [TV.cells]
  rw [cells_field ts i o t t0 hi hs ho]

/-- Elements of one size: one of them is another. -/
theorem cells_elem {sz : Nat} (ts : List TV) (i : Nat) (t : TV) (h : ∀ t ∈ ts, t.size = sz) (ht : t.size = sz) (hi : i < ts.length) : (TVs.cells ts).take (i * sz) ++ t.cells ++ (TVs.cells ts).drop (i * sz + t.size) = TVs.cells (ts.set i t) := by
  refine cells_field ts i (i * sz) t ts[i] (by simp [hi]) (by rw [ht, h _ (List.getElem_mem _)]) ?_
  have : ∀ (l : List TV), (∀ t ∈ l, t.size = sz) → TVs.size l = l.length * sz := by
    intro l hl
    rw [← TVs.cells_length, TVs.cells_uniform l hl]
  rw [this _ (fun t ht => h t (List.mem_of_mem_take ht)), List.length_take, Nat.min_eq_left (by omega)]

/-- An element is written. -/
theorem Own.put_in {T : TypeId} {sz n : Nat} {h : Heap} {s : Sl} {ts : List TV} {K : Heap → Prop} {t : TV} {i : Int} (o : Own T sz h s ts) (i0 : 0 ≤ i) (hi : i < ts.length) (ht : t.size = sz) (hn : n = sz)
    (hk : ∀ h1, Own T sz h1 s (ts.set i.toNat t) → Only (In s) h h1 → h1.size = h.size → K h1) :
    0 ≤ i ∧ i < (s.len : Int) ∧ Nn s.a fun l => wok h l.b (l.o + i.toNat * sz) n ∧ Bind (t.put h l.b (l.o + i.toNat * sz)) K := by
  have hle := o.len
  have hlen := TVs.cells_uniform ts o.size
  refine ⟨i0, by omega, ?_⟩
  rcases o.row with rfl | ⟨b, rest, ha, hb, hr⟩
  · simp [Sl.nil] at hle
    rw [hle] at hi
    simp at hi
    omega
  · have hmul : i.toNat * sz + sz ≤ ts.length * sz := by
      have := Nat.mul_le_mul_right sz (show i.toNat + 1 ≤ ts.length by omega)
      rwa [Nat.succ_mul] at this
    have hl : i.toNat * sz + t.size ≤ (TVs.cells ts ++ rest).length := by rw [List.length_append, hlen, ht]; omega
    rw [ha]
    show wok h b (0 + i.toNat * sz) n ∧ Bind (t.put h b (0 + i.toNat * sz)) K
    rw [Nat.zero_add]
    refine ⟨wok_row hb (by rw [hn]; rw [ht] at hl; exact hl), hk _ ?_ ((put_only hb hl).mono fun j hj => ⟨⟨b, 0⟩, ha, hj.symm⟩) (put_size hb hl)⟩
    have := put_row (t := t) hb hl
    refine ⟨fun u hu => ?_, by rw [List.length_set]; exact o.len, o.cap, .inr ⟨b, rest, ha, ?_, hr⟩⟩
    · rcases List.mem_or_eq_of_mem_set hu with h1 | rfl
      · exact o.size u h1
      · exact ht
    · rw [this, ← cells_elem ts i.toNat t o.size ht (by omega)]
      congr 2
      rw [List.take_append_of_le_length (by omega), List.drop_append_of_le_length (by omega)]
      simp

end Go.Vc
end

section
/- The context of this seat's program. -/
namespace Go.Proofs.Ytldocdpdjdekiaa
open Go Go.Vc

noncomputable def ctx : Ctx := Ctx.of Try.prog 279 197

theorem ctx_ok : ctx.Ok := Ctx.ok_of (by kernel_rfl) (by kernel_rfl) (by kernel_rfl) (by kernel_rfl)

/-- The same, for functions in which a call writes behind what is read ahead of it. -/
noncomputable def ctxL : Ctx := { ctx with loose := true }

theorem ctxL_ok : ctxL.Ok := ⟨ctx_ok.tab, ctx_ok.zero, ctx_ok.size, ctx_ok.ent, ctx_ok.mixed⟩

/-- The same, for what a sort asks. -/
noncomputable def ctxS : Ctx := { ctx with strict := true }

theorem ctxS_ok : ctxS.Ok := ⟨ctx_ok.tab, ctx_ok.zero, ctx_ok.size, ctx_ok.ent, ctx_ok.mixed⟩

theorem via {C : Ctx} {f : FuncId} {fn : Func} {args : List TV} {h : Heap} {R : Value → Heap → Prop} {P : Prop} (hC : C.Ok) (hf : C.P.funcs[f]? = some fn) (e : P = vcFn C fn args h R) (H : P) : CallsX C.strict C.P f (TVs.vals args) h R :=
  vcFn_sound (C := C) hC (fn := fn) hf (e ▸ H)

end Go.Proofs.Ytldocdpdjdekiaa
end

section
/- The conditions of functions, as the generator reckons them out, each with the proof that it is that. -/
namespace Go.Proofs.Ytldocdpdjdekiaa
open Go Go.Vc
set_option maxRecDepth 100000
set_option linter.unusedVariables false

def math_bits_RotateLeft32_vc (x : Int) (k : Int) (h : Heap) (R : Value → Heap → Prop) : Prop := 0 ≤ IntKind.wrap .u64 (↑(BitVec.toNat (BitVec.ofInt (IntKind.bits .u64) (IntKind.wrap .u64 k) &&& BitVec.ofInt (IntKind.bits .u64) 31)) : Int) ∧ 0 ≤ IntKind.wrap .u64 (32 - IntKind.wrap .u64 (↑(BitVec.toNat (BitVec.ofInt (IntKind.bits .u64) (IntKind.wrap .u64 k) &&& BitVec.ofInt (IntKind.bits .u64) 31)) : Int)) ∧ R (TV.val (.int .u32 (IntKind.wrap .u32 (↑(BitVec.toNat (BitVec.ofInt (IntKind.bits .u32) (IntKind.wrap .u32 (x * (2 : Int) ^ min (Int.toNat (IntKind.wrap .u64 (↑(BitVec.toNat (BitVec.ofInt (IntKind.bits .u64) (IntKind.wrap .u64 k) &&& BitVec.ofInt (IntKind.bits .u64) 31)) : Int))) (IntKind.bits .u32))) ||| BitVec.ofInt (IntKind.bits .u32) (Int.fdiv x ((2 : Int) ^ min (Int.toNat (IntKind.wrap .u64 (32 - IntKind.wrap .u64 (↑(BitVec.toNat (BitVec.ofInt (IntKind.bits .u64) (IntKind.wrap .u64 k) &&& BitVec.ofInt (IntKind.bits .u64) 31)) : Int)))) (IntKind.bits .u32))))) : Int)))) h
theorem math_bits_RotateLeft32_calls (x : Int) (k : Int) (h : Heap) (R : Value → Heap → Prop) (H : math_bits_RotateLeft32_vc x k h R) : CallsH Try.prog 168 (TVs.vals [.int .u32 x, .int .i64 k]) h R := via ctx_ok Try.func168 (by kernel_rfl) H

def sha_turn_vc (x : Int) (n : Int) (h : Heap) (R : Value → Heap → Prop) : Prop := CallsH Try.prog 168 (TVs.vals [.int .u32 x, .int .i64 (IntKind.wrap .i64 (0 - n))]) h fun (v : Value) (h : Heap) ↦ ∃ (n : Int), v = TV.val (.int .u32 n) ∧ R (TV.val (.int .u32 n)) h
theorem sha_turn_calls (x : Int) (n : Int) (h : Heap) (R : Value → Heap → Prop) (H : sha_turn_vc x n h R) : CallsH Try.prog 158 (TVs.vals [.int .u32 x, .int .i64 n]) h R := via ctx_ok Try.func158 (by kernel_rfl) H

def sha_first_vc (h : Heap) (R : Value → Heap → Prop) : Prop := Vc.Bind (newTV h (.words IntKind.u32 8 (Ws.zero 8)) 206) fun h_1 ↦ wok h_1 h.size 0 8 ∧ Vc.Bind (TV.put h_1 h.size 0 (.words IntKind.u32 8 (Ws.set (Ws.set (Ws.set (Ws.set (Ws.set (Ws.set (Ws.set (Ws.set (Ws.zero 8) 0 1779033703) 1 3144134277) 2 1013904242) 3 2773480762) 4 1359893119) 5 2600822924) 6 528734635) 7 1541459225))) fun h_2 ↦ ∃ (w : Ws 8), atWords h_2 h.size 0 IntKind.u32 8 w ∧ R (TV.val (.words IntKind.u32 8 w)) h_2
theorem sha_first_calls (h : Heap) (R : Value → Heap → Prop) (H : sha_first_vc h R) : CallsH Try.prog 119 (TVs.vals []) h R := via ctx_ok Try.func119 (by kernel_rfl) H

def sha_keys_vc (h : Heap) (R : Value → Heap → Prop) : Prop := Vc.Bind (newTV h (.words IntKind.u32 64 (Ws.zero 64)) 244) fun h_1 ↦ wok h_1 h.size 0 64 ∧ Vc.Bind (TV.put h_1 h.size 0 (.words IntKind.u32 64 (Ws.set (Ws.set (Ws.set (Ws.set (Ws.set (Ws.set (Ws.set (Ws.set (Ws.set (Ws.set (Ws.set (Ws.set (Ws.set (Ws.set (Ws.set (Ws.set (Ws.set (Ws.set (Ws.set (Ws.set (Ws.set (Ws.set (Ws.set (Ws.set (Ws.set (Ws.set (Ws.set (Ws.set (Ws.set (Ws.set (Ws.set (Ws.set (Ws.set (Ws.set (Ws.set (Ws.set (Ws.set (Ws.set (Ws.set (Ws.set (Ws.set (Ws.set (Ws.set (Ws.set (Ws.set (Ws.set (Ws.set (Ws.set (Ws.set (Ws.set (Ws.set (Ws.set (Ws.set (Ws.set (Ws.set (Ws.set (Ws.set (Ws.set (Ws.set (Ws.set (Ws.set (Ws.set (Ws.set (Ws.set (Ws.zero 64) 0 1116352408) 1 1899447441) 2 3049323471) 3 3921009573) 4 961987163) 5 1508970993) 6 2453635748) 7 2870763221) 8 3624381080) 9 310598401) 10 607225278) 11 1426881987) 12 1925078388) 13 2162078206) 14 2614888103) 15 3248222580) 16 3835390401) 17 4022224774) 18 264347078) 19 604807628) 20 770255983) 21 1249150122) 22 1555081692) 23 1996064986) 24 2554220882) 25 2821834349) 26 2952996808) 27 3210313671) 28 3336571891) 29 3584528711) 30 113926993) 31 338241895) 32 666307205) 33 773529912) 34 1294757372) 35 1396182291) 36 1695183700) 37 1986661051) 38 2177026350) 39 2456956037) 40 2730485921) 41 2820302411) 42 3259730800) 43 3345764771) 44 3516065817) 45 3600352804) 46 4094571909) 47 275423344) 48 430227734) 49 506948616) 50 659060556) 51 883997877) 52 958139571) 53 1322822218) 54 1537002063) 55 1747873779) 56 1955562222) 57 2024104815) 58 2227730452) 59 2361852424) 60 2428436474) 61 2756734187) 62 3204031479) 63 3329325298))) fun h_2 ↦ ∃ (w : Ws 64), atWords h_2 h.size 0 IntKind.u32 64 w ∧ R (TV.val (.words IntKind.u32 64 w)) h_2
theorem sha_keys_calls (h : Heap) (R : Value → Heap → Prop) (H : sha_keys_vc h R) : CallsH Try.prog 157 (TVs.vals []) h R := via ctx_ok Try.func157 (by kernel_rfl) H

def sha_lay_vc (b : Sl) (h : Heap) (R : Value → Heap → Prop) : Prop := Vc.Bind (newTV h (.words IntKind.u32 64 (Ws.zero 64)) 244) fun h_1 ↦ Vc.Bind (newTV h_1 (.words IntKind.u32 64 (Ws.zero 64)) 244) fun h_2 ↦ Go.Vc.Loop (0 : Int) h_2 fun (s : Int) (h_3 : Array Obj) (K : Int → Array Obj → Prop) ↦ If (decide (s < 16)) (0 ≤ IntKind.wrap .i64 (4 * s) ∧ IntKind.wrap .i64 (4 * s) < (↑b.len : Int) ∧ Nn b.a fun l ↦ ∃ (n : Int), at1 h_3 l.b (l.o + Int.toNat (IntKind.wrap .i64 (4 * s)) * 1) (.int .u8 n) ∧ (0 : Int) ≤ 24 ∧ 0 ≤ IntKind.wrap .i64 (IntKind.wrap .i64 (4 * s) + 1) ∧ IntKind.wrap .i64 (IntKind.wrap .i64 (4 * s) + 1) < (↑b.len : Int) ∧ Nn b.a fun l ↦ ∃ (n_1 : Int), at1 h_3 l.b (l.o + Int.toNat (IntKind.wrap .i64 (IntKind.wrap .i64 (4 * s) + 1)) * 1) (.int .u8 n_1) ∧ (0 : Int) ≤ 16 ∧ 0 ≤ IntKind.wrap .i64 (IntKind.wrap .i64 (4 * s) + 2) ∧ IntKind.wrap .i64 (IntKind.wrap .i64 (4 * s) + 2) < (↑b.len : Int) ∧ Nn b.a fun l ↦ ∃ (n_2 : Int), at1 h_3 l.b (l.o + Int.toNat (IntKind.wrap .i64 (IntKind.wrap .i64 (4 * s) + 2)) * 1) (.int .u8 n_2) ∧ (0 : Int) ≤ 8 ∧ 0 ≤ IntKind.wrap .i64 (IntKind.wrap .i64 (4 * s) + 3) ∧ IntKind.wrap .i64 (IntKind.wrap .i64 (4 * s) + 3) < (↑b.len : Int) ∧ Nn b.a fun l ↦ ∃ (n_3 : Int), at1 h_3 l.b (l.o + Int.toNat (IntKind.wrap .i64 (IntKind.wrap .i64 (4 * s) + 3)) * 1) (.int .u8 n_3) ∧ 0 ≤ s ∧ s < (↑64 : Int) ∧ wok h_3 h_1.size (0 + Int.toNat s * 1) 1 ∧ Vc.Bind (TV.put h_3 h_1.size (0 + Int.toNat s * 1) (.int .u32 (IntKind.wrap .u32 (↑(BitVec.toNat (BitVec.ofInt (IntKind.bits .u32) (IntKind.wrap .u32 (↑(BitVec.toNat (BitVec.ofInt (IntKind.bits .u32) (IntKind.wrap .u32 (↑(BitVec.toNat (BitVec.ofInt (IntKind.bits .u32) (IntKind.wrap .u32 (IntKind.wrap .u32 n * (2 : Int) ^ min (Int.toNat 24) (IntKind.bits .u32))) ||| BitVec.ofInt (IntKind.bits .u32) (IntKind.wrap .u32 (IntKind.wrap .u32 n_1 * (2 : Int) ^ min (Int.toNat 16) (IntKind.bits .u32))))) : Int)) ||| BitVec.ofInt (IntKind.bits .u32) (IntKind.wrap .u32 (IntKind.wrap .u32 n_2 * (2 : Int) ^ min (Int.toNat 8) (IntKind.bits .u32))))) : Int)) ||| BitVec.ofInt (IntKind.bits .u32) (IntKind.wrap .u32 n_3))) : Int)))) fun h ↦ K (IntKind.wrap .i64 (s + 1)) h) (Go.Vc.Loop (16 : Int) h_3 fun (s : Int) (h_4 : Array Obj) (K : Int → Array Obj → Prop) ↦ If (decide (s < 64)) (0 ≤ IntKind.wrap .i64 (s - 15) ∧ IntKind.wrap .i64 (s - 15) < (↑64 : Int) ∧ ∃ (n : Int), at1 h_4 h_1.size (0 + Int.toNat (IntKind.wrap .i64 (s - 15)) * 1) (.int .u32 n) ∧ 0 ≤ IntKind.wrap .i64 (s - 2) ∧ IntKind.wrap .i64 (s - 2) < (↑64 : Int) ∧ ∃ (n_1 : Int), at1 h_4 h_1.size (0 + Int.toNat (IntKind.wrap .i64 (s - 2)) * 1) (.int .u32 n_1) ∧ 0 ≤ IntKind.wrap .i64 (s - 16) ∧ IntKind.wrap .i64 (s - 16) < (↑64 : Int) ∧ ∃ (n_2 : Int), at1 h_4 h_1.size (0 + Int.toNat (IntKind.wrap .i64 (s - 16)) * 1) (.int .u32 n_2) ∧ (0 : Int) ≤ 3 ∧ 0 ≤ IntKind.wrap .i64 (s - 7) ∧ IntKind.wrap .i64 (s - 7) < (↑64 : Int) ∧ ∃ (n_3 : Int), at1 h_4 h_1.size (0 + Int.toNat (IntKind.wrap .i64 (s - 7)) * 1) (.int .u32 n_3) ∧ (0 : Int) ≤ 10 ∧ CallsH Try.prog 158 (TVs.vals [.int .u32 n, .int .i64 7]) h_4 fun v h ↦ ∃ (n_4 : Int), v = TV.val (.int .u32 n_4) ∧ Ext h_4 h ∧ CallsH Try.prog 158 (TVs.vals [.int .u32 n, .int .i64 18]) h fun v h_5 ↦ ∃ (n_5 : Int), v = TV.val (.int .u32 n_5) ∧ Ext h h_5 ∧ CallsH Try.prog 158 (TVs.vals [.int .u32 n_1, .int .i64 17]) h_5 fun v h ↦ ∃ (n_6 : Int), v = TV.val (.int .u32 n_6) ∧ Ext h_5 h ∧ CallsH Try.prog 158 (TVs.vals [.int .u32 n_1, .int .i64 19]) h fun v h_6 ↦ ∃ (n_7 : Int), v = TV.val (.int .u32 n_7) ∧ Ext h h_6 ∧ 0 ≤ s ∧ s < (↑64 : Int) ∧ wok h_6 h_1.size (0 + Int.toNat s * 1) 1 ∧ Vc.Bind (TV.put h_6 h_1.size (0 + Int.toNat s * 1) (.int .u32 (IntKind.wrap .u32 (IntKind.wrap .u32 (IntKind.wrap .u32 (n_2 + IntKind.wrap .u32 (↑(BitVec.toNat (BitVec.ofInt (IntKind.bits .u32) (IntKind.wrap .u32 (↑(BitVec.toNat (BitVec.ofInt (IntKind.bits .u32) n_4 ^^^ BitVec.ofInt (IntKind.bits .u32) n_5)) : Int)) ^^^ BitVec.ofInt (IntKind.bits .u32) (Int.fdiv n ((2 : Int) ^ min (Int.toNat 3) (IntKind.bits .u32))))) : Int)) + n_3) + IntKind.wrap .u32 (↑(BitVec.toNat (BitVec.ofInt (IntKind.bits .u32) (IntKind.wrap .u32 (↑(BitVec.toNat (BitVec.ofInt (IntKind.bits .u32) n_6 ^^^ BitVec.ofInt (IntKind.bits .u32) n_7)) : Int)) ^^^ BitVec.ofInt (IntKind.bits .u32) (Int.fdiv n_1 ((2 : Int) ^ min (Int.toNat 10) (IntKind.bits .u32))))) : Int))))) fun h ↦ K (IntKind.wrap .i64 (s + 1)) h) (∃ (w : Ws 64), atWords h_4 h_1.size 0 IntKind.u32 64 w ∧ wok h_4 h.size 0 64 ∧ Vc.Bind (TV.put h_4 h.size 0 (.words IntKind.u32 64 w)) fun h_5 ↦ ∃ (w : Ws 64), atWords h_5 h.size 0 IntKind.u32 64 w ∧ R (TV.val (.words IntKind.u32 64 w)) h_5))
theorem sha_lay_calls (b : Sl) (h : Heap) (R : Value → Heap → Prop) (H : sha_lay_vc b h R) : CallsH Try.prog 156 (TVs.vals [.slice b]) h R := via ctx_ok Try.func156 (by kernel_rfl) H

end Go.Proofs.Ytldocdpdjdekiaa
end

section
/- Digests: what the program's small functions of sha make of words and bytes. -/
namespace Go.Proofs.Ytldocdpdjdekiaa.Board
open Go Go.Vc

/-! ### The terms, as the conditions have them -/

def be (n n_1 n_2 n_3 : Int) : Int := (IntKind.wrap IntKind.u32 (↑(BitVec.toNat (BitVec.ofInt (IntKind.bits IntKind.u32) (IntKind.wrap IntKind.u32 (↑(BitVec.toNat (BitVec.ofInt (IntKind.bits IntKind.u32) (IntKind.wrap IntKind.u32 (↑(BitVec.toNat (BitVec.ofInt (IntKind.bits IntKind.u32) (IntKind.wrap IntKind.u32 (IntKind.wrap IntKind.u32 n * (2 : Int) ^ min (Int.toNat (24 : Int)) (IntKind.bits IntKind.u32))) ||| BitVec.ofInt (IntKind.bits IntKind.u32) (IntKind.wrap IntKind.u32 (IntKind.wrap IntKind.u32 n_1 * (2 : Int) ^ min (Int.toNat (16 : Int)) (IntKind.bits IntKind.u32))))) : Int)) ||| BitVec.ofInt (IntKind.bits IntKind.u32) (IntKind.wrap IntKind.u32 (IntKind.wrap IntKind.u32 n_2 * (2 : Int) ^ min (Int.toNat (8 : Int)) (IntKind.bits IntKind.u32))))) : Int)) ||| BitVec.ofInt (IntKind.bits IntKind.u32) (IntKind.wrap IntKind.u32 n_3))) : Int))
def ex (n n_1 n_2 n_3 n_4 n_5 n_6 n_7 : Int) : Int := (IntKind.wrap IntKind.u32 (IntKind.wrap IntKind.u32 (IntKind.wrap IntKind.u32 (n_2 + IntKind.wrap IntKind.u32 (↑(BitVec.toNat (BitVec.ofInt (IntKind.bits IntKind.u32) (IntKind.wrap IntKind.u32 (↑(BitVec.toNat (BitVec.ofInt (IntKind.bits IntKind.u32) n_4 ^^^ BitVec.ofInt (IntKind.bits IntKind.u32) n_5)) : Int)) ^^^ BitVec.ofInt (IntKind.bits IntKind.u32) (Int.fdiv n ((2 : Int) ^ min (Int.toNat (3 : Int)) (IntKind.bits IntKind.u32))))) : Int)) + n_3) + IntKind.wrap IntKind.u32 (↑(BitVec.toNat (BitVec.ofInt (IntKind.bits IntKind.u32) (IntKind.wrap IntKind.u32 (↑(BitVec.toNat (BitVec.ofInt (IntKind.bits IntKind.u32) n_6 ^^^ BitVec.ofInt (IntKind.bits IntKind.u32) n_7)) : Int)) ^^^ BitVec.ofInt (IntKind.bits IntKind.u32) (Int.fdiv n_1 ((2 : Int) ^ min (Int.toNat (10 : Int)) (IntKind.bits IntKind.u32))))) : Int)))
def rot (x k : Int) : Int := (IntKind.wrap IntKind.u32 (↑(BitVec.toNat (BitVec.ofInt (IntKind.bits IntKind.u32) (IntKind.wrap IntKind.u32 (x * (2 : Int) ^ min (Int.toNat (IntKind.wrap IntKind.u64 (↑(BitVec.toNat (BitVec.ofInt (IntKind.bits IntKind.u64) (IntKind.wrap IntKind.u64 k) &&& BitVec.ofInt (IntKind.bits IntKind.u64) (31 : Int))) : Int))) (IntKind.bits IntKind.u32))) ||| BitVec.ofInt (IntKind.bits IntKind.u32) (Int.fdiv x ((2 : Int) ^ min (Int.toNat (IntKind.wrap IntKind.u64 ((32 : Int) - IntKind.wrap IntKind.u64 (↑(BitVec.toNat (BitVec.ofInt (IntKind.bits IntKind.u64) (IntKind.wrap IntKind.u64 k) &&& BitVec.ofInt (IntKind.bits IntKind.u64) (31 : Int))) : Int)))) (IntKind.bits IntKind.u32))))) : Int))
def turnF (x n : Int) : Int := rot x (IntKind.wrap .i64 (0 - n))

def by8 (bs : List UInt8) (i : Nat) : Int := ((bs.getD i 0).toNat : Int)
def wd {n : Nat} (w : Ws n) (i : Nat) : Int := w.l.getD i 0

def layA (bs : List UInt8) : Nat → Ws 64
  | 0 => Ws.zero 64
  | i + 1 => (layA bs i).set i (be (by8 bs (4 * i)) (by8 bs (4 * i + 1)) (by8 bs (4 * i + 2)) (by8 bs (4 * i + 3)))

def exAt (w : Ws 64) (i : Nat) : Int :=
  ex (wd w (i - 15)) (wd w (i - 2)) (wd w (i - 16)) (wd w (i - 7)) (turnF (wd w (i - 15)) 7) (turnF (wd w (i - 15)) 18) (turnF (wd w (i - 2)) 17) (turnF (wd w (i - 2)) 19)

def layB (w : Ws 64) : Nat → Ws 64
  | 0 => w
  | i + 1 => (layB w i).set (16 + i) (exAt (layB w i) (16 + i))

def layF (bs : List UInt8) : Ws 64 := layB (layA bs 16) 48

def byTV (c : UInt8) : TV := .int .u8 (c.toNat : Int)

section
variable {R : Value → Heap → Prop} {h : Heap}

theorem wrap_u64_nonneg (n : Int) : 0 ≤ IntKind.wrap .u64 n := by
  simp [IntKind.wrap, IntKind.bits, IntKind.signed]
  omega

theorem rot_spec {x k : Int} (hr : R (TV.int .u32 (rot x k)).val h) : CallsH Try.prog 168 (TVs.vals [.int .u32 x, .int .i64 k]) h R := by
  apply math_bits_RotateLeft32_calls
  unfold math_bits_RotateLeft32_vc
  exact ⟨wrap_u64_nonneg _, wrap_u64_nonneg _, hr⟩

theorem turn_spec {x n : Int} (hr : R (TV.int .u32 (turnF x n)).val h) : CallsH Try.prog 158 (TVs.vals [.int .u32 x, .int .i64 n]) h R := by
  apply sha_turn_calls
  unfold sha_turn_vc
  exact rot_spec ⟨_, rfl, hr⟩

theorem word_at {T : TypeId} {b n : Nat} {k : IntKind} {w : Ws n} (v : Var T h b (.words k n w)) {i : Nat} (hi : i < n) : at1 h b (0 + i * 1) (.int k (wd w i)) := by
  have := v.at i hi
  rw [Nat.mul_one]
  exact this

theorem put_word {T : TypeId} {h : Heap} {b n i o : Nat} {k : IntKind} {x : Ws n} {c : Int} {K : Heap → Prop} (v : Var T h b (.words k n x)) (hi : i < n) (ho : o = i)
    (hk : ∀ h1, Var T h1 b (.words k n (x.set i c)) → Only (· = b) h h1 → h1.size = h.size → K h1) : wok h b o 1 ∧ Bind ((TV.int k c).put h b o) K := by
  subst ho
  have hl : o + (TV.int k c).size ≤ (TV.words k n x).cells.length := by rw [TV.cells_length]; simp only [TV.size]; omega
  refine ⟨v.wok (by simp only [TV.size]; omega), hk _ ?_ (put_only v hl) (put_size v hl)⟩
  have := put_row (t := .int k c) v hl
  unfold Var
  rw [this]
  congr 2
  simp only [TV.cells, TV.size, Ws.set, List.map_set]
  rw [List.set_eq_take_append_cons_drop, if_pos (by rw [List.length_map, x.h]; exact hi)]
  simp

theorem byte_in {s : Sl} {bs : List UInt8} {i : Int} (e : Elems 1 h s (bs.map byTV)) (i0 : 0 ≤ i) (i1 : i < bs.length) {K : Int → Prop} (hk : K (by8 bs i.toNat)) :
    0 ≤ i ∧ i < (s.len : Int) ∧ Nn s.a fun (l : Vc.Loc) => ∃ (n : Int), at1 h l.b (l.o + i.toNat * 1) (.int .u8 n) ∧ K n := by
  have hl := e.len
  rw [List.length_map] at hl
  refine e.read i0 (by omega) fun l t hla ht ha => ?_
  rw [List.getElem?_map] at ht
  obtain ⟨x, hx, rfl⟩ := Option.map_eq_some_iff.1 ht
  refine ⟨_, ha, ?_⟩
  have : by8 bs i.toNat = (x.toNat : Int) := by
    unfold by8
    rw [List.getD_eq_getElem?_getD, hx]
    rfl
  rw [this] at hk
  exact hk

def firstW : Ws 8 := (Ws.set (Ws.set (Ws.set (Ws.set (Ws.set (Ws.set (Ws.set (Ws.set (Ws.zero (8 : Nat)) (0 : Nat) (1779033703 : Int)) (1 : Nat) (3144134277 : Int)) (2 : Nat) (1013904242 : Int)) (3 : Nat) (2773480762 : Int)) (4 : Nat) (1359893119 : Int)) (5 : Nat) (2600822924 : Int)) (6 : Nat) (528734635 : Int)) (7 : Nat) (1541459225 : Int))
def keysW : Ws 64 := (Ws.set (Ws.set (Ws.set (Ws.set (Ws.set (Ws.set (Ws.set (Ws.set (Ws.set (Ws.set (Ws.set (Ws.set (Ws.set (Ws.set (Ws.set (Ws.set (Ws.set (Ws.set (Ws.set (Ws.set (Ws.set (Ws.set (Ws.set (Ws.set (Ws.set (Ws.set (Ws.set (Ws.set (Ws.set (Ws.set (Ws.set (Ws.set (Ws.set (Ws.set (Ws.set (Ws.set (Ws.set (Ws.set (Ws.set (Ws.set (Ws.set (Ws.set (Ws.set (Ws.set (Ws.set (Ws.set (Ws.set (Ws.set (Ws.set (Ws.set (Ws.set (Ws.set (Ws.set (Ws.set (Ws.set (Ws.set (Ws.set (Ws.set (Ws.set (Ws.set (Ws.set (Ws.set (Ws.set (Ws.set (Ws.zero (64 : Nat)) (0 : Nat) (1116352408 : Int)) (1 : Nat) (1899447441 : Int)) (2 : Nat) (3049323471 : Int)) (3 : Nat) (3921009573 : Int)) (4 : Nat) (961987163 : Int)) (5 : Nat) (1508970993 : Int)) (6 : Nat) (2453635748 : Int)) (7 : Nat) (2870763221 : Int)) (8 : Nat) (3624381080 : Int)) (9 : Nat) (310598401 : Int)) (10 : Nat) (607225278 : Int)) (11 : Nat) (1426881987 : Int)) (12 : Nat) (1925078388 : Int)) (13 : Nat) (2162078206 : Int)) (14 : Nat) (2614888103 : Int)) (15 : Nat) (3248222580 : Int)) (16 : Nat) (3835390401 : Int)) (17 : Nat) (4022224774 : Int)) (18 : Nat) (264347078 : Int)) (19 : Nat) (604807628 : Int)) (20 : Nat) (770255983 : Int)) (21 : Nat) (1249150122 : Int)) (22 : Nat) (1555081692 : Int)) (23 : Nat) (1996064986 : Int)) (24 : Nat) (2554220882 : Int)) (25 : Nat) (2821834349 : Int)) (26 : Nat) (2952996808 : Int)) (27 : Nat) (3210313671 : Int)) (28 : Nat) (3336571891 : Int)) (29 : Nat) (3584528711 : Int)) (30 : Nat) (113926993 : Int)) (31 : Nat) (338241895 : Int)) (32 : Nat) (666307205 : Int)) (33 : Nat) (773529912 : Int)) (34 : Nat) (1294757372 : Int)) (35 : Nat) (1396182291 : Int)) (36 : Nat) (1695183700 : Int)) (37 : Nat) (1986661051 : Int)) (38 : Nat) (2177026350 : Int)) (39 : Nat) (2456956037 : Int)) (40 : Nat) (2730485921 : Int)) (41 : Nat) (2820302411 : Int)) (42 : Nat) (3259730800 : Int)) (43 : Nat) (3345764771 : Int)) (44 : Nat) (3516065817 : Int)) (45 : Nat) (3600352804 : Int)) (46 : Nat) (4094571909 : Int)) (47 : Nat) (275423344 : Int)) (48 : Nat) (430227734 : Int)) (49 : Nat) (506948616 : Int)) (50 : Nat) (659060556 : Int)) (51 : Nat) (883997877 : Int)) (52 : Nat) (958139571 : Int)) (53 : Nat) (1322822218 : Int)) (54 : Nat) (1537002063 : Int)) (55 : Nat) (1747873779 : Int)) (56 : Nat) (1955562222 : Int)) (57 : Nat) (2024104815 : Int)) (58 : Nat) (2227730452 : Int)) (59 : Nat) (2361852424 : Int)) (60 : Nat) (2428436474 : Int)) (61 : Nat) (2756734187 : Int)) (62 : Nat) (3204031479 : Int)) (63 : Nat) (3329325298 : Int))

theorem first_spec (hr : ∀ h', Ext h h' → R (TV.words .u32 8 firstW).val h') : CallsH Try.prog 119 (TVs.vals []) h R := by
  apply sha_first_calls
  unfold sha_first_vc
  refine newTV_in fun h1 v1 x1 s1 => put_in (t0 := .words .u32 8 (Ws.zero 8)) (t := .words .u32 8 firstW) v1 rfl fun h2 v2 o2 s2 => ⟨_, v2.at, hr _ (Only.cut x1 o2 fun i hi => by omega)⟩

theorem keys_spec (hr : ∀ h', Ext h h' → R (TV.words .u32 64 keysW).val h') : CallsH Try.prog 157 (TVs.vals []) h R := by
  apply sha_keys_calls
  unfold sha_keys_vc
  refine newTV_in fun h1 v1 x1 s1 => put_in (t0 := .words .u32 64 (Ws.zero 64)) (t := .words .u32 64 keysW) v1 rfl fun h2 v2 o2 s2 => ⟨_, v2.at, hr _ (Only.cut x1 o2 fun i hi => by omega)⟩

theorem lay_spec {s : Sl} {bs : List UInt8} (e : Elems 1 h s (bs.map byTV)) (hl : bs.length = 64) (hr : ∀ h', Ext h h' → R (TV.words .u32 64 (layF bs)).val h') : CallsH Try.prog 156 (TVs.vals [.slice s]) h R := by
  apply sha_lay_calls
  unfold sha_lay_vc
  refine newTV_in fun h1 v1 x1 s1 => newTV_in fun h2 v2 x2 s2 => ?_
  have x12 := x1.trans x2
  have only_ext : ∀ hh, Only (· = h1.size) h2 hh → Ext h hh := fun hh o => Only.cut x12 o fun i hi => by omega
  refine ⟨fun i hh => 0 ≤ i ∧ i ≤ 16 ∧ Only (· = h1.size) h2 hh ∧ Var 244 hh h1.size (.words .u32 64 (layA bs i.toNat)), fun i _ => ((16 : Int) - i).toNat, ⟨Int.le_refl 0, by decide, Only.refl _ _, v2⟩, ?_⟩
  rintro i h3 ⟨i0, i1, o3, v3⟩
  have e3 := e.ext (only_ext h3 o3)
  refine If.dec.2 ⟨fun hi => ?_, fun hi => ?_⟩
  · rw [wrap_i64 (n := 4 * i) (by omega) (by omega), wrap_i64 (n := 4 * i + 1) (by omega) (by omega), wrap_i64 (n := 4 * i + 2) (by omega) (by omega), wrap_i64 (n := 4 * i + 3) (by omega) (by omega), wrap_i64 (n := i + 1) (by omega) (by omega)]
    have t0 : (4 * i).toNat = 4 * i.toNat := by omega
    have t1 : (4 * i + 1).toNat = 4 * i.toNat + 1 := by omega
    have t2 : (4 * i + 2).toNat = 4 * i.toNat + 2 := by omega
    have t3 : (4 * i + 3).toNat = 4 * i.toNat + 3 := by omega
    refine byte_in e3 (by omega) (by omega) ⟨by decide, byte_in e3 (by omega) (by omega) ⟨by decide, byte_in e3 (by omega) (by omega) ⟨by decide, byte_in e3 (by omega) (by omega) ?_⟩⟩⟩
    refine ⟨i0, by omega, put_word v3 (i := i.toNat) (by omega) (by omega) fun h4 v4 o4 s4 => ?_⟩
    rw [t0, t1, t2, t3] at v4
    have hi1 : (i + 1).toNat = i.toNat + 1 := by omega
    refine ⟨⟨by omega, by omega, o3.trans o4, ?_⟩, by first | omega | (dsimp only; omega)⟩
    rw [hi1]
    exact v4
  · have hi2 : i.toNat = 16 := by omega
    rw [hi2] at v3
    refine ⟨fun i hh => 16 ≤ i ∧ i ≤ 64 ∧ Only (· = h1.size) h2 hh ∧ Var 244 hh h1.size (.words .u32 64 (layB (layA bs 16) (i.toNat - 16))), fun i _ => ((64 : Int) - i).toNat, ⟨Int.le_refl 16, by decide, o3, v3⟩, ?_⟩
    rintro i h4 ⟨i0, i1, o4, v4⟩
    refine If.dec.2 ⟨fun hi => ?_, fun hi => ?_⟩
    · rw [wrap_i64 (n := i - 15) (by omega) (by omega), wrap_i64 (n := i - 2) (by omega) (by omega), wrap_i64 (n := i - 16) (by omega) (by omega), wrap_i64 (n := i - 7) (by omega) (by omega), wrap_i64 (n := i + 1) (by omega) (by omega)]
      have t0 : (i - 15).toNat = i.toNat - 15 := by omega
      have t1 : (i - 2).toNat = i.toNat - 2 := by omega
      have t2 : (i - 16).toNat = i.toNat - 16 := by omega
      have t3 : (i - 7).toNat = i.toNat - 7 := by omega
      rw [t0, t1, t2, t3]
      refine ⟨by omega, by omega, _, word_at v4 (by omega), by omega, by omega, _, word_at v4 (by omega), by omega, by omega, _, word_at v4 (by omega), by decide, by omega, by omega, _, word_at v4 (by omega), by decide, ?_⟩
      refine turn_spec ⟨_, rfl, Ext.refl _, turn_spec ⟨_, rfl, Ext.refl _, turn_spec ⟨_, rfl, Ext.refl _, turn_spec ⟨_, rfl, Ext.refl _, ?_⟩⟩⟩⟩
      refine ⟨by omega, by omega, put_word v4 (i := i.toNat) (by omega) (by omega) fun h5 v5 o5 s5 => ?_⟩
      have hi1 : (i + 1).toNat - 16 = (i.toNat - 16) + 1 := by omega
      have hi3 : 16 + (i.toNat - 16) = i.toNat := by omega
      refine ⟨⟨by omega, by omega, o4.trans o5, ?_⟩, by first | omega | (dsimp only; omega)⟩
      rw [hi1]
      unfold layB
      rw [hi3]
      unfold exAt ex
      exact v5
    · have hi2 : i.toNat - 16 = 48 := by omega
      rw [hi2] at v4
      have v0 : Var 244 h4 h.size (.words .u32 64 (Ws.zero 64)) := (v1.ext x2).only o4 (by omega)
      refine ⟨_, v4.at, put_in v0 (t := .words .u32 64 (layF bs)) (by simp only [TV.size]) fun h5 v5 o5 s5 => ⟨_, v5.at, ?_⟩⟩
      exact hr _ (Only.cut (only_ext h4 o4) o5 fun i hi => by omega)

end
end Go.Proofs.Ytldocdpdjdekiaa.Board
end

section
/- Digests: what the program's sha makes of short texts, under what `take` makes of a block. -/
namespace Go.Proofs.Ytldocdpdjdekiaa.Board
open Go Go.Vc

/-- Elements laid behind those of a slice, whatever they came from. -/
theorem append_raw {C : Ctx} {T : TypeId} {sz : Nat} {h : Heap} {t : Sl} {ts us : List TV} {K : Sl → Heap → Prop} (hsz : (C.ti T).size = sz) (hz : (C.ti T).z.size = sz) (hpos : 0 < (C.ti T).bytes) (h0 : 0 < sz)
    (hb : (t.len + us.length) * (C.ti T).bytes ≤ 70368744177664) (o : Own T sz h t ts) (hs : ∀ u ∈ us, u.size = sz)
    (hk : ∀ t' h', Own T sz h' t' (ts ++ us) → Only (fun b => ∃ l, t.a = some l ∧ l.b = b) h h' → (∀ l, t'.a = some l → (∃ l', t.a = some l' ∧ l'.b = l.b) ∨ h.size ≤ l.b) → K t' h') :
    vcAppend C T t us.length (TVs.cells us) h K := by
  have hlu := TVs.cells_uniform us hs
  have hsize : ∀ x ∈ ts ++ us, x.size = sz := fun x hx => by
    rcases List.mem_append.1 hx with h1 | h1
    · exact o.size x h1
    · exact hs x h1
  have hlen := TVs.cells_uniform ts o.size
  have olen := o.len
  have ocap := o.cap
  refine ⟨TVs.cells ts, ?_, hb, hpos, ?_, ?_, ?_⟩
  · rw [hsz]
    exact o.elems.cells o.size h0
  · intro hroom
    rcases o.row with rfl | ⟨b, rest, ha, hbk, hr⟩
    · simp only [Sl.nil] at hroom ⊢
      exact ⟨.inl (by omega), fun l hl => by cases hl⟩
    · refine ⟨.inr (by rw [ha]; rfl), fun l hl => ?_⟩
      rw [ha] at hl
      cases hl
      rw [hsz]
      simp only [Nat.zero_add]
      have hcl : us.length * sz ≤ rest.length := by
        rw [hr]
        exact Nat.mul_le_mul_right _ (by omega)
      have hfit : t.len * sz + (TVs.cells us).length ≤ (TVs.cells ts ++ rest).length := by
        simp only [List.length_append, hlen, ← o.len, hlu]
        omega
      refine ⟨wok_row hbk hfit, ?_⟩
      obtain ⟨g1, g2, g3⟩ := putl_get (TVs.cells us) h b (t.len * sz) _ T hbk hfit
      have hcc : TVs.cells (ts ++ us) = TVs.cells ts ++ TVs.cells us := TVs.cells_append _ _
      have hrow : (putl h b (t.len * sz) (TVs.cells us))[b]? = some (Go.Vc.row (TVs.cells (ts ++ us) ++ rest.drop (us.length * sz)) T) := by
        rw [g1, hcc, ← o.len, ← hlen]
        congr 2
        simp [hlu]
      have hrl : (rest.drop (us.length * sz)).length = (t.cap - (t.len + us.length)) * sz := by
        simp only [List.length_drop, hr]
        rw [← Nat.sub_sub, Nat.sub_mul (t.cap - t.len)]
      refine hk _ _ ⟨hsize, by simp [olen], by simp only; omega, .inr ⟨b, rest.drop (us.length * sz), rfl, hrow, hrl⟩⟩ ?_ ?_
      · refine ⟨by rw [g2]; exact Nat.le_refl _, fun b' hb' hn => ?_⟩
        exact g3 b' (fun hx => hn ⟨_, ha, hx.symm⟩)
      · intro l hl
        cases hl
        exact .inl ⟨_, ha, rfl⟩
  · intro hroom hn
    rcases o.row with rfl | ⟨b, rest, ha, _⟩
    · simp only [Sl.nil] at hroom
      have hu0 : us = [] := List.eq_nil_of_length_eq_zero (by omega)
      have ht0 : ts = [] := List.eq_nil_of_length_eq_zero (by simpa [Sl.nil] using olen)
      subst hu0
      refine hk _ _ ?_ (Only.refl _ _) (fun l hl => by cases hl)
      rw [ht0]
      exact Own.nil T sz h
    · rw [ha] at hn; cases hn
  · intro hroom c hc
    refine hk _ _ ⟨hsize, by simp [olen], hc, .inr ⟨_, zeros (C.ti T).z (c - (t.len + us.length)), rfl, ?_, ?_⟩⟩ ?_ ?_
    · rw [push_get, TVs.cells_append]
    · rw [zeros_length, hz]
    · exact Only.of_ext (Ext.push _ _)
    · intro l hl
      cases hl
      exact .inr (Nat.le_refl _)

abbrev bys (bs : List UInt8) : List TV := bs.map byTV

theorem bys_size (bs : List UInt8) : ∀ u ∈ bys bs, u.size = 1 := fun u hu => by
  obtain ⟨x, _, rfl⟩ := List.mem_map.1 hu
  rfl

theorem bys_cells : ∀ bs : List UInt8, TVs.cells (bys bs) = bs.map fun c => Value.int .u8 (c.toNat : Int)
  | [] => rfl
  | c :: bs => by
    show TV.cells (byTV c) ++ TVs.cells (bys bs) = _
    rw [bys_cells bs]
    rfl

theorem bytes5 : (ctx.ti 5).bytes = 1 := by kernel_rfl
theorem size5 : (ctx.ti 5).size = 1 := by kernel_rfl
theorem zsize5 : (ctx.ti 5).z.size = 1 := by kernel_rfl

section
variable {R : Value → Heap → Prop} {h : Heap}

/-- A row of bytes that lies in blocks of Q, as all blocks to come do. -/
structure Row (Q : Nat → Prop) (h : Heap) (s : Sl) (bs : List UInt8) : Prop where
  own : Own 5 1 h s (bys bs)
  far : ∀ l, s.a = some l → Q l.b
  new : ∀ i, h.size ≤ i → Q i

theorem Row.len {Q : Nat → Prop} {s : Sl} {bs : List UInt8} (r : Row Q h s bs) : bs.length = s.len := by have := r.own.len; rwa [List.length_map] at this

theorem app_bytes {Q : Nat → Prop} {s : Sl} {bs us : List UInt8} {K : Sl → Heap → Prop} (r : Row Q h s bs) (hl : bs.length + us.length < 10000)
    (hk : ∀ s' h', Row Q h' s' (bs ++ us) → Only (In s) h h' → (∀ l, s'.a = some l → (∃ l', s.a = some l' ∧ l'.b = l.b) ∨ h.size ≤ l.b) → K s' h') :
    vcAppend ctx 5 s us.length (us.map fun c => Value.int .u8 (c.toNat : Int)) h K := by
  have rl := r.len
  have := append_raw (C := ctx) (T := 5) (us := bys us) (K := K) size5 zsize5 (by rw [bytes5]; decide) (by decide) (by rw [bytes5, List.length_map]; omega) r.own (bys_size us) fun s' h' o f b => hk s' h' ⟨by simpa [bys] using o, fun l hl => ?_, fun i hi => r.new i (Nat.le_trans f.size hi)⟩ f b
  · rw [List.length_map, bys_cells] at this
    exact this
  · rcases b l hl with ⟨l', h1, h2⟩ | h1
    · rw [← h2]; exact r.far l' h1
    · exact r.new _ h1

theorem app_byte {Q : Nat → Prop} {s : Sl} {bs : List UInt8} {c : Int} {K : Sl → Heap → Prop} (r : Row Q h s bs) (hl : bs.length < 10000) (c0 : 0 ≤ c) (c1 : c < 256)
    (hk : ∀ s' h', Row Q h' s' (bs ++ [UInt8.ofNat c.toNat]) → Only (In s) h h' → (∀ l, s'.a = some l → (∃ l', s.a = some l' ∧ l'.b = l.b) ∨ h.size ≤ l.b) → K s' h') :
    ∃ new, slAt (h.push (row (TVs.cells [TV.int .u8 c]) 5)) (Sl.mk (some (Vc.Loc.mk h.size 0)) 1 1) 1 new ∧ (∀ v ∈ new, isOne v = true) ∧ vcAppend ctx 5 s 1 new (h.push (row (TVs.cells [TV.int .u8 c]) 5)) K := by
  have rl := r.len
  refine append1 (C := ctx) (T := 5) (sz := 1) (x := .int .u8 c) size5 zsize5 (by rw [bytes5]; decide) (by rw [bytes5]; omega) r.own rfl rfl fun s' h' o f b => hk s' h' ⟨?_, fun l hl => ?_, fun i hi => r.new i (Nat.le_trans f.size hi)⟩ f b
  · have e : byTV (UInt8.ofNat c.toNat) = TV.int .u8 c := by
      unfold byTV
      rw [UInt8.toNat_ofNat']
      congr 1
      omega
    have : bys (bs ++ [UInt8.ofNat c.toNat]) = bys bs ++ [TV.int .u8 c] := by simp [bys, e]
    rw [this]
    exact o
  · rcases b l hl with ⟨l', h1, h2⟩ | h1
    · rw [← h2]; exact r.far l' h1
    · exact r.new _ h1

theorem Row.cut {Q : Nat → Prop} {s : Sl} {bs : List UInt8} (r : Row Q h s bs) {h' : Heap} (o : Only (In s) h h') : Only Q h h' := o.mono fun i ⟨l, hl, e⟩ => by rw [← e]; exact r.far l hl

/-! ### The state -/

structure St (Q : Nat → Prop) (h : Heap) (b : Nat) (w : Ws 8) (s : Sl) (bs : List UInt8) (n : Int) : Prop where
  var : Var 209 h b (.agg [.words .u32 8 w, .slice s, .int .u64 n])
  row : Row Q h s bs
  far : Q b
  apart : ∀ l, s.a = some l → l.b ≠ b

variable {Q : Nat → Prop} {b : Nat} {w : Ws 8} {s : Sl} {bs : List UInt8} {n : Int}

theorem St.words (st : St Q h b w s bs n) : atWords h b 0 .u32 8 w := st.var.at.1
theorem St.rest (st : St Q h b w s bs n) : at1 h b 8 (slVal s) := st.var.at.2.1
theorem St.count (st : St Q h b w s bs n) : at1 h b 9 (.int .u64 n) := st.var.at.2.2

/-- Behind an append to the rest, and its storing. -/
theorem St.grown {h1 : Heap} {s' : Sl} {bs' : List UInt8} (st : St Q h b w s bs n) (r1 : Row Q h1 s' bs') (o1 : Only (In s) h h1) (b1 : ∀ l, s'.a = some l → (∃ l', s.a = some l' ∧ l'.b = l.b) ∨ h.size ≤ l.b) {K : Heap → Prop}
    (hk : ∀ h2, St Q h2 b w s' bs' n → Only Q h h2 → h2.size = h1.size → K h2) : wok h1 b 8 1 ∧ Bind ((TV.slice s').put h1 b 8) K := by
  have hne : ∀ l, s'.a = some l → l.b ≠ b := fun l hl e => by
    rcases b1 l hl with ⟨l', h9, h10⟩ | h9
    · exact st.apart l' h9 (h10.trans e)
    · have := st.var.lt; omega
  have v1 := st.var.only o1 (fun ⟨l, hl, e⟩ => st.apart l hl e)
  refine field_in (i := 1) (t0 := .slice s) v1 rfl rfl rfl rfl fun h2 v2 o2 s2 => hk h2 ⟨v2, ⟨r1.own.only o2 hne, r1.far, fun i hi => r1.new i (by omega)⟩, st.far, hne⟩ ((st.row.cut o1).trans (o2.mono fun i hi => by subst hi; exact st.far)) s2

def lenAt (h : Heap) (b : Nat) : Nat := match cel h b 8 with
  | some (.slice _ l _) => l
  | _ => 0

theorem lenAt_of (hr : at1 h b 8 (slVal s)) : lenAt h b = s.len := by
  unfold Board.lenAt
  unfold at1 at hr
  rw [hr]
  rfl

end
end Go.Proofs.Ytldocdpdjdekiaa.Board
end

section
/- Digests: the end of a digest, and the digest of two short texts, under what `take` makes of a block; a validator's lot. -/
namespace Go.Proofs.Ytldocdpdjdekiaa.Board
open Go Go.Vc
section
variable {R : Value → Heap → Prop} {h : Heap}

/-- What take makes of a block of 64 bytes. -/
def Takes (takeF : Ws 8 → List UInt8 → Ws 8) : Prop := ∀ (h : Heap) (R : Value → Heap → Prop) (b : Nat) (w : Ws 8) (s q : Sl) (bs : List UInt8) (n : Int), Var 209 h b (.agg [.words .u32 8 w, .slice s, .int .u64 n]) →
  Elems 1 h q (bys bs) → bs.length = 64 → (∀ l, q.a = some l → l.b ≠ b) →
  (∀ h', Var 209 h' b (.agg [.words .u32 8 (takeF w bs), .slice s, .int .u64 n]) → Only (· = b) h h' → R (TV.tup []).val h') → CallsH Try.prog 134 (TVs.vals [.ptr (some ⟨b, 0⟩), .slice q]) h R

theorem cut_elems {s : Sl} {ts : List TV} {i j : Nat} (e : Elems 1 h s ts) (hij : i ≤ j) (hj : j ≤ s.len) (hcap : s.len ≤ s.cap) : Elems 1 h (cutSl s i j 1) ((ts.drop i).take (j - i)) := by
  have hl := e.len
  refine ⟨by simp only [cutSl, List.length_take, List.length_drop]; omega, fun hn => ?_, fun l hla k t ht => ?_⟩
  · unfold cutSl at hn
    simp only at hn
    have : ts = [] ∨ i = j := by
      split at hn
      · right
        omega
      · left
        cases hs : s.a with
        | none => exact e.nil hs
        | some l => rw [hs] at hn; simp at hn
    rcases this with rfl | rfl
    · simp
    · simp
  · unfold cutSl at hla
    simp only at hla
    rw [List.getElem?_take] at ht
    split at ht
    · rename_i hk
      rw [List.getElem?_drop] at ht
      split at hla
      · omega
      · cases hs : s.a with
        | none => rw [hs] at hla; simp at hla
        | some l0 =>
          rw [hs] at hla
          simp only [Option.map_some, Option.some.injEq] at hla
          subst hla
          have := e.get l0 hs (i + k) t ht
          simp only [Nat.mul_one] at this ⊢
          rw [Nat.add_assoc]
          exact this
    · cases ht

theorem cut_block {s : Sl} {i j : Nat} {l : Vc.Loc} (hl : (cutSl s i j 1).a = some l) : ∃ l', s.a = some l' ∧ l'.b = l.b := by
  unfold cutSl at hl
  simp only at hl
  split at hl
  · exact ⟨l, hl, rfl⟩
  · cases hs : s.a with
    | none => rw [hs] at hl; simp at hl
    | some l0 =>
      rw [hs] at hl
      simp only [Option.map_some, Option.some.injEq] at hl
      subst hl
      exact ⟨l0, rfl, rfl⟩

theorem wrap_u8 (n : Int) : IntKind.wrap .u8 n = n % 256 := by
  unfold IntKind.wrap
  show (if (false && _) = true then _ else n % 2 ^ 8) = n % 256
  simp

theorem wrap_u8_range (n : Int) : 0 ≤ IntKind.wrap .u8 n ∧ IntKind.wrap .u8 n < 256 := by
  rw [wrap_u8]
  omega

theorem put_byte {T : TypeId} {h : Heap} {b n i o : Nat} {x : Bs n} {K : Heap → Prop} (v : Var T h b (.bytes n x)) (hi : i < n) (ho : o = i) {c : Int} (h0 : 0 ≤ c) (h1 : c < 256)
    (hk : ∀ h1, Var T h1 b (.bytes n (x.set i (UInt8.ofNat c.toNat))) → Only (· = b) h h1 → h1.size = h.size → K h1) : wok h b o 1 ∧ Bind ((TV.int .u8 c).put h b o) K := by
  subst ho
  have hl : o + (TV.int .u8 c).size ≤ (TV.bytes n x).cells.length := by rw [TV.cells_length]; simp only [TV.size]; omega
  refine ⟨v.wok (by simp only [TV.size]; omega), hk _ ?_ (put_only v hl) (put_size v hl)⟩
  have := put_row (t := .int .u8 c) v hl
  unfold Var
  rw [this]
  congr 2
  simp only [TV.cells, TV.size, Bs.set, List.map_set]
  have e : ((UInt8.ofNat c.toNat).toNat : Int) = c := by
    rw [UInt8.toNat_ofNat']
    omega
  rw [e, List.set_eq_take_append_cons_drop, if_pos (by rw [List.length_map, x.h]; exact hi)]
  simp

def lenB (n i : Int) : Int := IntKind.wrap .u8 (Int.fdiv (IntKind.wrap .u64 (n * 8)) (2 ^ min (Int.toNat (IntKind.wrap .i64 (56 - IntKind.wrap .i64 (8 * i)))) (IntKind.bits .u64)))
def lens (n : Int) : Nat → List UInt8
  | 0 => []
  | i + 1 => lens n i ++ [UInt8.ofNat (lenB n (i : Int)).toNat]

theorem lens_length (n : Int) : ∀ i, (lens n i).length = i
  | 0 => rfl
  | i + 1 => by simp [lens, lens_length n i]

def ob (x k : Int) : Int := IntKind.wrap .u8 (Int.fdiv x (2 ^ min (Int.toNat k) (IntKind.bits .u32)))
def out1 (w : Ws 8) (i : Nat) (x : Bs 32) : Bs 32 :=
  (((x.set (4 * i) (UInt8.ofNat (ob (wd w i) 24).toNat)).set (4 * i + 1) (UInt8.ofNat (ob (wd w i) 16).toNat)).set (4 * i + 2) (UInt8.ofNat (ob (wd w i) 8).toNat)).set (4 * i + 3) (UInt8.ofNat (IntKind.wrap .u8 (wd w i)).toNat)
def outF (w : Ws 8) : Nat → Bs 32
  | 0 => Bs.zero 32
  | i + 1 => out1 w i (outF w i)

variable {Q : Nat → Prop} {b : Nat} {w : Ws 8} {s : Sl} {bs : List UInt8} {n : Int} {takeF : Ws 8 → List UInt8 → Ws 8}

end
end Go.Proofs.Ytldocdpdjdekiaa.Board
end

section
/- Regions that make several things in whatever order: what has been made so far, as a list. -/
namespace Go.Vc
open Go

/-- A thing that was made: its block, its type, what it holds. -/
structure Made where
  b : Nat
  T : TypeId
  t : TV

/-- What stood at h stands; what was made since holds what the list says; no two of it share a block. -/
structure Bag (h hh : Heap) (l : List Made) : Prop where
  ext : Ext h hh
  var : ∀ x ∈ l, Var x.T hh x.b x.t
  new : ∀ x ∈ l, h.size ≤ x.b
  two : l.Pairwise fun x y => x.b ≠ y.b

section
variable {h hh : Heap} {l : List Made}

theorem Bag.nil (h : Heap) : Bag h h [] := ⟨Ext.refl _, (fun _ hx => by cases hx), (fun _ hx => by cases hx), List.Pairwise.nil⟩

theorem Bag.on {h' : Heap} (B : Bag h hh l) (e : Ext hh h') : Bag h h' l := ⟨B.ext.trans e, fun x hx => (B.var x hx).ext e, B.new, B.two⟩

theorem Bag.make {T : TypeId} {t : TV} {K : Heap → Prop} (B : Bag h hh l) (hk : ∀ h', Ext hh h' → Bag h h' (⟨hh.size, T, t⟩ :: l) → K h') : Bind (newTV hh t T) K :=
  newTV_in fun h' v x _ => hk h' x ⟨B.ext.trans x, fun y hy => by
    rcases List.mem_cons.1 hy with rfl | hy
    · exact v
    · exact (B.var y hy).ext x, fun y hy => by
    rcases List.mem_cons.1 hy with rfl | hy
    · exact B.ext.size
    · exact B.new y hy, List.pairwise_cons.2 ⟨fun y hy => by
      have := (B.var y hy).lt
      intro hn
      simp only at hn
      omega, B.two⟩⟩

theorem Bag.put0 {b n : Nat} {T : TypeId} {t0 t : TV} {K : Heap → Prop} (B : Bag h hh (⟨b, T, t0⟩ :: l)) (ht : t.size = t0.size) (hn : n = t0.size) (hk : ∀ h', Bag h h' (⟨b, T, t⟩ :: l) → K h') : wok hh b 0 n ∧ Bind (t.put hh b 0) K := by
  subst hn
  have hp := List.pairwise_cons.1 B.two
  have hb := B.new _ (List.mem_cons_self ..)
  refine put_in (B.var _ (List.mem_cons_self ..)) ht fun h' v o _ => hk h' ⟨Only.cut B.ext o fun i hi => by subst hi; exact hb, fun y hy => ?_, fun y hy => ?_, List.pairwise_cons.2 ⟨fun y hy => hp.1 y hy, hp.2⟩⟩
  · rcases List.mem_cons.1 hy with rfl | hy
    · exact v
    · exact (B.var y (List.mem_cons_of_mem _ hy)).only o fun hn => hp.1 y hy hn.symm
  · rcases List.mem_cons.1 hy with rfl | hy
    · exact hb
    · exact B.new y (List.mem_cons_of_mem _ hy)

theorem Bag.perm {l' : List Made} (B : Bag h hh l) (hp : l.Perm l') : Bag h hh l' :=
  ⟨B.ext, fun x hx => B.var x (hp.mem_iff.2 hx), fun x hx => B.new x (hp.mem_iff.2 hx), hp.pairwise B.two fun hxy => hxy.symm⟩

theorem Bag.turn {x y : Made} (B : Bag h hh (x :: y :: l)) : Bag h hh (y :: x :: l) := B.perm (List.Perm.swap ..)
theorem Bag.turn2 {x y z : Made} (B : Bag h hh (x :: y :: z :: l)) : Bag h hh (z :: x :: y :: l) := B.perm (by
  refine List.Perm.trans (List.Perm.cons x (List.Perm.swap z y l)) (List.Perm.swap z x _))

theorem Bag.put1 {b n : Nat} {T : TypeId} {t0 t : TV} {K : Heap → Prop} {x : Made} (B : Bag h hh (x :: ⟨b, T, t0⟩ :: l)) (ht : t.size = t0.size) (hn : n = t0.size) (hk : ∀ h', Bag h h' (x :: ⟨b, T, t⟩ :: l) → K h') : wok hh b 0 n ∧ Bind (t.put hh b 0) K :=
  B.turn.put0 ht hn fun h' B' => hk h' B'.turn
theorem Bag.put2 {b n : Nat} {T : TypeId} {t0 t : TV} {K : Heap → Prop} {x y : Made} (B : Bag h hh (x :: y :: ⟨b, T, t0⟩ :: l)) (ht : t.size = t0.size) (hn : n = t0.size) (hk : ∀ h', Bag h h' (x :: y :: ⟨b, T, t⟩ :: l) → K h') : wok hh b 0 n ∧ Bind (t.put hh b 0) K :=
  B.turn2.put0 ht hn fun h' B' => hk h' (B'.perm (List.Perm.trans (List.Perm.swap ..) (List.Perm.cons _ (List.Perm.swap ..))))

theorem Bag.v0 {b : Nat} {T : TypeId} {t : TV} (B : Bag h hh (⟨b, T, t⟩ :: l)) : Var T hh b t := B.var _ (List.mem_cons_self ..)
theorem Bag.v1 {b : Nat} {T : TypeId} {t : TV} {x : Made} (B : Bag h hh (x :: ⟨b, T, t⟩ :: l)) : Var T hh b t := B.turn.v0
theorem Bag.v2 {b : Nat} {T : TypeId} {t : TV} {x y : Made} (B : Bag h hh (x :: y :: ⟨b, T, t⟩ :: l)) : Var T hh b t := B.turn2.v0
theorem Bag.n0 {b : Nat} {T : TypeId} {t : TV} (B : Bag h hh (⟨b, T, t⟩ :: l)) : h.size ≤ b := B.new _ (List.mem_cons_self ..)
theorem Bag.n1 {b : Nat} {T : TypeId} {t : TV} {x : Made} (B : Bag h hh (x :: ⟨b, T, t⟩ :: l)) : h.size ≤ b := B.turn.n0
theorem Bag.n2 {b : Nat} {T : TypeId} {t : TV} {x y : Made} (B : Bag h hh (x :: y :: ⟨b, T, t⟩ :: l)) : h.size ≤ b := B.turn2.n0

end
end Go.Vc
end

section
/- The conditions of functions, as the generator reckons them out, each with the proof that it is that. -/
namespace Go.Proofs.Ytldocdpdjdekiaa
open Go Go.Vc
set_option maxRecDepth 100000
set_option linter.unusedVariables false

def sha_state_take_vc (s_ : Option Go.Vc.Loc) (b : Sl) (h : Heap) (R : Value → Heap → Prop) : Prop := Join (fun (s : Option Go.Vc.Loc × Option Go.Vc.Loc × Option Go.Vc.Loc) (h : Array Obj) ↦ Go.Vc.Loop (0 : Int) h fun (s_1 : Int) (h : Array Obj) (K : Int → Array Obj → Prop) ↦ If (decide (s_1 < 64)) ((0 : Int) ≤ 0 ∧ 0 < (↑8 : Int) ∧ Nn s.snd.snd fun l ↦ ∃ (n : Int), at1 h l.b (l.o + Int.toNat 0 * 1) (.int .u32 n) ∧ (0 : Int) ≤ 4 ∧ 4 < (↑8 : Int) ∧ Nn s.snd.snd fun l ↦ ∃ (n_1 : Int), at1 h l.b (l.o + Int.toNat 4 * 1) (.int .u32 n_1) ∧ (0 : Int) ≤ 7 ∧ 7 < (↑8 : Int) ∧ Nn s.snd.snd fun l ↦ ∃ (n_2 : Int), at1 h l.b (l.o + Int.toNat 7 * 1) (.int .u32 n_2) ∧ (0 : Int) ≤ 5 ∧ 5 < (↑8 : Int) ∧ Nn s.snd.snd fun l ↦ ∃ (n_3 : Int), at1 h l.b (l.o + Int.toNat 5 * 1) (.int .u32 n_3) ∧ (0 : Int) ≤ 6 ∧ 6 < (↑8 : Int) ∧ Nn s.snd.snd fun l ↦ ∃ (n_4 : Int), at1 h l.b (l.o + Int.toNat 6 * 1) (.int .u32 n_4) ∧ 0 ≤ s_1 ∧ s_1 < (↑64 : Int) ∧ Nn s.snd.fst fun l ↦ ∃ (n_5 : Int), at1 h l.b (l.o + Int.toNat s_1 * 1) (.int .u32 n_5) ∧ 0 ≤ s_1 ∧ s_1 < (↑64 : Int) ∧ Nn s.fst fun l ↦ ∃ (n_6 : Int), at1 h l.b (l.o + Int.toNat s_1 * 1) (.int .u32 n_6) ∧ CallsH Try.prog 158 (TVs.vals [.int .u32 n_1, .int .i64 6]) h fun v h_1 ↦ ∃ (n_7 : Int), v = TV.val (.int .u32 n_7) ∧ Ext h h_1 ∧ CallsH Try.prog 158 (TVs.vals [.int .u32 n_1, .int .i64 11]) h_1 fun v h ↦ ∃ (n_8 : Int), v = TV.val (.int .u32 n_8) ∧ Ext h_1 h ∧ CallsH Try.prog 158 (TVs.vals [.int .u32 n_1, .int .i64 25]) h fun v h_2 ↦ ∃ (n_9 : Int), v = TV.val (.int .u32 n_9) ∧ Ext h h_2 ∧ (0 : Int) ≤ 1 ∧ 1 < (↑8 : Int) ∧ Nn s.snd.snd fun l ↦ ∃ (n_10 : Int), at1 h_2 l.b (l.o + Int.toNat 1 * 1) (.int .u32 n_10) ∧ (0 : Int) ≤ 2 ∧ 2 < (↑8 : Int) ∧ Nn s.snd.snd fun l ↦ ∃ (n_11 : Int), at1 h_2 l.b (l.o + Int.toNat 2 * 1) (.int .u32 n_11) ∧ (0 : Int) ≤ 1 ∧ 1 < (↑8 : Int) ∧ Nn s.snd.snd fun l ↦ ∃ (n_12 : Int), at1 h_2 l.b (l.o + Int.toNat 1 * 1) (.int .u32 n_12) ∧ (0 : Int) ≤ 2 ∧ 2 < (↑8 : Int) ∧ Nn s.snd.snd fun l ↦ ∃ (n_13 : Int), at1 h_2 l.b (l.o + Int.toNat 2 * 1) (.int .u32 n_13) ∧ CallsH Try.prog 158 (TVs.vals [.int .u32 n, .int .i64 2]) h_2 fun v h ↦ ∃ (n_14 : Int), v = TV.val (.int .u32 n_14) ∧ Ext h_2 h ∧ CallsH Try.prog 158 (TVs.vals [.int .u32 n, .int .i64 13]) h fun v h_3 ↦ ∃ (n_15 : Int), v = TV.val (.int .u32 n_15) ∧ Ext h h_3 ∧ CallsH Try.prog 158 (TVs.vals [.int .u32 n, .int .i64 22]) h_3 fun v h ↦ ∃ (n_16 : Int), v = TV.val (.int .u32 n_16) ∧ Ext h_3 h ∧ Nn s.snd.snd fun l ↦ (0 : Int) ≤ 1 ∧ 1 ≤ (↑8 : Int) ∧ Nn s.snd.snd fun l_1 ↦ (0 : Int) ≤ 7 ∧ 7 ≤ (↑8 : Int) ∧ ∃ (new : List Value), slAt h (Sl.mk (cutSl (Sl.mk (some l_1) 8 8) 0 (Int.toNat 7) 1).a (Nat.min (cutSl (Sl.mk (some l_1) 8 8) 0 (Int.toNat 7) 1).len (cutSl (Sl.mk (some l) 8 8) (Int.toNat 1) 8 1).len) (Nat.min (cutSl (Sl.mk (some l_1) 8 8) 0 (Int.toNat 7) 1).len (cutSl (Sl.mk (some l) 8 8) (Int.toNat 1) 8 1).len)) 1 new ∧ (∀ (v : Value), v ∈ new → isOne v = true) ∧ ((cutSl (Sl.mk (some l) 8 8) (Int.toNat 1) 8 1).a = none → (0 : Int) ≤ 4 ∧ 4 < (↑8 : Int) ∧ Nn s.snd.snd fun l ↦ ∃ (n_17 : Int), at1 h l.b (l.o + Int.toNat 4 * 1) (.int .u32 n_17) ∧ (0 : Int) ≤ 4 ∧ 4 < (↑8 : Int) ∧ Nn s.snd.snd fun l ↦ wok h l.b (l.o + Int.toNat 4 * 1) 1 ∧ Vc.Bind (TV.put h l.b (l.o + Int.toNat 4 * 1) (.int .u32 (IntKind.wrap .u32 (n_17 + IntKind.wrap .u32 (IntKind.wrap .u32 (IntKind.wrap .u32 (IntKind.wrap .u32 (n_2 + IntKind.wrap .u32 (↑(BitVec.toNat (BitVec.ofInt (IntKind.bits .u32) (IntKind.wrap .u32 (↑(BitVec.toNat (BitVec.ofInt (IntKind.bits .u32) n_7 ^^^ BitVec.ofInt (IntKind.bits .u32) n_8)) : Int)) ^^^ BitVec.ofInt (IntKind.bits .u32) n_9)) : Int)) + IntKind.wrap .u32 (↑(BitVec.toNat (BitVec.ofInt (IntKind.bits .u32) (IntKind.wrap .u32 (↑(BitVec.toNat (BitVec.ofInt (IntKind.bits .u32) n_1 &&& BitVec.ofInt (IntKind.bits .u32) n_3)) : Int)) ^^^ BitVec.ofInt (IntKind.bits .u32) (IntKind.wrap .u32 (↑(BitVec.toNat (BitVec.ofInt (IntKind.bits .u32) (IntKind.wrap .u32 (↑(BitVec.toNat (BitVec.ofInt (IntKind.bits .u32) (if IntKind.signed IntKind.u32 = true then (-1) else IntKind.max IntKind.u32) ^^^ BitVec.ofInt (IntKind.bits .u32) n_1)) : Int)) &&& BitVec.ofInt (IntKind.bits .u32) n_4)) : Int)))) : Int)) + n_5) + n_6))))) fun h ↦ (0 : Int) ≤ 0 ∧ 0 < (↑8 : Int) ∧ Nn s.snd.snd fun l ↦ wok h l.b (l.o + Int.toNat 0 * 1) 1 ∧ Vc.Bind (TV.put h l.b (l.o + Int.toNat 0 * 1) (.int .u32 (IntKind.wrap .u32 (IntKind.wrap .u32 (IntKind.wrap .u32 (IntKind.wrap .u32 (IntKind.wrap .u32 (n_2 + IntKind.wrap .u32 (↑(BitVec.toNat (BitVec.ofInt (IntKind.bits .u32) (IntKind.wrap .u32 (↑(BitVec.toNat (BitVec.ofInt (IntKind.bits .u32) n_7 ^^^ BitVec.ofInt (IntKind.bits .u32) n_8)) : Int)) ^^^ BitVec.ofInt (IntKind.bits .u32) n_9)) : Int)) + IntKind.wrap .u32 (↑(BitVec.toNat (BitVec.ofInt (IntKind.bits .u32) (IntKind.wrap .u32 (↑(BitVec.toNat (BitVec.ofInt (IntKind.bits .u32) n_1 &&& BitVec.ofInt (IntKind.bits .u32) n_3)) : Int)) ^^^ BitVec.ofInt (IntKind.bits .u32) (IntKind.wrap .u32 (↑(BitVec.toNat (BitVec.ofInt (IntKind.bits .u32) (IntKind.wrap .u32 (↑(BitVec.toNat (BitVec.ofInt (IntKind.bits .u32) (if IntKind.signed IntKind.u32 = true then (-1) else IntKind.max IntKind.u32) ^^^ BitVec.ofInt (IntKind.bits .u32) n_1)) : Int)) &&& BitVec.ofInt (IntKind.bits .u32) n_4)) : Int)))) : Int)) + n_5) + n_6) + IntKind.wrap .u32 (IntKind.wrap .u32 (↑(BitVec.toNat (BitVec.ofInt (IntKind.bits .u32) (IntKind.wrap .u32 (↑(BitVec.toNat (BitVec.ofInt (IntKind.bits .u32) n_14 ^^^ BitVec.ofInt (IntKind.bits .u32) n_15)) : Int)) ^^^ BitVec.ofInt (IntKind.bits .u32) n_16)) : Int) + IntKind.wrap .u32 (↑(BitVec.toNat (BitVec.ofInt (IntKind.bits .u32) (IntKind.wrap .u32 (↑(BitVec.toNat (BitVec.ofInt (IntKind.bits .u32) (IntKind.wrap .u32 (↑(BitVec.toNat (BitVec.ofInt (IntKind.bits .u32) n &&& BitVec.ofInt (IntKind.bits .u32) n_10)) : Int)) ^^^ BitVec.ofInt (IntKind.bits .u32) (IntKind.wrap .u32 (↑(BitVec.toNat (BitVec.ofInt (IntKind.bits .u32) n &&& BitVec.ofInt (IntKind.bits .u32) n_11)) : Int)))) : Int)) ^^^ BitVec.ofInt (IntKind.bits .u32) (IntKind.wrap .u32 (↑(BitVec.toNat (BitVec.ofInt (IntKind.bits .u32) n_12 &&& BitVec.ofInt (IntKind.bits .u32) n_13)) : Int)))) : Int)))))) fun h ↦ K (IntKind.wrap .i64 (s_1 + 1)) h) ∧ ∀ (l_2 : Go.Vc.Loc), (cutSl (Sl.mk (some l) 8 8) (Int.toNat 1) 8 1).a = some l_2 → wok h l_2.b l_2.o (List.length new) ∧ Vc.Bind (putl h l_2.b l_2.o new) fun h ↦ (0 : Int) ≤ 4 ∧ 4 < (↑8 : Int) ∧ Nn s.snd.snd fun l ↦ ∃ (n_17 : Int), at1 h l.b (l.o + Int.toNat 4 * 1) (.int .u32 n_17) ∧ (0 : Int) ≤ 4 ∧ 4 < (↑8 : Int) ∧ Nn s.snd.snd fun l ↦ wok h l.b (l.o + Int.toNat 4 * 1) 1 ∧ Vc.Bind (TV.put h l.b (l.o + Int.toNat 4 * 1) (.int .u32 (IntKind.wrap .u32 (n_17 + IntKind.wrap .u32 (IntKind.wrap .u32 (IntKind.wrap .u32 (IntKind.wrap .u32 (n_2 + IntKind.wrap .u32 (↑(BitVec.toNat (BitVec.ofInt (IntKind.bits .u32) (IntKind.wrap .u32 (↑(BitVec.toNat (BitVec.ofInt (IntKind.bits .u32) n_7 ^^^ BitVec.ofInt (IntKind.bits .u32) n_8)) : Int)) ^^^ BitVec.ofInt (IntKind.bits .u32) n_9)) : Int)) + IntKind.wrap .u32 (↑(BitVec.toNat (BitVec.ofInt (IntKind.bits .u32) (IntKind.wrap .u32 (↑(BitVec.toNat (BitVec.ofInt (IntKind.bits .u32) n_1 &&& BitVec.ofInt (IntKind.bits .u32) n_3)) : Int)) ^^^ BitVec.ofInt (IntKind.bits .u32) (IntKind.wrap .u32 (↑(BitVec.toNat (BitVec.ofInt (IntKind.bits .u32) (IntKind.wrap .u32 (↑(BitVec.toNat (BitVec.ofInt (IntKind.bits .u32) (if IntKind.signed IntKind.u32 = true then (-1) else IntKind.max IntKind.u32) ^^^ BitVec.ofInt (IntKind.bits .u32) n_1)) : Int)) &&& BitVec.ofInt (IntKind.bits .u32) n_4)) : Int)))) : Int)) + n_5) + n_6))))) fun h ↦ (0 : Int) ≤ 0 ∧ 0 < (↑8 : Int) ∧ Nn s.snd.snd fun l ↦ wok h l.b (l.o + Int.toNat 0 * 1) 1 ∧ Vc.Bind (TV.put h l.b (l.o + Int.toNat 0 * 1) (.int .u32 (IntKind.wrap .u32 (IntKind.wrap .u32 (IntKind.wrap .u32 (IntKind.wrap .u32 (IntKind.wrap .u32 (n_2 + IntKind.wrap .u32 (↑(BitVec.toNat (BitVec.ofInt (IntKind.bits .u32) (IntKind.wrap .u32 (↑(BitVec.toNat (BitVec.ofInt (IntKind.bits .u32) n_7 ^^^ BitVec.ofInt (IntKind.bits .u32) n_8)) : Int)) ^^^ BitVec.ofInt (IntKind.bits .u32) n_9)) : Int)) + IntKind.wrap .u32 (↑(BitVec.toNat (BitVec.ofInt (IntKind.bits .u32) (IntKind.wrap .u32 (↑(BitVec.toNat (BitVec.ofInt (IntKind.bits .u32) n_1 &&& BitVec.ofInt (IntKind.bits .u32) n_3)) : Int)) ^^^ BitVec.ofInt (IntKind.bits .u32) (IntKind.wrap .u32 (↑(BitVec.toNat (BitVec.ofInt (IntKind.bits .u32) (IntKind.wrap .u32 (↑(BitVec.toNat (BitVec.ofInt (IntKind.bits .u32) (if IntKind.signed IntKind.u32 = true then (-1) else IntKind.max IntKind.u32) ^^^ BitVec.ofInt (IntKind.bits .u32) n_1)) : Int)) &&& BitVec.ofInt (IntKind.bits .u32) n_4)) : Int)))) : Int)) + n_5) + n_6) + IntKind.wrap .u32 (IntKind.wrap .u32 (↑(BitVec.toNat (BitVec.ofInt (IntKind.bits .u32) (IntKind.wrap .u32 (↑(BitVec.toNat (BitVec.ofInt (IntKind.bits .u32) n_14 ^^^ BitVec.ofInt (IntKind.bits .u32) n_15)) : Int)) ^^^ BitVec.ofInt (IntKind.bits .u32) n_16)) : Int) + IntKind.wrap .u32 (↑(BitVec.toNat (BitVec.ofInt (IntKind.bits .u32) (IntKind.wrap .u32 (↑(BitVec.toNat (BitVec.ofInt (IntKind.bits .u32) (IntKind.wrap .u32 (↑(BitVec.toNat (BitVec.ofInt (IntKind.bits .u32) n &&& BitVec.ofInt (IntKind.bits .u32) n_10)) : Int)) ^^^ BitVec.ofInt (IntKind.bits .u32) (IntKind.wrap .u32 (↑(BitVec.toNat (BitVec.ofInt (IntKind.bits .u32) n &&& BitVec.ofInt (IntKind.bits .u32) n_11)) : Int)))) : Int)) ^^^ BitVec.ofInt (IntKind.bits .u32) (IntKind.wrap .u32 (↑(BitVec.toNat (BitVec.ofInt (IntKind.bits .u32) n_12 &&& BitVec.ofInt (IntKind.bits .u32) n_13)) : Int)))) : Int)))))) fun h ↦ K (IntKind.wrap .i64 (s_1 + 1)) h) (Go.Vc.Loop (0 : Int) h fun (s_2 : Int) (h : Array Obj) (K : Int → Array Obj → Prop) ↦ If (decide (s_2 < 8)) (Nn s_ fun l ↦ 0 ≤ s_2 ∧ s_2 < (↑8 : Int) ∧ ∃ (n : Int), at1 h l.b (l.o + Int.toNat s_2 * 1) (.int .u32 n) ∧ 0 ≤ s_2 ∧ s_2 < (↑8 : Int) ∧ Nn s.snd.snd fun l ↦ ∃ (n_1 : Int), at1 h l.b (l.o + Int.toNat s_2 * 1) (.int .u32 n_1) ∧ Nn s_ fun l ↦ 0 ≤ s_2 ∧ s_2 < (↑8 : Int) ∧ wok h l.b (l.o + Int.toNat s_2 * 1) 1 ∧ Vc.Bind (TV.put h l.b (l.o + Int.toNat s_2 * 1) (.int .u32 (IntKind.wrap .u32 (n + n_1)))) fun h ↦ K (IntKind.wrap .i64 (s_2 + 1)) h) (R (TV.val (.tup [])) h))) fun (J : Option Go.Vc.Loc × Option Go.Vc.Loc × Option Go.Vc.Loc → Array Obj → Prop) ↦ Nn s_ fun l ↦ ∃ (w : Ws 8), atWords h l.b l.o IntKind.u32 8 w ∧ (CallsH Try.prog 156 (TVs.vals [.slice b]) h fun (v : Value) (h_1 : Heap) ↦ ∃ (w_1 : Ws 64), v = TV.val (.words IntKind.u32 64 w_1) ∧ Ext h h_1 ∧ (CallsH Try.prog 157 (TVs.vals []) h_1 fun (v : Value) (h_2 : Heap) ↦ ∃ (w_2 : Ws 64), v = TV.val (.words IntKind.u32 64 w_2) ∧ Ext h h_2 ∧ (Vc.Bind (newTV h_2 (.words IntKind.u32 64 (Ws.zero 64)) 244) fun h_3 ↦ Ext h h_3 ∧ (Vc.Bind (newTV h_3 (.words IntKind.u32 64 (Ws.zero 64)) 244) fun h_4 ↦ Ext h h_4 ∧ Vc.Bind (newTV h_4 (.words IntKind.u32 8 (Ws.zero 8)) 206) fun h_5 ↦ Ext h h_5 ∧ wok h_5 h_2.size 0 64 ∧ Vc.Bind (TV.put h_5 h_2.size 0 (.words IntKind.u32 64 w_1)) fun h_6 ↦ Ext h h_6 ∧ wok h_6 h_3.size 0 64 ∧ Vc.Bind (TV.put h_6 h_3.size 0 (.words IntKind.u32 64 w_2)) fun h_7 ↦ Ext h h_7 ∧ wok h_7 h_4.size 0 8 ∧ Vc.Bind (TV.put h_7 h_4.size 0 (.words IntKind.u32 8 w)) fun h ↦ J (some (Loc.mk h_2.size 0), some (Loc.mk h_3.size 0), some (Loc.mk h_4.size 0)) h) ∧ Vc.Bind (newTV h_3 (.words IntKind.u32 8 (Ws.zero 8)) 206) fun h_4 ↦ Ext h h_4 ∧ Vc.Bind (newTV h_4 (.words IntKind.u32 64 (Ws.zero 64)) 244) fun h_5 ↦ Ext h h_5 ∧ wok h_5 h_2.size 0 64 ∧ Vc.Bind (TV.put h_5 h_2.size 0 (.words IntKind.u32 64 w_1)) fun h_6 ↦ Ext h h_6 ∧ wok h_6 h_4.size 0 64 ∧ Vc.Bind (TV.put h_6 h_4.size 0 (.words IntKind.u32 64 w_2)) fun h_7 ↦ Ext h h_7 ∧ wok h_7 h_3.size 0 8 ∧ Vc.Bind (TV.put h_7 h_3.size 0 (.words IntKind.u32 8 w)) fun h ↦ J (some (Loc.mk h_2.size 0), some (Loc.mk h_4.size 0), some (Loc.mk h_3.size 0)) h) ∧ (Vc.Bind (newTV h_2 (.words IntKind.u32 64 (Ws.zero 64)) 244) fun h_3 ↦ Ext h h_3 ∧ (Vc.Bind (newTV h_3 (.words IntKind.u32 64 (Ws.zero 64)) 244) fun h_4 ↦ Ext h h_4 ∧ Vc.Bind (newTV h_4 (.words IntKind.u32 8 (Ws.zero 8)) 206) fun h_5 ↦ Ext h h_5 ∧ wok h_5 h_3.size 0 64 ∧ Vc.Bind (TV.put h_5 h_3.size 0 (.words IntKind.u32 64 w_1)) fun h_6 ↦ Ext h h_6 ∧ wok h_6 h_2.size 0 64 ∧ Vc.Bind (TV.put h_6 h_2.size 0 (.words IntKind.u32 64 w_2)) fun h_7 ↦ Ext h h_7 ∧ wok h_7 h_4.size 0 8 ∧ Vc.Bind (TV.put h_7 h_4.size 0 (.words IntKind.u32 8 w)) fun h ↦ J (some (Loc.mk h_3.size 0), some (Loc.mk h_2.size 0), some (Loc.mk h_4.size 0)) h) ∧ Vc.Bind (newTV h_3 (.words IntKind.u32 8 (Ws.zero 8)) 206) fun h_4 ↦ Ext h h_4 ∧ Vc.Bind (newTV h_4 (.words IntKind.u32 64 (Ws.zero 64)) 244) fun h_5 ↦ Ext h h_5 ∧ wok h_5 h_4.size 0 64 ∧ Vc.Bind (TV.put h_5 h_4.size 0 (.words IntKind.u32 64 w_1)) fun h_6 ↦ Ext h h_6 ∧ wok h_6 h_2.size 0 64 ∧ Vc.Bind (TV.put h_6 h_2.size 0 (.words IntKind.u32 64 w_2)) fun h_7 ↦ Ext h h_7 ∧ wok h_7 h_3.size 0 8 ∧ Vc.Bind (TV.put h_7 h_3.size 0 (.words IntKind.u32 8 w)) fun h ↦ J (some (Loc.mk h_4.size 0), some (Loc.mk h_2.size 0), some (Loc.mk h_3.size 0)) h) ∧ Vc.Bind (newTV h_2 (.words IntKind.u32 8 (Ws.zero 8)) 206) fun h_3 ↦ Ext h h_3 ∧ (Vc.Bind (newTV h_3 (.words IntKind.u32 64 (Ws.zero 64)) 244) fun h_4 ↦ Ext h h_4 ∧ Vc.Bind (newTV h_4 (.words IntKind.u32 64 (Ws.zero 64)) 244) fun h_5 ↦ Ext h h_5 ∧ wok h_5 h_3.size 0 64 ∧ Vc.Bind (TV.put h_5 h_3.size 0 (.words IntKind.u32 64 w_1)) fun h_6 ↦ Ext h h_6 ∧ wok h_6 h_4.size 0 64 ∧ Vc.Bind (TV.put h_6 h_4.size 0 (.words IntKind.u32 64 w_2)) fun h_7 ↦ Ext h h_7 ∧ wok h_7 h_2.size 0 8 ∧ Vc.Bind (TV.put h_7 h_2.size 0 (.words IntKind.u32 8 w)) fun h ↦ J (some (Loc.mk h_3.size 0), some (Loc.mk h_4.size 0), some (Loc.mk h_2.size 0)) h) ∧ Vc.Bind (newTV h_3 (.words IntKind.u32 64 (Ws.zero 64)) 244) fun h_4 ↦ Ext h h_4 ∧ Vc.Bind (newTV h_4 (.words IntKind.u32 64 (Ws.zero 64)) 244) fun h_5 ↦ Ext h h_5 ∧ wok h_5 h_4.size 0 64 ∧ Vc.Bind (TV.put h_5 h_4.size 0 (.words IntKind.u32 64 w_1)) fun h_6 ↦ Ext h h_6 ∧ wok h_6 h_3.size 0 64 ∧ Vc.Bind (TV.put h_6 h_3.size 0 (.words IntKind.u32 64 w_2)) fun h_7 ↦ Ext h h_7 ∧ wok h_7 h_2.size 0 8 ∧ Vc.Bind (TV.put h_7 h_2.size 0 (.words IntKind.u32 8 w)) fun h ↦ J (some (Loc.mk h_4.size 0), some (Loc.mk h_3.size 0), some (Loc.mk h_2.size 0)) h) ∧ (Vc.Bind (newTV h_1 (.words IntKind.u32 64 (Ws.zero 64)) 244) fun h_2 ↦ Ext h h_2 ∧ (CallsH Try.prog 157 (TVs.vals []) h_2 fun v h_3 ↦ ∃ (w_2 : Ws 64), v = TV.val (.words IntKind.u32 64 w_2) ∧ Ext h h_3 ∧ (Vc.Bind (newTV h_3 (.words IntKind.u32 64 (Ws.zero 64)) 244) fun h_4 ↦ Ext h h_4 ∧ Vc.Bind (newTV h_4 (.words IntKind.u32 8 (Ws.zero 8)) 206) fun h_5 ↦ Ext h h_5 ∧ wok h_5 h_1.size 0 64 ∧ Vc.Bind (TV.put h_5 h_1.size 0 (.words IntKind.u32 64 w_1)) fun h_6 ↦ Ext h h_6 ∧ wok h_6 h_3.size 0 64 ∧ Vc.Bind (TV.put h_6 h_3.size 0 (.words IntKind.u32 64 w_2)) fun h_7 ↦ Ext h h_7 ∧ wok h_7 h_4.size 0 8 ∧ Vc.Bind (TV.put h_7 h_4.size 0 (.words IntKind.u32 8 w)) fun h ↦ J (some (Loc.mk h_1.size 0), some (Loc.mk h_3.size 0), some (Loc.mk h_4.size 0)) h) ∧ Vc.Bind (newTV h_3 (.words IntKind.u32 8 (Ws.zero 8)) 206) fun h_4 ↦ Ext h h_4 ∧ Vc.Bind (newTV h_4 (.words IntKind.u32 64 (Ws.zero 64)) 244) fun h_5 ↦ Ext h h_5 ∧ wok h_5 h_1.size 0 64 ∧ Vc.Bind (TV.put h_5 h_1.size 0 (.words IntKind.u32 64 w_1)) fun h_6 ↦ Ext h h_6 ∧ wok h_6 h_4.size 0 64 ∧ Vc.Bind (TV.put h_6 h_4.size 0 (.words IntKind.u32 64 w_2)) fun h_7 ↦ Ext h h_7 ∧ wok h_7 h_3.size 0 8 ∧ Vc.Bind (TV.put h_7 h_3.size 0 (.words IntKind.u32 8 w)) fun h ↦ J (some (Loc.mk h_1.size 0), some (Loc.mk h_4.size 0), some (Loc.mk h_3.size 0)) h) ∧ (Vc.Bind (newTV h_2 (.words IntKind.u32 64 (Ws.zero 64)) 244) fun h_3 ↦ Ext h h_3 ∧ (CallsH Try.prog 157 (TVs.vals []) h_3 fun v h_4 ↦ ∃ (w_2 : Ws 64), v = TV.val (.words IntKind.u32 64 w_2) ∧ Ext h h_4 ∧ Vc.Bind (newTV h_4 (.words IntKind.u32 8 (Ws.zero 8)) 206) fun h_5 ↦ Ext h h_5 ∧ wok h_5 h_1.size 0 64 ∧ Vc.Bind (TV.put h_5 h_1.size 0 (.words IntKind.u32 64 w_1)) fun h_6 ↦ Ext h h_6 ∧ wok h_6 h_2.size 0 64 ∧ Vc.Bind (TV.put h_6 h_2.size 0 (.words IntKind.u32 64 w_2)) fun h_7 ↦ Ext h h_7 ∧ wok h_7 h_4.size 0 8 ∧ Vc.Bind (TV.put h_7 h_4.size 0 (.words IntKind.u32 8 w)) fun h ↦ J (some (Loc.mk h_1.size 0), some (Loc.mk h_2.size 0), some (Loc.mk h_4.size 0)) h) ∧ Vc.Bind (newTV h_3 (.words IntKind.u32 8 (Ws.zero 8)) 206) fun h_4 ↦ Ext h h_4 ∧ CallsH Try.prog 157 (TVs.vals []) h_4 fun v h_5 ↦ ∃ (w_2 : Ws 64), v = TV.val (.words IntKind.u32 64 w_2) ∧ Ext h h_5 ∧ wok h_5 h_1.size 0 64 ∧ Vc.Bind (TV.put h_5 h_1.size 0 (.words IntKind.u32 64 w_1)) fun h_6 ↦ Ext h h_6 ∧ wok h_6 h_2.size 0 64 ∧ Vc.Bind (TV.put h_6 h_2.size 0 (.words IntKind.u32 64 w_2)) fun h_7 ↦ Ext h h_7 ∧ wok h_7 h_3.size 0 8 ∧ Vc.Bind (TV.put h_7 h_3.size 0 (.words IntKind.u32 8 w)) fun h ↦ J (some (Loc.mk h_1.size 0), some (Loc.mk h_2.size 0), some (Loc.mk h_3.size 0)) h) ∧ Vc.Bind (newTV h_2 (.words IntKind.u32 8 (Ws.zero 8)) 206) fun h_3 ↦ Ext h h_3 ∧ (CallsH Try.prog 157 (TVs.vals []) h_3 fun v h_4 ↦ ∃ (w_2 : Ws 64), v = TV.val (.words IntKind.u32 64 w_2) ∧ Ext h h_4 ∧ Vc.Bind (newTV h_4 (.words IntKind.u32 64 (Ws.zero 64)) 244) fun h_5 ↦ Ext h h_5 ∧ wok h_5 h_1.size 0 64 ∧ Vc.Bind (TV.put h_5 h_1.size 0 (.words IntKind.u32 64 w_1)) fun h_6 ↦ Ext h h_6 ∧ wok h_6 h_4.size 0 64 ∧ Vc.Bind (TV.put h_6 h_4.size 0 (.words IntKind.u32 64 w_2)) fun h_7 ↦ Ext h h_7 ∧ wok h_7 h_2.size 0 8 ∧ Vc.Bind (TV.put h_7 h_2.size 0 (.words IntKind.u32 8 w)) fun h ↦ J (some (Loc.mk h_1.size 0), some (Loc.mk h_4.size 0), some (Loc.mk h_2.size 0)) h) ∧ Vc.Bind (newTV h_3 (.words IntKind.u32 64 (Ws.zero 64)) 244) fun h_4 ↦ Ext h h_4 ∧ CallsH Try.prog 157 (TVs.vals []) h_4 fun v h_5 ↦ ∃ (w_2 : Ws 64), v = TV.val (.words IntKind.u32 64 w_2) ∧ Ext h h_5 ∧ wok h_5 h_1.size 0 64 ∧ Vc.Bind (TV.put h_5 h_1.size 0 (.words IntKind.u32 64 w_1)) fun h_6 ↦ Ext h h_6 ∧ wok h_6 h_3.size 0 64 ∧ Vc.Bind (TV.put h_6 h_3.size 0 (.words IntKind.u32 64 w_2)) fun h_7 ↦ Ext h h_7 ∧ wok h_7 h_2.size 0 8 ∧ Vc.Bind (TV.put h_7 h_2.size 0 (.words IntKind.u32 8 w)) fun h ↦ J (some (Loc.mk h_1.size 0), some (Loc.mk h_3.size 0), some (Loc.mk h_2.size 0)) h) ∧ (Vc.Bind (newTV h_1 (.words IntKind.u32 64 (Ws.zero 64)) 244) fun h_2 ↦ Ext h h_2 ∧ (CallsH Try.prog 157 (TVs.vals []) h_2 fun v h_3 ↦ ∃ (w_2 : Ws 64), v = TV.val (.words IntKind.u32 64 w_2) ∧ Ext h h_3 ∧ (Vc.Bind (newTV h_3 (.words IntKind.u32 64 (Ws.zero 64)) 244) fun h_4 ↦ Ext h h_4 ∧ Vc.Bind (newTV h_4 (.words IntKind.u32 8 (Ws.zero 8)) 206) fun h_5 ↦ Ext h h_5 ∧ wok h_5 h_3.size 0 64 ∧ Vc.Bind (TV.put h_5 h_3.size 0 (.words IntKind.u32 64 w_1)) fun h_6 ↦ Ext h h_6 ∧ wok h_6 h_1.size 0 64 ∧ Vc.Bind (TV.put h_6 h_1.size 0 (.words IntKind.u32 64 w_2)) fun h_7 ↦ Ext h h_7 ∧ wok h_7 h_4.size 0 8 ∧ Vc.Bind (TV.put h_7 h_4.size 0 (.words IntKind.u32 8 w)) fun h ↦ J (some (Loc.mk h_3.size 0), some (Loc.mk h_1.size 0), some (Loc.mk h_4.size 0)) h) ∧ Vc.Bind (newTV h_3 (.words IntKind.u32 8 (Ws.zero 8)) 206) fun h_4 ↦ Ext h h_4 ∧ Vc.Bind (newTV h_4 (.words IntKind.u32 64 (Ws.zero 64)) 244) fun h_5 ↦ Ext h h_5 ∧ wok h_5 h_4.size 0 64 ∧ Vc.Bind (TV.put h_5 h_4.size 0 (.words IntKind.u32 64 w_1)) fun h_6 ↦ Ext h h_6 ∧ wok h_6 h_1.size 0 64 ∧ Vc.Bind (TV.put h_6 h_1.size 0 (.words IntKind.u32 64 w_2)) fun h_7 ↦ Ext h h_7 ∧ wok h_7 h_3.size 0 8 ∧ Vc.Bind (TV.put h_7 h_3.size 0 (.words IntKind.u32 8 w)) fun h ↦ J (some (Loc.mk h_4.size 0), some (Loc.mk h_1.size 0), some (Loc.mk h_3.size 0)) h) ∧ (Vc.Bind (newTV h_2 (.words IntKind.u32 64 (Ws.zero 64)) 244) fun h_3 ↦ Ext h h_3 ∧ (CallsH Try.prog 157 (TVs.vals []) h_3 fun v h_4 ↦ ∃ (w_2 : Ws 64), v = TV.val (.words IntKind.u32 64 w_2) ∧ Ext h h_4 ∧ Vc.Bind (newTV h_4 (.words IntKind.u32 8 (Ws.zero 8)) 206) fun h_5 ↦ Ext h h_5 ∧ wok h_5 h_2.size 0 64 ∧ Vc.Bind (TV.put h_5 h_2.size 0 (.words IntKind.u32 64 w_1)) fun h_6 ↦ Ext h h_6 ∧ wok h_6 h_1.size 0 64 ∧ Vc.Bind (TV.put h_6 h_1.size 0 (.words IntKind.u32 64 w_2)) fun h_7 ↦ Ext h h_7 ∧ wok h_7 h_4.size 0 8 ∧ Vc.Bind (TV.put h_7 h_4.size 0 (.words IntKind.u32 8 w)) fun h ↦ J (some (Loc.mk h_2.size 0), some (Loc.mk h_1.size 0), some (Loc.mk h_4.size 0)) h) ∧ Vc.Bind (newTV h_3 (.words IntKind.u32 8 (Ws.zero 8)) 206) fun h_4 ↦ Ext h h_4 ∧ CallsH Try.prog 157 (TVs.vals []) h_4 fun v h_5 ↦ ∃ (w_2 : Ws 64), v = TV.val (.words IntKind.u32 64 w_2) ∧ Ext h h_5 ∧ wok h_5 h_2.size 0 64 ∧ Vc.Bind (TV.put h_5 h_2.size 0 (.words IntKind.u32 64 w_1)) fun h_6 ↦ Ext h h_6 ∧ wok h_6 h_1.size 0 64 ∧ Vc.Bind (TV.put h_6 h_1.size 0 (.words IntKind.u32 64 w_2)) fun h_7 ↦ Ext h h_7 ∧ wok h_7 h_3.size 0 8 ∧ Vc.Bind (TV.put h_7 h_3.size 0 (.words IntKind.u32 8 w)) fun h ↦ J (some (Loc.mk h_2.size 0), some (Loc.mk h_1.size 0), some (Loc.mk h_3.size 0)) h) ∧ Vc.Bind (newTV h_2 (.words IntKind.u32 8 (Ws.zero 8)) 206) fun h_3 ↦ Ext h h_3 ∧ (CallsH Try.prog 157 (TVs.vals []) h_3 fun v h_4 ↦ ∃ (w_2 : Ws 64), v = TV.val (.words IntKind.u32 64 w_2) ∧ Ext h h_4 ∧ Vc.Bind (newTV h_4 (.words IntKind.u32 64 (Ws.zero 64)) 244) fun h_5 ↦ Ext h h_5 ∧ wok h_5 h_4.size 0 64 ∧ Vc.Bind (TV.put h_5 h_4.size 0 (.words IntKind.u32 64 w_1)) fun h_6 ↦ Ext h h_6 ∧ wok h_6 h_1.size 0 64 ∧ Vc.Bind (TV.put h_6 h_1.size 0 (.words IntKind.u32 64 w_2)) fun h_7 ↦ Ext h h_7 ∧ wok h_7 h_2.size 0 8 ∧ Vc.Bind (TV.put h_7 h_2.size 0 (.words IntKind.u32 8 w)) fun h ↦ J (some (Loc.mk h_4.size 0), some (Loc.mk h_1.size 0), some (Loc.mk h_2.size 0)) h) ∧ Vc.Bind (newTV h_3 (.words IntKind.u32 64 (Ws.zero 64)) 244) fun h_4 ↦ Ext h h_4 ∧ CallsH Try.prog 157 (TVs.vals []) h_4 fun v h_5 ↦ ∃ (w_2 : Ws 64), v = TV.val (.words IntKind.u32 64 w_2) ∧ Ext h h_5 ∧ wok h_5 h_3.size 0 64 ∧ Vc.Bind (TV.put h_5 h_3.size 0 (.words IntKind.u32 64 w_1)) fun h_6 ↦ Ext h h_6 ∧ wok h_6 h_1.size 0 64 ∧ Vc.Bind (TV.put h_6 h_1.size 0 (.words IntKind.u32 64 w_2)) fun h_7 ↦ Ext h h_7 ∧ wok h_7 h_2.size 0 8 ∧ Vc.Bind (TV.put h_7 h_2.size 0 (.words IntKind.u32 8 w)) fun h ↦ J (some (Loc.mk h_3.size 0), some (Loc.mk h_1.size 0), some (Loc.mk h_2.size 0)) h) ∧ Vc.Bind (newTV h_1 (.words IntKind.u32 8 (Ws.zero 8)) 206) fun h_2 ↦ Ext h h_2 ∧ (CallsH Try.prog 157 (TVs.vals []) h_2 fun v h_3 ↦ ∃ (w_2 : Ws 64), v = TV.val (.words IntKind.u32 64 w_2) ∧ Ext h h_3 ∧ (Vc.Bind (newTV h_3 (.words IntKind.u32 64 (Ws.zero 64)) 244) fun h_4 ↦ Ext h h_4 ∧ Vc.Bind (newTV h_4 (.words IntKind.u32 64 (Ws.zero 64)) 244) fun h_5 ↦ Ext h h_5 ∧ wok h_5 h_3.size 0 64 ∧ Vc.Bind (TV.put h_5 h_3.size 0 (.words IntKind.u32 64 w_1)) fun h_6 ↦ Ext h h_6 ∧ wok h_6 h_4.size 0 64 ∧ Vc.Bind (TV.put h_6 h_4.size 0 (.words IntKind.u32 64 w_2)) fun h_7 ↦ Ext h h_7 ∧ wok h_7 h_1.size 0 8 ∧ Vc.Bind (TV.put h_7 h_1.size 0 (.words IntKind.u32 8 w)) fun h ↦ J (some (Loc.mk h_3.size 0), some (Loc.mk h_4.size 0), some (Loc.mk h_1.size 0)) h) ∧ Vc.Bind (newTV h_3 (.words IntKind.u32 64 (Ws.zero 64)) 244) fun h_4 ↦ Ext h h_4 ∧ Vc.Bind (newTV h_4 (.words IntKind.u32 64 (Ws.zero 64)) 244) fun h_5 ↦ Ext h h_5 ∧ wok h_5 h_4.size 0 64 ∧ Vc.Bind (TV.put h_5 h_4.size 0 (.words IntKind.u32 64 w_1)) fun h_6 ↦ Ext h h_6 ∧ wok h_6 h_3.size 0 64 ∧ Vc.Bind (TV.put h_6 h_3.size 0 (.words IntKind.u32 64 w_2)) fun h_7 ↦ Ext h h_7 ∧ wok h_7 h_1.size 0 8 ∧ Vc.Bind (TV.put h_7 h_1.size 0 (.words IntKind.u32 8 w)) fun h ↦ J (some (Loc.mk h_4.size 0), some (Loc.mk h_3.size 0), some (Loc.mk h_1.size 0)) h) ∧ (Vc.Bind (newTV h_2 (.words IntKind.u32 64 (Ws.zero 64)) 244) fun h_3 ↦ Ext h h_3 ∧ (CallsH Try.prog 157 (TVs.vals []) h_3 fun v h_4 ↦ ∃ (w_2 : Ws 64), v = TV.val (.words IntKind.u32 64 w_2) ∧ Ext h h_4 ∧ Vc.Bind (newTV h_4 (.words IntKind.u32 64 (Ws.zero 64)) 244) fun h_5 ↦ Ext h h_5 ∧ wok h_5 h_2.size 0 64 ∧ Vc.Bind (TV.put h_5 h_2.size 0 (.words IntKind.u32 64 w_1)) fun h_6 ↦ Ext h h_6 ∧ wok h_6 h_4.size 0 64 ∧ Vc.Bind (TV.put h_6 h_4.size 0 (.words IntKind.u32 64 w_2)) fun h_7 ↦ Ext h h_7 ∧ wok h_7 h_1.size 0 8 ∧ Vc.Bind (TV.put h_7 h_1.size 0 (.words IntKind.u32 8 w)) fun h ↦ J (some (Loc.mk h_2.size 0), some (Loc.mk h_4.size 0), some (Loc.mk h_1.size 0)) h) ∧ Vc.Bind (newTV h_3 (.words IntKind.u32 64 (Ws.zero 64)) 244) fun h_4 ↦ Ext h h_4 ∧ CallsH Try.prog 157 (TVs.vals []) h_4 fun v h_5 ↦ ∃ (w_2 : Ws 64), v = TV.val (.words IntKind.u32 64 w_2) ∧ Ext h h_5 ∧ wok h_5 h_2.size 0 64 ∧ Vc.Bind (TV.put h_5 h_2.size 0 (.words IntKind.u32 64 w_1)) fun h_6 ↦ Ext h h_6 ∧ wok h_6 h_3.size 0 64 ∧ Vc.Bind (TV.put h_6 h_3.size 0 (.words IntKind.u32 64 w_2)) fun h_7 ↦ Ext h h_7 ∧ wok h_7 h_1.size 0 8 ∧ Vc.Bind (TV.put h_7 h_1.size 0 (.words IntKind.u32 8 w)) fun h ↦ J (some (Loc.mk h_2.size 0), some (Loc.mk h_3.size 0), some (Loc.mk h_1.size 0)) h) ∧ Vc.Bind (newTV h_2 (.words IntKind.u32 64 (Ws.zero 64)) 244) fun h_3 ↦ Ext h h_3 ∧ (CallsH Try.prog 157 (TVs.vals []) h_3 fun v h_4 ↦ ∃ (w_2 : Ws 64), v = TV.val (.words IntKind.u32 64 w_2) ∧ Ext h h_4 ∧ Vc.Bind (newTV h_4 (.words IntKind.u32 64 (Ws.zero 64)) 244) fun h_5 ↦ Ext h h_5 ∧ wok h_5 h_4.size 0 64 ∧ Vc.Bind (TV.put h_5 h_4.size 0 (.words IntKind.u32 64 w_1)) fun h_6 ↦ Ext h h_6 ∧ wok h_6 h_2.size 0 64 ∧ Vc.Bind (TV.put h_6 h_2.size 0 (.words IntKind.u32 64 w_2)) fun h_7 ↦ Ext h h_7 ∧ wok h_7 h_1.size 0 8 ∧ Vc.Bind (TV.put h_7 h_1.size 0 (.words IntKind.u32 8 w)) fun h ↦ J (some (Loc.mk h_4.size 0), some (Loc.mk h_2.size 0), some (Loc.mk h_1.size 0)) h) ∧ Vc.Bind (newTV h_3 (.words IntKind.u32 64 (Ws.zero 64)) 244) fun h_4 ↦ Ext h h_4 ∧ CallsH Try.prog 157 (TVs.vals []) h_4 fun v h_5 ↦ ∃ (w_2 : Ws 64), v = TV.val (.words IntKind.u32 64 w_2) ∧ Ext h h_5 ∧ wok h_5 h_3.size 0 64 ∧ Vc.Bind (TV.put h_5 h_3.size 0 (.words IntKind.u32 64 w_1)) fun h_6 ↦ Ext h h_6 ∧ wok h_6 h_2.size 0 64 ∧ Vc.Bind (TV.put h_6 h_2.size 0 (.words IntKind.u32 64 w_2)) fun h_7 ↦ Ext h h_7 ∧ wok h_7 h_1.size 0 8 ∧ Vc.Bind (TV.put h_7 h_1.size 0 (.words IntKind.u32 8 w)) fun h ↦ J (some (Loc.mk h_3.size 0), some (Loc.mk h_2.size 0), some (Loc.mk h_1.size 0)) h) ∧ (Vc.Bind (newTV h (.words IntKind.u32 64 (Ws.zero 64)) 244) fun h_1 ↦ Ext h h_1 ∧ (CallsH Try.prog 156 (TVs.vals [.slice b]) h_1 fun v h_2 ↦ ∃ (w_1 : Ws 64), v = TV.val (.words IntKind.u32 64 w_1) ∧ Ext h h_2 ∧ (CallsH Try.prog 157 (TVs.vals []) h_2 fun v h_3 ↦ ∃ (w_2 : Ws 64), v = TV.val (.words IntKind.u32 64 w_2) ∧ Ext h h_3 ∧ (Vc.Bind (newTV h_3 (.words IntKind.u32 64 (Ws.zero 64)) 244) fun h_4 ↦ Ext h h_4 ∧ Vc.Bind (newTV h_4 (.words IntKind.u32 8 (Ws.zero 8)) 206) fun h_5 ↦ Ext h h_5 ∧ wok h_5 h.size 0 64 ∧ Vc.Bind (TV.put h_5 h.size 0 (.words IntKind.u32 64 w_1)) fun h_6 ↦ Ext h h_6 ∧ wok h_6 h_3.size 0 64 ∧ Vc.Bind (TV.put h_6 h_3.size 0 (.words IntKind.u32 64 w_2)) fun h_7 ↦ Ext h h_7 ∧ wok h_7 h_4.size 0 8 ∧ Vc.Bind (TV.put h_7 h_4.size 0 (.words IntKind.u32 8 w)) fun h_8 ↦ J (some (Loc.mk h.size 0), some (Loc.mk h_3.size 0), some (Loc.mk h_4.size 0)) h_8) ∧ Vc.Bind (newTV h_3 (.words IntKind.u32 8 (Ws.zero 8)) 206) fun h_4 ↦ Ext h h_4 ∧ Vc.Bind (newTV h_4 (.words IntKind.u32 64 (Ws.zero 64)) 244) fun h_5 ↦ Ext h h_5 ∧ wok h_5 h.size 0 64 ∧ Vc.Bind (TV.put h_5 h.size 0 (.words IntKind.u32 64 w_1)) fun h_6 ↦ Ext h h_6 ∧ wok h_6 h_4.size 0 64 ∧ Vc.Bind (TV.put h_6 h_4.size 0 (.words IntKind.u32 64 w_2)) fun h_7 ↦ Ext h h_7 ∧ wok h_7 h_3.size 0 8 ∧ Vc.Bind (TV.put h_7 h_3.size 0 (.words IntKind.u32 8 w)) fun h_8 ↦ J (some (Loc.mk h.size 0), some (Loc.mk h_4.size 0), some (Loc.mk h_3.size 0)) h_8) ∧ (Vc.Bind (newTV h_2 (.words IntKind.u32 64 (Ws.zero 64)) 244) fun h_3 ↦ Ext h h_3 ∧ (CallsH Try.prog 157 (TVs.vals []) h_3 fun v h_4 ↦ ∃ (w_2 : Ws 64), v = TV.val (.words IntKind.u32 64 w_2) ∧ Ext h h_4 ∧ Vc.Bind (newTV h_4 (.words IntKind.u32 8 (Ws.zero 8)) 206) fun h_5 ↦ Ext h h_5 ∧ wok h_5 h.size 0 64 ∧ Vc.Bind (TV.put h_5 h.size 0 (.words IntKind.u32 64 w_1)) fun h_6 ↦ Ext h h_6 ∧ wok h_6 h_2.size 0 64 ∧ Vc.Bind (TV.put h_6 h_2.size 0 (.words IntKind.u32 64 w_2)) fun h_7 ↦ Ext h h_7 ∧ wok h_7 h_4.size 0 8 ∧ Vc.Bind (TV.put h_7 h_4.size 0 (.words IntKind.u32 8 w)) fun h_8 ↦ J (some (Loc.mk h.size 0), some (Loc.mk h_2.size 0), some (Loc.mk h_4.size 0)) h_8) ∧ Vc.Bind (newTV h_3 (.words IntKind.u32 8 (Ws.zero 8)) 206) fun h_4 ↦ Ext h h_4 ∧ CallsH Try.prog 157 (TVs.vals []) h_4 fun v h_5 ↦ ∃ (w_2 : Ws 64), v = TV.val (.words IntKind.u32 64 w_2) ∧ Ext h h_5 ∧ wok h_5 h.size 0 64 ∧ Vc.Bind (TV.put h_5 h.size 0 (.words IntKind.u32 64 w_1)) fun h_6 ↦ Ext h h_6 ∧ wok h_6 h_2.size 0 64 ∧ Vc.Bind (TV.put h_6 h_2.size 0 (.words IntKind.u32 64 w_2)) fun h_7 ↦ Ext h h_7 ∧ wok h_7 h_3.size 0 8 ∧ Vc.Bind (TV.put h_7 h_3.size 0 (.words IntKind.u32 8 w)) fun h_8 ↦ J (some (Loc.mk h.size 0), some (Loc.mk h_2.size 0), some (Loc.mk h_3.size 0)) h_8) ∧ Vc.Bind (newTV h_2 (.words IntKind.u32 8 (Ws.zero 8)) 206) fun h_3 ↦ Ext h h_3 ∧ (CallsH Try.prog 157 (TVs.vals []) h_3 fun v h_4 ↦ ∃ (w_2 : Ws 64), v = TV.val (.words IntKind.u32 64 w_2) ∧ Ext h h_4 ∧ Vc.Bind (newTV h_4 (.words IntKind.u32 64 (Ws.zero 64)) 244) fun h_5 ↦ Ext h h_5 ∧ wok h_5 h.size 0 64 ∧ Vc.Bind (TV.put h_5 h.size 0 (.words IntKind.u32 64 w_1)) fun h_6 ↦ Ext h h_6 ∧ wok h_6 h_4.size 0 64 ∧ Vc.Bind (TV.put h_6 h_4.size 0 (.words IntKind.u32 64 w_2)) fun h_7 ↦ Ext h h_7 ∧ wok h_7 h_2.size 0 8 ∧ Vc.Bind (TV.put h_7 h_2.size 0 (.words IntKind.u32 8 w)) fun h_8 ↦ J (some (Loc.mk h.size 0), some (Loc.mk h_4.size 0), some (Loc.mk h_2.size 0)) h_8) ∧ Vc.Bind (newTV h_3 (.words IntKind.u32 64 (Ws.zero 64)) 244) fun h_4 ↦ Ext h h_4 ∧ CallsH Try.prog 157 (TVs.vals []) h_4 fun v h_5 ↦ ∃ (w_2 : Ws 64), v = TV.val (.words IntKind.u32 64 w_2) ∧ Ext h h_5 ∧ wok h_5 h.size 0 64 ∧ Vc.Bind (TV.put h_5 h.size 0 (.words IntKind.u32 64 w_1)) fun h_6 ↦ Ext h h_6 ∧ wok h_6 h_3.size 0 64 ∧ Vc.Bind (TV.put h_6 h_3.size 0 (.words IntKind.u32 64 w_2)) fun h_7 ↦ Ext h h_7 ∧ wok h_7 h_2.size 0 8 ∧ Vc.Bind (TV.put h_7 h_2.size 0 (.words IntKind.u32 8 w)) fun h_8 ↦ J (some (Loc.mk h.size 0), some (Loc.mk h_3.size 0), some (Loc.mk h_2.size 0)) h_8) ∧ (Vc.Bind (newTV h_1 (.words IntKind.u32 64 (Ws.zero 64)) 244) fun h_2 ↦ Ext h h_2 ∧ (CallsH Try.prog 156 (TVs.vals [.slice b]) h_2 fun v h_3 ↦ ∃ (w_1 : Ws 64), v = TV.val (.words IntKind.u32 64 w_1) ∧ Ext h h_3 ∧ (CallsH Try.prog 157 (TVs.vals []) h_3 fun v h_4 ↦ ∃ (w_2 : Ws 64), v = TV.val (.words IntKind.u32 64 w_2) ∧ Ext h h_4 ∧ Vc.Bind (newTV h_4 (.words IntKind.u32 8 (Ws.zero 8)) 206) fun h_5 ↦ Ext h h_5 ∧ wok h_5 h.size 0 64 ∧ Vc.Bind (TV.put h_5 h.size 0 (.words IntKind.u32 64 w_1)) fun h_6 ↦ Ext h h_6 ∧ wok h_6 h_1.size 0 64 ∧ Vc.Bind (TV.put h_6 h_1.size 0 (.words IntKind.u32 64 w_2)) fun h_7 ↦ Ext h h_7 ∧ wok h_7 h_4.size 0 8 ∧ Vc.Bind (TV.put h_7 h_4.size 0 (.words IntKind.u32 8 w)) fun h_8 ↦ J (some (Loc.mk h.size 0), some (Loc.mk h_1.size 0), some (Loc.mk h_4.size 0)) h_8) ∧ Vc.Bind (newTV h_3 (.words IntKind.u32 8 (Ws.zero 8)) 206) fun h_4 ↦ Ext h h_4 ∧ CallsH Try.prog 157 (TVs.vals []) h_4 fun v h_5 ↦ ∃ (w_2 : Ws 64), v = TV.val (.words IntKind.u32 64 w_2) ∧ Ext h h_5 ∧ wok h_5 h.size 0 64 ∧ Vc.Bind (TV.put h_5 h.size 0 (.words IntKind.u32 64 w_1)) fun h_6 ↦ Ext h h_6 ∧ wok h_6 h_1.size 0 64 ∧ Vc.Bind (TV.put h_6 h_1.size 0 (.words IntKind.u32 64 w_2)) fun h_7 ↦ Ext h h_7 ∧ wok h_7 h_3.size 0 8 ∧ Vc.Bind (TV.put h_7 h_3.size 0 (.words IntKind.u32 8 w)) fun h_8 ↦ J (some (Loc.mk h.size 0), some (Loc.mk h_1.size 0), some (Loc.mk h_3.size 0)) h_8) ∧ Vc.Bind (newTV h_2 (.words IntKind.u32 8 (Ws.zero 8)) 206) fun h_3 ↦ Ext h h_3 ∧ CallsH Try.prog 156 (TVs.vals [.slice b]) h_3 fun v h_4 ↦ ∃ (w_1 : Ws 64), v = TV.val (.words IntKind.u32 64 w_1) ∧ Ext h h_4 ∧ CallsH Try.prog 157 (TVs.vals []) h_4 fun v h_5 ↦ ∃ (w_2 : Ws 64), v = TV.val (.words IntKind.u32 64 w_2) ∧ Ext h h_5 ∧ wok h_5 h.size 0 64 ∧ Vc.Bind (TV.put h_5 h.size 0 (.words IntKind.u32 64 w_1)) fun h_6 ↦ Ext h h_6 ∧ wok h_6 h_1.size 0 64 ∧ Vc.Bind (TV.put h_6 h_1.size 0 (.words IntKind.u32 64 w_2)) fun h_7 ↦ Ext h h_7 ∧ wok h_7 h_2.size 0 8 ∧ Vc.Bind (TV.put h_7 h_2.size 0 (.words IntKind.u32 8 w)) fun h_8 ↦ J (some (Loc.mk h.size 0), some (Loc.mk h_1.size 0), some (Loc.mk h_2.size 0)) h_8) ∧ Vc.Bind (newTV h_1 (.words IntKind.u32 8 (Ws.zero 8)) 206) fun h_2 ↦ Ext h h_2 ∧ (CallsH Try.prog 156 (TVs.vals [.slice b]) h_2 fun v h_3 ↦ ∃ (w_1 : Ws 64), v = TV.val (.words IntKind.u32 64 w_1) ∧ Ext h h_3 ∧ (CallsH Try.prog 157 (TVs.vals []) h_3 fun v h_4 ↦ ∃ (w_2 : Ws 64), v = TV.val (.words IntKind.u32 64 w_2) ∧ Ext h h_4 ∧ Vc.Bind (newTV h_4 (.words IntKind.u32 64 (Ws.zero 64)) 244) fun h_5 ↦ Ext h h_5 ∧ wok h_5 h.size 0 64 ∧ Vc.Bind (TV.put h_5 h.size 0 (.words IntKind.u32 64 w_1)) fun h_6 ↦ Ext h h_6 ∧ wok h_6 h_4.size 0 64 ∧ Vc.Bind (TV.put h_6 h_4.size 0 (.words IntKind.u32 64 w_2)) fun h_7 ↦ Ext h h_7 ∧ wok h_7 h_1.size 0 8 ∧ Vc.Bind (TV.put h_7 h_1.size 0 (.words IntKind.u32 8 w)) fun h_8 ↦ J (some (Loc.mk h.size 0), some (Loc.mk h_4.size 0), some (Loc.mk h_1.size 0)) h_8) ∧ Vc.Bind (newTV h_3 (.words IntKind.u32 64 (Ws.zero 64)) 244) fun h_4 ↦ Ext h h_4 ∧ CallsH Try.prog 157 (TVs.vals []) h_4 fun v h_5 ↦ ∃ (w_2 : Ws 64), v = TV.val (.words IntKind.u32 64 w_2) ∧ Ext h h_5 ∧ wok h_5 h.size 0 64 ∧ Vc.Bind (TV.put h_5 h.size 0 (.words IntKind.u32 64 w_1)) fun h_6 ↦ Ext h h_6 ∧ wok h_6 h_3.size 0 64 ∧ Vc.Bind (TV.put h_6 h_3.size 0 (.words IntKind.u32 64 w_2)) fun h_7 ↦ Ext h h_7 ∧ wok h_7 h_1.size 0 8 ∧ Vc.Bind (TV.put h_7 h_1.size 0 (.words IntKind.u32 8 w)) fun h_8 ↦ J (some (Loc.mk h.size 0), some (Loc.mk h_3.size 0), some (Loc.mk h_1.size 0)) h_8) ∧ Vc.Bind (newTV h_2 (.words IntKind.u32 64 (Ws.zero 64)) 244) fun h_3 ↦ Ext h h_3 ∧ CallsH Try.prog 156 (TVs.vals [.slice b]) h_3 fun v h_4 ↦ ∃ (w_1 : Ws 64), v = TV.val (.words IntKind.u32 64 w_1) ∧ Ext h h_4 ∧ CallsH Try.prog 157 (TVs.vals []) h_4 fun v h_5 ↦ ∃ (w_2 : Ws 64), v = TV.val (.words IntKind.u32 64 w_2) ∧ Ext h h_5 ∧ wok h_5 h.size 0 64 ∧ Vc.Bind (TV.put h_5 h.size 0 (.words IntKind.u32 64 w_1)) fun h_6 ↦ Ext h h_6 ∧ wok h_6 h_2.size 0 64 ∧ Vc.Bind (TV.put h_6 h_2.size 0 (.words IntKind.u32 64 w_2)) fun h_7 ↦ Ext h h_7 ∧ wok h_7 h_1.size 0 8 ∧ Vc.Bind (TV.put h_7 h_1.size 0 (.words IntKind.u32 8 w)) fun h_8 ↦ J (some (Loc.mk h.size 0), some (Loc.mk h_2.size 0), some (Loc.mk h_1.size 0)) h_8) ∧ (Vc.Bind (newTV h (.words IntKind.u32 64 (Ws.zero 64)) 244) fun h_1 ↦ Ext h h_1 ∧ (CallsH Try.prog 156 (TVs.vals [.slice b]) h_1 fun v h_2 ↦ ∃ (w_1 : Ws 64), v = TV.val (.words IntKind.u32 64 w_1) ∧ Ext h h_2 ∧ (CallsH Try.prog 157 (TVs.vals []) h_2 fun v h_3 ↦ ∃ (w_2 : Ws 64), v = TV.val (.words IntKind.u32 64 w_2) ∧ Ext h h_3 ∧ (Vc.Bind (newTV h_3 (.words IntKind.u32 64 (Ws.zero 64)) 244) fun h_4 ↦ Ext h h_4 ∧ Vc.Bind (newTV h_4 (.words IntKind.u32 8 (Ws.zero 8)) 206) fun h_5 ↦ Ext h h_5 ∧ wok h_5 h_3.size 0 64 ∧ Vc.Bind (TV.put h_5 h_3.size 0 (.words IntKind.u32 64 w_1)) fun h_6 ↦ Ext h h_6 ∧ wok h_6 h.size 0 64 ∧ Vc.Bind (TV.put h_6 h.size 0 (.words IntKind.u32 64 w_2)) fun h_7 ↦ Ext h h_7 ∧ wok h_7 h_4.size 0 8 ∧ Vc.Bind (TV.put h_7 h_4.size 0 (.words IntKind.u32 8 w)) fun h_8 ↦ J (some (Loc.mk h_3.size 0), some (Loc.mk h.size 0), some (Loc.mk h_4.size 0)) h_8) ∧ Vc.Bind (newTV h_3 (.words IntKind.u32 8 (Ws.zero 8)) 206) fun h_4 ↦ Ext h h_4 ∧ Vc.Bind (newTV h_4 (.words IntKind.u32 64 (Ws.zero 64)) 244) fun h_5 ↦ Ext h h_5 ∧ wok h_5 h_4.size 0 64 ∧ Vc.Bind (TV.put h_5 h_4.size 0 (.words IntKind.u32 64 w_1)) fun h_6 ↦ Ext h h_6 ∧ wok h_6 h.size 0 64 ∧ Vc.Bind (TV.put h_6 h.size 0 (.words IntKind.u32 64 w_2)) fun h_7 ↦ Ext h h_7 ∧ wok h_7 h_3.size 0 8 ∧ Vc.Bind (TV.put h_7 h_3.size 0 (.words IntKind.u32 8 w)) fun h_8 ↦ J (some (Loc.mk h_4.size 0), some (Loc.mk h.size 0), some (Loc.mk h_3.size 0)) h_8) ∧ (Vc.Bind (newTV h_2 (.words IntKind.u32 64 (Ws.zero 64)) 244) fun h_3 ↦ Ext h h_3 ∧ (CallsH Try.prog 157 (TVs.vals []) h_3 fun v h_4 ↦ ∃ (w_2 : Ws 64), v = TV.val (.words IntKind.u32 64 w_2) ∧ Ext h h_4 ∧ Vc.Bind (newTV h_4 (.words IntKind.u32 8 (Ws.zero 8)) 206) fun h_5 ↦ Ext h h_5 ∧ wok h_5 h_2.size 0 64 ∧ Vc.Bind (TV.put h_5 h_2.size 0 (.words IntKind.u32 64 w_1)) fun h_6 ↦ Ext h h_6 ∧ wok h_6 h.size 0 64 ∧ Vc.Bind (TV.put h_6 h.size 0 (.words IntKind.u32 64 w_2)) fun h_7 ↦ Ext h h_7 ∧ wok h_7 h_4.size 0 8 ∧ Vc.Bind (TV.put h_7 h_4.size 0 (.words IntKind.u32 8 w)) fun h_8 ↦ J (some (Loc.mk h_2.size 0), some (Loc.mk h.size 0), some (Loc.mk h_4.size 0)) h_8) ∧ Vc.Bind (newTV h_3 (.words IntKind.u32 8 (Ws.zero 8)) 206) fun h_4 ↦ Ext h h_4 ∧ CallsH Try.prog 157 (TVs.vals []) h_4 fun v h_5 ↦ ∃ (w_2 : Ws 64), v = TV.val (.words IntKind.u32 64 w_2) ∧ Ext h h_5 ∧ wok h_5 h_2.size 0 64 ∧ Vc.Bind (TV.put h_5 h_2.size 0 (.words IntKind.u32 64 w_1)) fun h_6 ↦ Ext h h_6 ∧ wok h_6 h.size 0 64 ∧ Vc.Bind (TV.put h_6 h.size 0 (.words IntKind.u32 64 w_2)) fun h_7 ↦ Ext h h_7 ∧ wok h_7 h_3.size 0 8 ∧ Vc.Bind (TV.put h_7 h_3.size 0 (.words IntKind.u32 8 w)) fun h_8 ↦ J (some (Loc.mk h_2.size 0), some (Loc.mk h.size 0), some (Loc.mk h_3.size 0)) h_8) ∧ Vc.Bind (newTV h_2 (.words IntKind.u32 8 (Ws.zero 8)) 206) fun h_3 ↦ Ext h h_3 ∧ (CallsH Try.prog 157 (TVs.vals []) h_3 fun v h_4 ↦ ∃ (w_2 : Ws 64), v = TV.val (.words IntKind.u32 64 w_2) ∧ Ext h h_4 ∧ Vc.Bind (newTV h_4 (.words IntKind.u32 64 (Ws.zero 64)) 244) fun h_5 ↦ Ext h h_5 ∧ wok h_5 h_4.size 0 64 ∧ Vc.Bind (TV.put h_5 h_4.size 0 (.words IntKind.u32 64 w_1)) fun h_6 ↦ Ext h h_6 ∧ wok h_6 h.size 0 64 ∧ Vc.Bind (TV.put h_6 h.size 0 (.words IntKind.u32 64 w_2)) fun h_7 ↦ Ext h h_7 ∧ wok h_7 h_2.size 0 8 ∧ Vc.Bind (TV.put h_7 h_2.size 0 (.words IntKind.u32 8 w)) fun h_8 ↦ J (some (Loc.mk h_4.size 0), some (Loc.mk h.size 0), some (Loc.mk h_2.size 0)) h_8) ∧ Vc.Bind (newTV h_3 (.words IntKind.u32 64 (Ws.zero 64)) 244) fun h_4 ↦ Ext h h_4 ∧ CallsH Try.prog 157 (TVs.vals []) h_4 fun v h_5 ↦ ∃ (w_2 : Ws 64), v = TV.val (.words IntKind.u32 64 w_2) ∧ Ext h h_5 ∧ wok h_5 h_3.size 0 64 ∧ Vc.Bind (TV.put h_5 h_3.size 0 (.words IntKind.u32 64 w_1)) fun h_6 ↦ Ext h h_6 ∧ wok h_6 h.size 0 64 ∧ Vc.Bind (TV.put h_6 h.size 0 (.words IntKind.u32 64 w_2)) fun h_7 ↦ Ext h h_7 ∧ wok h_7 h_2.size 0 8 ∧ Vc.Bind (TV.put h_7 h_2.size 0 (.words IntKind.u32 8 w)) fun h_8 ↦ J (some (Loc.mk h_3.size 0), some (Loc.mk h.size 0), some (Loc.mk h_2.size 0)) h_8) ∧ (Vc.Bind (newTV h_1 (.words IntKind.u32 64 (Ws.zero 64)) 244) fun h_2 ↦ Ext h h_2 ∧ (CallsH Try.prog 156 (TVs.vals [.slice b]) h_2 fun v h_3 ↦ ∃ (w_1 : Ws 64), v = TV.val (.words IntKind.u32 64 w_1) ∧ Ext h h_3 ∧ (CallsH Try.prog 157 (TVs.vals []) h_3 fun v h_4 ↦ ∃ (w_2 : Ws 64), v = TV.val (.words IntKind.u32 64 w_2) ∧ Ext h h_4 ∧ Vc.Bind (newTV h_4 (.words IntKind.u32 8 (Ws.zero 8)) 206) fun h_5 ↦ Ext h h_5 ∧ wok h_5 h_1.size 0 64 ∧ Vc.Bind (TV.put h_5 h_1.size 0 (.words IntKind.u32 64 w_1)) fun h_6 ↦ Ext h h_6 ∧ wok h_6 h.size 0 64 ∧ Vc.Bind (TV.put h_6 h.size 0 (.words IntKind.u32 64 w_2)) fun h_7 ↦ Ext h h_7 ∧ wok h_7 h_4.size 0 8 ∧ Vc.Bind (TV.put h_7 h_4.size 0 (.words IntKind.u32 8 w)) fun h_8 ↦ J (some (Loc.mk h_1.size 0), some (Loc.mk h.size 0), some (Loc.mk h_4.size 0)) h_8) ∧ Vc.Bind (newTV h_3 (.words IntKind.u32 8 (Ws.zero 8)) 206) fun h_4 ↦ Ext h h_4 ∧ CallsH Try.prog 157 (TVs.vals []) h_4 fun v h_5 ↦ ∃ (w_2 : Ws 64), v = TV.val (.words IntKind.u32 64 w_2) ∧ Ext h h_5 ∧ wok h_5 h_1.size 0 64 ∧ Vc.Bind (TV.put h_5 h_1.size 0 (.words IntKind.u32 64 w_1)) fun h_6 ↦ Ext h h_6 ∧ wok h_6 h.size 0 64 ∧ Vc.Bind (TV.put h_6 h.size 0 (.words IntKind.u32 64 w_2)) fun h_7 ↦ Ext h h_7 ∧ wok h_7 h_3.size 0 8 ∧ Vc.Bind (TV.put h_7 h_3.size 0 (.words IntKind.u32 8 w)) fun h_8 ↦ J (some (Loc.mk h_1.size 0), some (Loc.mk h.size 0), some (Loc.mk h_3.size 0)) h_8) ∧ Vc.Bind (newTV h_2 (.words IntKind.u32 8 (Ws.zero 8)) 206) fun h_3 ↦ Ext h h_3 ∧ CallsH Try.prog 156 (TVs.vals [.slice b]) h_3 fun v h_4 ↦ ∃ (w_1 : Ws 64), v = TV.val (.words IntKind.u32 64 w_1) ∧ Ext h h_4 ∧ CallsH Try.prog 157 (TVs.vals []) h_4 fun v h_5 ↦ ∃ (w_2 : Ws 64), v = TV.val (.words IntKind.u32 64 w_2) ∧ Ext h h_5 ∧ wok h_5 h_1.size 0 64 ∧ Vc.Bind (TV.put h_5 h_1.size 0 (.words IntKind.u32 64 w_1)) fun h_6 ↦ Ext h h_6 ∧ wok h_6 h.size 0 64 ∧ Vc.Bind (TV.put h_6 h.size 0 (.words IntKind.u32 64 w_2)) fun h_7 ↦ Ext h h_7 ∧ wok h_7 h_2.size 0 8 ∧ Vc.Bind (TV.put h_7 h_2.size 0 (.words IntKind.u32 8 w)) fun h_8 ↦ J (some (Loc.mk h_1.size 0), some (Loc.mk h.size 0), some (Loc.mk h_2.size 0)) h_8) ∧ Vc.Bind (newTV h_1 (.words IntKind.u32 8 (Ws.zero 8)) 206) fun h_2 ↦ Ext h h_2 ∧ (CallsH Try.prog 156 (TVs.vals [.slice b]) h_2 fun v h_3 ↦ ∃ (w_1 : Ws 64), v = TV.val (.words IntKind.u32 64 w_1) ∧ Ext h h_3 ∧ (CallsH Try.prog 157 (TVs.vals []) h_3 fun v h_4 ↦ ∃ (w_2 : Ws 64), v = TV.val (.words IntKind.u32 64 w_2) ∧ Ext h h_4 ∧ Vc.Bind (newTV h_4 (.words IntKind.u32 64 (Ws.zero 64)) 244) fun h_5 ↦ Ext h h_5 ∧ wok h_5 h_4.size 0 64 ∧ Vc.Bind (TV.put h_5 h_4.size 0 (.words IntKind.u32 64 w_1)) fun h_6 ↦ Ext h h_6 ∧ wok h_6 h.size 0 64 ∧ Vc.Bind (TV.put h_6 h.size 0 (.words IntKind.u32 64 w_2)) fun h_7 ↦ Ext h h_7 ∧ wok h_7 h_1.size 0 8 ∧ Vc.Bind (TV.put h_7 h_1.size 0 (.words IntKind.u32 8 w)) fun h_8 ↦ J (some (Loc.mk h_4.size 0), some (Loc.mk h.size 0), some (Loc.mk h_1.size 0)) h_8) ∧ Vc.Bind (newTV h_3 (.words IntKind.u32 64 (Ws.zero 64)) 244) fun h_4 ↦ Ext h h_4 ∧ CallsH Try.prog 157 (TVs.vals []) h_4 fun v h_5 ↦ ∃ (w_2 : Ws 64), v = TV.val (.words IntKind.u32 64 w_2) ∧ Ext h h_5 ∧ wok h_5 h_3.size 0 64 ∧ Vc.Bind (TV.put h_5 h_3.size 0 (.words IntKind.u32 64 w_1)) fun h_6 ↦ Ext h h_6 ∧ wok h_6 h.size 0 64 ∧ Vc.Bind (TV.put h_6 h.size 0 (.words IntKind.u32 64 w_2)) fun h_7 ↦ Ext h h_7 ∧ wok h_7 h_1.size 0 8 ∧ Vc.Bind (TV.put h_7 h_1.size 0 (.words IntKind.u32 8 w)) fun h_8 ↦ J (some (Loc.mk h_3.size 0), some (Loc.mk h.size 0), some (Loc.mk h_1.size 0)) h_8) ∧ Vc.Bind (newTV h_2 (.words IntKind.u32 64 (Ws.zero 64)) 244) fun h_3 ↦ Ext h h_3 ∧ CallsH Try.prog 156 (TVs.vals [.slice b]) h_3 fun v h_4 ↦ ∃ (w_1 : Ws 64), v = TV.val (.words IntKind.u32 64 w_1) ∧ Ext h h_4 ∧ CallsH Try.prog 157 (TVs.vals []) h_4 fun v h_5 ↦ ∃ (w_2 : Ws 64), v = TV.val (.words IntKind.u32 64 w_2) ∧ Ext h h_5 ∧ wok h_5 h_2.size 0 64 ∧ Vc.Bind (TV.put h_5 h_2.size 0 (.words IntKind.u32 64 w_1)) fun h_6 ↦ Ext h h_6 ∧ wok h_6 h.size 0 64 ∧ Vc.Bind (TV.put h_6 h.size 0 (.words IntKind.u32 64 w_2)) fun h_7 ↦ Ext h h_7 ∧ wok h_7 h_1.size 0 8 ∧ Vc.Bind (TV.put h_7 h_1.size 0 (.words IntKind.u32 8 w)) fun h_8 ↦ J (some (Loc.mk h_2.size 0), some (Loc.mk h.size 0), some (Loc.mk h_1.size 0)) h_8) ∧ Vc.Bind (newTV h (.words IntKind.u32 8 (Ws.zero 8)) 206) fun h_1 ↦ Ext h h_1 ∧ (CallsH Try.prog 156 (TVs.vals [.slice b]) h_1 fun v h_2 ↦ ∃ (w_1 : Ws 64), v = TV.val (.words IntKind.u32 64 w_1) ∧ Ext h h_2 ∧ (CallsH Try.prog 157 (TVs.vals []) h_2 fun v h_3 ↦ ∃ (w_2 : Ws 64), v = TV.val (.words IntKind.u32 64 w_2) ∧ Ext h h_3 ∧ (Vc.Bind (newTV h_3 (.words IntKind.u32 64 (Ws.zero 64)) 244) fun h_4 ↦ Ext h h_4 ∧ Vc.Bind (newTV h_4 (.words IntKind.u32 64 (Ws.zero 64)) 244) fun h_5 ↦ Ext h h_5 ∧ wok h_5 h_3.size 0 64 ∧ Vc.Bind (TV.put h_5 h_3.size 0 (.words IntKind.u32 64 w_1)) fun h_6 ↦ Ext h h_6 ∧ wok h_6 h_4.size 0 64 ∧ Vc.Bind (TV.put h_6 h_4.size 0 (.words IntKind.u32 64 w_2)) fun h_7 ↦ Ext h h_7 ∧ wok h_7 h.size 0 8 ∧ Vc.Bind (TV.put h_7 h.size 0 (.words IntKind.u32 8 w)) fun h_8 ↦ J (some (Loc.mk h_3.size 0), some (Loc.mk h_4.size 0), some (Loc.mk h.size 0)) h_8) ∧ Vc.Bind (newTV h_3 (.words IntKind.u32 64 (Ws.zero 64)) 244) fun h_4 ↦ Ext h h_4 ∧ Vc.Bind (newTV h_4 (.words IntKind.u32 64 (Ws.zero 64)) 244) fun h_5 ↦ Ext h h_5 ∧ wok h_5 h_4.size 0 64 ∧ Vc.Bind (TV.put h_5 h_4.size 0 (.words IntKind.u32 64 w_1)) fun h_6 ↦ Ext h h_6 ∧ wok h_6 h_3.size 0 64 ∧ Vc.Bind (TV.put h_6 h_3.size 0 (.words IntKind.u32 64 w_2)) fun h_7 ↦ Ext h h_7 ∧ wok h_7 h.size 0 8 ∧ Vc.Bind (TV.put h_7 h.size 0 (.words IntKind.u32 8 w)) fun h_8 ↦ J (some (Loc.mk h_4.size 0), some (Loc.mk h_3.size 0), some (Loc.mk h.size 0)) h_8) ∧ (Vc.Bind (newTV h_2 (.words IntKind.u32 64 (Ws.zero 64)) 244) fun h_3 ↦ Ext h h_3 ∧ (CallsH Try.prog 157 (TVs.vals []) h_3 fun v h_4 ↦ ∃ (w_2 : Ws 64), v = TV.val (.words IntKind.u32 64 w_2) ∧ Ext h h_4 ∧ Vc.Bind (newTV h_4 (.words IntKind.u32 64 (Ws.zero 64)) 244) fun h_5 ↦ Ext h h_5 ∧ wok h_5 h_2.size 0 64 ∧ Vc.Bind (TV.put h_5 h_2.size 0 (.words IntKind.u32 64 w_1)) fun h_6 ↦ Ext h h_6 ∧ wok h_6 h_4.size 0 64 ∧ Vc.Bind (TV.put h_6 h_4.size 0 (.words IntKind.u32 64 w_2)) fun h_7 ↦ Ext h h_7 ∧ wok h_7 h.size 0 8 ∧ Vc.Bind (TV.put h_7 h.size 0 (.words IntKind.u32 8 w)) fun h_8 ↦ J (some (Loc.mk h_2.size 0), some (Loc.mk h_4.size 0), some (Loc.mk h.size 0)) h_8) ∧ Vc.Bind (newTV h_3 (.words IntKind.u32 64 (Ws.zero 64)) 244) fun h_4 ↦ Ext h h_4 ∧ CallsH Try.prog 157 (TVs.vals []) h_4 fun v h_5 ↦ ∃ (w_2 : Ws 64), v = TV.val (.words IntKind.u32 64 w_2) ∧ Ext h h_5 ∧ wok h_5 h_2.size 0 64 ∧ Vc.Bind (TV.put h_5 h_2.size 0 (.words IntKind.u32 64 w_1)) fun h_6 ↦ Ext h h_6 ∧ wok h_6 h_3.size 0 64 ∧ Vc.Bind (TV.put h_6 h_3.size 0 (.words IntKind.u32 64 w_2)) fun h_7 ↦ Ext h h_7 ∧ wok h_7 h.size 0 8 ∧ Vc.Bind (TV.put h_7 h.size 0 (.words IntKind.u32 8 w)) fun h_8 ↦ J (some (Loc.mk h_2.size 0), some (Loc.mk h_3.size 0), some (Loc.mk h.size 0)) h_8) ∧ Vc.Bind (newTV h_2 (.words IntKind.u32 64 (Ws.zero 64)) 244) fun h_3 ↦ Ext h h_3 ∧ (CallsH Try.prog 157 (TVs.vals []) h_3 fun v h_4 ↦ ∃ (w_2 : Ws 64), v = TV.val (.words IntKind.u32 64 w_2) ∧ Ext h h_4 ∧ Vc.Bind (newTV h_4 (.words IntKind.u32 64 (Ws.zero 64)) 244) fun h_5 ↦ Ext h h_5 ∧ wok h_5 h_4.size 0 64 ∧ Vc.Bind (TV.put h_5 h_4.size 0 (.words IntKind.u32 64 w_1)) fun h_6 ↦ Ext h h_6 ∧ wok h_6 h_2.size 0 64 ∧ Vc.Bind (TV.put h_6 h_2.size 0 (.words IntKind.u32 64 w_2)) fun h_7 ↦ Ext h h_7 ∧ wok h_7 h.size 0 8 ∧ Vc.Bind (TV.put h_7 h.size 0 (.words IntKind.u32 8 w)) fun h_8 ↦ J (some (Loc.mk h_4.size 0), some (Loc.mk h_2.size 0), some (Loc.mk h.size 0)) h_8) ∧ Vc.Bind (newTV h_3 (.words IntKind.u32 64 (Ws.zero 64)) 244) fun h_4 ↦ Ext h h_4 ∧ CallsH Try.prog 157 (TVs.vals []) h_4 fun v h_5 ↦ ∃ (w_2 : Ws 64), v = TV.val (.words IntKind.u32 64 w_2) ∧ Ext h h_5 ∧ wok h_5 h_3.size 0 64 ∧ Vc.Bind (TV.put h_5 h_3.size 0 (.words IntKind.u32 64 w_1)) fun h_6 ↦ Ext h h_6 ∧ wok h_6 h_2.size 0 64 ∧ Vc.Bind (TV.put h_6 h_2.size 0 (.words IntKind.u32 64 w_2)) fun h_7 ↦ Ext h h_7 ∧ wok h_7 h.size 0 8 ∧ Vc.Bind (TV.put h_7 h.size 0 (.words IntKind.u32 8 w)) fun h_8 ↦ J (some (Loc.mk h_3.size 0), some (Loc.mk h_2.size 0), some (Loc.mk h.size 0)) h_8) ∧ (Vc.Bind (newTV h_1 (.words IntKind.u32 64 (Ws.zero 64)) 244) fun h_2 ↦ Ext h h_2 ∧ (CallsH Try.prog 156 (TVs.vals [.slice b]) h_2 fun v h_3 ↦ ∃ (w_1 : Ws 64), v = TV.val (.words IntKind.u32 64 w_1) ∧ Ext h h_3 ∧ (CallsH Try.prog 157 (TVs.vals []) h_3 fun v h_4 ↦ ∃ (w_2 : Ws 64), v = TV.val (.words IntKind.u32 64 w_2) ∧ Ext h h_4 ∧ Vc.Bind (newTV h_4 (.words IntKind.u32 64 (Ws.zero 64)) 244) fun h_5 ↦ Ext h h_5 ∧ wok h_5 h_1.size 0 64 ∧ Vc.Bind (TV.put h_5 h_1.size 0 (.words IntKind.u32 64 w_1)) fun h_6 ↦ Ext h h_6 ∧ wok h_6 h_4.size 0 64 ∧ Vc.Bind (TV.put h_6 h_4.size 0 (.words IntKind.u32 64 w_2)) fun h_7 ↦ Ext h h_7 ∧ wok h_7 h.size 0 8 ∧ Vc.Bind (TV.put h_7 h.size 0 (.words IntKind.u32 8 w)) fun h_8 ↦ J (some (Loc.mk h_1.size 0), some (Loc.mk h_4.size 0), some (Loc.mk h.size 0)) h_8) ∧ Vc.Bind (newTV h_3 (.words IntKind.u32 64 (Ws.zero 64)) 244) fun h_4 ↦ Ext h h_4 ∧ CallsH Try.prog 157 (TVs.vals []) h_4 fun v h_5 ↦ ∃ (w_2 : Ws 64), v = TV.val (.words IntKind.u32 64 w_2) ∧ Ext h h_5 ∧ wok h_5 h_1.size 0 64 ∧ Vc.Bind (TV.put h_5 h_1.size 0 (.words IntKind.u32 64 w_1)) fun h_6 ↦ Ext h h_6 ∧ wok h_6 h_3.size 0 64 ∧ Vc.Bind (TV.put h_6 h_3.size 0 (.words IntKind.u32 64 w_2)) fun h_7 ↦ Ext h h_7 ∧ wok h_7 h.size 0 8 ∧ Vc.Bind (TV.put h_7 h.size 0 (.words IntKind.u32 8 w)) fun h_8 ↦ J (some (Loc.mk h_1.size 0), some (Loc.mk h_3.size 0), some (Loc.mk h.size 0)) h_8) ∧ Vc.Bind (newTV h_2 (.words IntKind.u32 64 (Ws.zero 64)) 244) fun h_3 ↦ Ext h h_3 ∧ CallsH Try.prog 156 (TVs.vals [.slice b]) h_3 fun v h_4 ↦ ∃ (w_1 : Ws 64), v = TV.val (.words IntKind.u32 64 w_1) ∧ Ext h h_4 ∧ CallsH Try.prog 157 (TVs.vals []) h_4 fun v h_5 ↦ ∃ (w_2 : Ws 64), v = TV.val (.words IntKind.u32 64 w_2) ∧ Ext h h_5 ∧ wok h_5 h_1.size 0 64 ∧ Vc.Bind (TV.put h_5 h_1.size 0 (.words IntKind.u32 64 w_1)) fun h_6 ↦ Ext h h_6 ∧ wok h_6 h_2.size 0 64 ∧ Vc.Bind (TV.put h_6 h_2.size 0 (.words IntKind.u32 64 w_2)) fun h_7 ↦ Ext h h_7 ∧ wok h_7 h.size 0 8 ∧ Vc.Bind (TV.put h_7 h.size 0 (.words IntKind.u32 8 w)) fun h_8 ↦ J (some (Loc.mk h_1.size 0), some (Loc.mk h_2.size 0), some (Loc.mk h.size 0)) h_8) ∧ Vc.Bind (newTV h_1 (.words IntKind.u32 64 (Ws.zero 64)) 244) fun h_2 ↦ Ext h h_2 ∧ (CallsH Try.prog 156 (TVs.vals [.slice b]) h_2 fun v h_3 ↦ ∃ (w_1 : Ws 64), v = TV.val (.words IntKind.u32 64 w_1) ∧ Ext h h_3 ∧ (CallsH Try.prog 157 (TVs.vals []) h_3 fun v h_4 ↦ ∃ (w_2 : Ws 64), v = TV.val (.words IntKind.u32 64 w_2) ∧ Ext h h_4 ∧ Vc.Bind (newTV h_4 (.words IntKind.u32 64 (Ws.zero 64)) 244) fun h_5 ↦ Ext h h_5 ∧ wok h_5 h_4.size 0 64 ∧ Vc.Bind (TV.put h_5 h_4.size 0 (.words IntKind.u32 64 w_1)) fun h_6 ↦ Ext h h_6 ∧ wok h_6 h_1.size 0 64 ∧ Vc.Bind (TV.put h_6 h_1.size 0 (.words IntKind.u32 64 w_2)) fun h_7 ↦ Ext h h_7 ∧ wok h_7 h.size 0 8 ∧ Vc.Bind (TV.put h_7 h.size 0 (.words IntKind.u32 8 w)) fun h_8 ↦ J (some (Loc.mk h_4.size 0), some (Loc.mk h_1.size 0), some (Loc.mk h.size 0)) h_8) ∧ Vc.Bind (newTV h_3 (.words IntKind.u32 64 (Ws.zero 64)) 244) fun h_4 ↦ Ext h h_4 ∧ CallsH Try.prog 157 (TVs.vals []) h_4 fun v h_5 ↦ ∃ (w_2 : Ws 64), v = TV.val (.words IntKind.u32 64 w_2) ∧ Ext h h_5 ∧ wok h_5 h_3.size 0 64 ∧ Vc.Bind (TV.put h_5 h_3.size 0 (.words IntKind.u32 64 w_1)) fun h_6 ↦ Ext h h_6 ∧ wok h_6 h_1.size 0 64 ∧ Vc.Bind (TV.put h_6 h_1.size 0 (.words IntKind.u32 64 w_2)) fun h_7 ↦ Ext h h_7 ∧ wok h_7 h.size 0 8 ∧ Vc.Bind (TV.put h_7 h.size 0 (.words IntKind.u32 8 w)) fun h_8 ↦ J (some (Loc.mk h_3.size 0), some (Loc.mk h_1.size 0), some (Loc.mk h.size 0)) h_8) ∧ Vc.Bind (newTV h_2 (.words IntKind.u32 64 (Ws.zero 64)) 244) fun h_3 ↦ Ext h h_3 ∧ CallsH Try.prog 156 (TVs.vals [.slice b]) h_3 fun v h_4 ↦ ∃ (w_1 : Ws 64), v = TV.val (.words IntKind.u32 64 w_1) ∧ Ext h h_4 ∧ CallsH Try.prog 157 (TVs.vals []) h_4 fun v h_5 ↦ ∃ (w_2 : Ws 64), v = TV.val (.words IntKind.u32 64 w_2) ∧ Ext h h_5 ∧ wok h_5 h_2.size 0 64 ∧ Vc.Bind (TV.put h_5 h_2.size 0 (.words IntKind.u32 64 w_1)) fun h_6 ↦ Ext h h_6 ∧ wok h_6 h_1.size 0 64 ∧ Vc.Bind (TV.put h_6 h_1.size 0 (.words IntKind.u32 64 w_2)) fun h_7 ↦ Ext h h_7 ∧ wok h_7 h.size 0 8 ∧ Vc.Bind (TV.put h_7 h.size 0 (.words IntKind.u32 8 w)) fun h_8 ↦ J (some (Loc.mk h_2.size 0), some (Loc.mk h_1.size 0), some (Loc.mk h.size 0)) h_8
theorem sha_state_take_calls (s_ : Option Go.Vc.Loc) (b : Sl) (h : Heap) (R : Value → Heap → Prop) (H : sha_state_take_vc s_ b h R) : CallsH Try.prog 134 (TVs.vals [.ptr s_, .slice b]) h R := via ctx_ok Try.func134 (by kernel_rfl) H

end Go.Proofs.Ytldocdpdjdekiaa
end

section
/- Digests: what take makes of a block of 64 bytes. -/
namespace Go.Proofs.Ytldocdpdjdekiaa.Board
open Go Go.Vc
set_option maxRecDepth 10000

def t4 (n_17 n_2 n_7 n_8 n_9 n_1 n_3 n_4 n_5 n_6 : Int) : Int := (IntKind.wrap IntKind.u32 (n_17 + IntKind.wrap IntKind.u32 (IntKind.wrap IntKind.u32 (IntKind.wrap IntKind.u32 (IntKind.wrap IntKind.u32 (n_2 + IntKind.wrap IntKind.u32 (↑(BitVec.toNat (BitVec.ofInt (IntKind.bits IntKind.u32) (IntKind.wrap IntKind.u32 (↑(BitVec.toNat (BitVec.ofInt (IntKind.bits IntKind.u32) n_7 ^^^ BitVec.ofInt (IntKind.bits IntKind.u32) n_8)) : Int)) ^^^ BitVec.ofInt (IntKind.bits IntKind.u32) n_9)) : Int)) + IntKind.wrap IntKind.u32 (↑(BitVec.toNat (BitVec.ofInt (IntKind.bits IntKind.u32) (IntKind.wrap IntKind.u32 (↑(BitVec.toNat (BitVec.ofInt (IntKind.bits IntKind.u32) n_1 &&& BitVec.ofInt (IntKind.bits IntKind.u32) n_3)) : Int)) ^^^ BitVec.ofInt (IntKind.bits IntKind.u32) (IntKind.wrap IntKind.u32 (↑(BitVec.toNat (BitVec.ofInt (IntKind.bits IntKind.u32) (IntKind.wrap IntKind.u32 (↑(BitVec.toNat (BitVec.ofInt (IntKind.bits IntKind.u32) (if IntKind.signed IntKind.u32 = true then (-1 : Int) else IntKind.max IntKind.u32) ^^^ BitVec.ofInt (IntKind.bits IntKind.u32) n_1)) : Int)) &&& BitVec.ofInt (IntKind.bits IntKind.u32) n_4)) : Int)))) : Int)) + n_5) + n_6)))
def t0 (n_2 n_7 n_8 n_9 n_1 n_3 n_4 n_5 n_6 n_14 n_15 n_16 n n_10 n_11 n_12 n_13 : Int) : Int := (IntKind.wrap IntKind.u32 (IntKind.wrap IntKind.u32 (IntKind.wrap IntKind.u32 (IntKind.wrap IntKind.u32 (IntKind.wrap IntKind.u32 (n_2 + IntKind.wrap IntKind.u32 (↑(BitVec.toNat (BitVec.ofInt (IntKind.bits IntKind.u32) (IntKind.wrap IntKind.u32 (↑(BitVec.toNat (BitVec.ofInt (IntKind.bits IntKind.u32) n_7 ^^^ BitVec.ofInt (IntKind.bits IntKind.u32) n_8)) : Int)) ^^^ BitVec.ofInt (IntKind.bits IntKind.u32) n_9)) : Int)) + IntKind.wrap IntKind.u32 (↑(BitVec.toNat (BitVec.ofInt (IntKind.bits IntKind.u32) (IntKind.wrap IntKind.u32 (↑(BitVec.toNat (BitVec.ofInt (IntKind.bits IntKind.u32) n_1 &&& BitVec.ofInt (IntKind.bits IntKind.u32) n_3)) : Int)) ^^^ BitVec.ofInt (IntKind.bits IntKind.u32) (IntKind.wrap IntKind.u32 (↑(BitVec.toNat (BitVec.ofInt (IntKind.bits IntKind.u32) (IntKind.wrap IntKind.u32 (↑(BitVec.toNat (BitVec.ofInt (IntKind.bits IntKind.u32) (if IntKind.signed IntKind.u32 = true then (-1 : Int) else IntKind.max IntKind.u32) ^^^ BitVec.ofInt (IntKind.bits IntKind.u32) n_1)) : Int)) &&& BitVec.ofInt (IntKind.bits IntKind.u32) n_4)) : Int)))) : Int)) + n_5) + n_6) + IntKind.wrap IntKind.u32 (IntKind.wrap IntKind.u32 (↑(BitVec.toNat (BitVec.ofInt (IntKind.bits IntKind.u32) (IntKind.wrap IntKind.u32 (↑(BitVec.toNat (BitVec.ofInt (IntKind.bits IntKind.u32) n_14 ^^^ BitVec.ofInt (IntKind.bits IntKind.u32) n_15)) : Int)) ^^^ BitVec.ofInt (IntKind.bits IntKind.u32) n_16)) : Int) + IntKind.wrap IntKind.u32 (↑(BitVec.toNat (BitVec.ofInt (IntKind.bits IntKind.u32) (IntKind.wrap IntKind.u32 (↑(BitVec.toNat (BitVec.ofInt (IntKind.bits IntKind.u32) (IntKind.wrap IntKind.u32 (↑(BitVec.toNat (BitVec.ofInt (IntKind.bits IntKind.u32) n &&& BitVec.ofInt (IntKind.bits IntKind.u32) n_10)) : Int)) ^^^ BitVec.ofInt (IntKind.bits IntKind.u32) (IntKind.wrap IntKind.u32 (↑(BitVec.toNat (BitVec.ofInt (IntKind.bits IntKind.u32) n &&& BitVec.ofInt (IntKind.bits IntKind.u32) n_11)) : Int)))) : Int)) ^^^ BitVec.ofInt (IntKind.bits IntKind.u32) (IntKind.wrap IntKind.u32 (↑(BitVec.toNat (BitVec.ofInt (IntKind.bits IntKind.u32) n_12 &&& BitVec.ofInt (IntKind.bits IntKind.u32) n_13)) : Int)))) : Int))))

/-- The words, each one place on. -/
def shift (v : Ws 8) : Ws 8 := ⟨v.l.take 1 ++ v.l.take 7, by simp [v.h]⟩

def roundW (w k : Ws 64) (i : Nat) (v : Ws 8) : Ws 8 :=
  ((shift v).set 4 (t4 (wd (shift v) 4) (wd v 7) (turnF (wd v 4) 6) (turnF (wd v 4) 11) (turnF (wd v 4) 25) (wd v 4) (wd v 5) (wd v 6) (wd k i) (wd w i))).set 0
    (t0 (wd v 7) (turnF (wd v 4) 6) (turnF (wd v 4) 11) (turnF (wd v 4) 25) (wd v 4) (wd v 5) (wd v 6) (wd k i) (wd w i) (turnF (wd v 0) 2) (turnF (wd v 0) 13) (turnF (wd v 0) 22) (wd v 0) (wd v 1) (wd v 2) (wd v 1) (wd v 2))

def roundsW (w k : Ws 64) (v : Ws 8) : Nat → Ws 8
  | 0 => v
  | i + 1 => roundW w k i (roundsW w k v i)

def sumW (w v : Ws 8) : Nat → Ws 8
  | 0 => w
  | i + 1 => (sumW w v i).set i (IntKind.wrap .u32 (wd (sumW w v i) i + wd v i))

def takeF (w : Ws 8) (bs : List UInt8) : Ws 8 := sumW w (roundsW (layF bs) keysW w 64) 8

section
variable {R : Value → Heap → Prop} {h : Heap}

theorem copy_in {T : TypeId} {b : Nat} {k : IntKind} {x : Ws 8} {K : Heap → Prop} {P : Prop} (v : Var T h b (.words k 8 x))
    (hk : ∀ h1, Var T h1 b (.words k 8 (shift x)) → Only (· = b) h h1 → h1.size = h.size → K h1) :
    ∃ new : List Value, slAt h (Sl.mk (cutSl (Sl.mk (some (Vc.Loc.mk b 0)) 8 8) 0 (Int.toNat 7) 1).a (Nat.min (cutSl (Sl.mk (some (Vc.Loc.mk b 0)) 8 8) 0 (Int.toNat 7) 1).len (cutSl (Sl.mk (some (Vc.Loc.mk b 0)) 8 8) (Int.toNat 1) 8 1).len)
        (Nat.min (cutSl (Sl.mk (some (Vc.Loc.mk b 0)) 8 8) 0 (Int.toNat 7) 1).len (cutSl (Sl.mk (some (Vc.Loc.mk b 0)) 8 8) (Int.toNat 1) 8 1).len)) 1 new ∧ (∀ (v : Value), v ∈ new → isOne v = true) ∧
      ((cutSl (Sl.mk (some (Vc.Loc.mk b 0)) 8 8) (Int.toNat 1) 8 1).a = none → P) ∧
      ∀ (l_2 : Vc.Loc), (cutSl (Sl.mk (some (Vc.Loc.mk b 0)) 8 8) (Int.toNat 1) 8 1).a = some l_2 → wok h l_2.b l_2.o (List.length new) ∧ Bind (putl h l_2.b l_2.o new) K := by
  have hx := x.h
  have hcl : (TV.words k 8 x).cells.length = 8 := by rw [TV.cells_length]; rfl
  refine ⟨(x.l.take 7).map (Value.int k), ⟨?_, .inr ⟨⟨b, 0⟩, rfl, fun j hj => ?_⟩⟩, ?_, ?_, ?_⟩
  · simp [hx, cutSl]
  · simp only [List.length_map, List.length_take, hx] at hj
    have h1 : cel h b j = some (.int k (wd x j)) := by
      have := v.at j (by omega)
      rw [Nat.zero_add] at this
      exact this
    show cel h b (0 + 0 * 1 + j) = _
    have e0 : 0 + 0 * 1 + j = j := by omega
    rw [e0, h1]
    simp only [List.getElem?_map, List.getElem?_take, show j < 7 by omega, if_true]
    unfold wd
    rw [List.getD_eq_getElem?_getD, List.getElem?_eq_getElem (by omega)]
    rfl
  · intro v hv
    obtain ⟨a, _, rfl⟩ := List.mem_map.1 hv
    rfl
  · intro hn
    cases hn
  · intro l hl
    have hl' : l = ⟨b, 1⟩ := by
      have : some (Vc.Loc.mk b (0 + 1 * 1)) = some l := hl
      injection this with this
      exact this.symm
    subst hl'
    have hlen : ((x.l.take 7).map (Value.int k)).length = 7 := by simp [hx]
    rw [hlen]
    have hp := putl_get ((x.l.take 7).map (Value.int k)) h b 1 _ T v (by rw [hlen, hcl]; exact Nat.le_refl _)
    refine ⟨v.wok (by simp only [TV.size]; exact Nat.le_refl _), hk _ ?_ ⟨by rw [hp.2.1]; exact Nat.le_refl _, fun b' _ hn => hp.2.2 b' hn⟩ hp.2.1⟩
    unfold Var
    rw [hp.1]
    congr 2
    rw [List.drop_eq_nil_of_le (by rw [hlen, hcl]; exact Nat.le_refl _)]
    simp only [TV.cells, shift, List.map_append, List.map_take, List.append_nil]

theorem put_word_field {T : TypeId} {b n i o : Nat} {k : IntKind} {x : Ws n} {ts : List TV} {c : Int} {K : Heap → Prop} (v : Var T h b (.agg (.words k n x :: ts))) (hi : i < n) (ho : o = i)
    (hk : ∀ h1, Var T h1 b (.agg (.words k n (x.set i c) :: ts)) → Only (· = b) h h1 → h1.size = h.size → K h1) : wok h b o 1 ∧ Bind ((TV.int k c).put h b o) K := by
  subst ho
  have hl : o + (TV.int k c).size ≤ (TV.agg (.words k n x :: ts)).cells.length := by rw [TV.cells_length]; simp only [TV.size, TVs.size]; omega
  refine ⟨v.wok (by simp only [TV.size, TVs.size]; omega), hk _ ?_ (put_only v hl) (put_size v hl)⟩
  have := put_row (t := .int k c) v hl
  unfold Var
  rw [this]
  congr 2
  simp only [TV.cells, TVs.cells, TV.size, Ws.set, List.map_set]
  have hxl : o < (List.map (Value.int k) x.l).length := by rw [List.length_map, x.h]; exact hi
  have hxl' : o + 1 ≤ (List.map (Value.int k) x.l).length := hxl
  rw [List.set_eq_take_append_cons_drop, if_pos hxl, List.take_append_of_le_length (Nat.le_of_lt hxl), List.drop_append_of_le_length hxl']
  simp

theorem _root_.Go.Vc.Var.ne_type {T T' : TypeId} {b b' : Nat} {t t' : TV} (v : Var T h b t) (v' : Var T' h b' t') (hT : T ≠ T') : b ≠ b' := by
  rintro rfl
  unfold Var at v v'
  rw [v] at v'
  injection v' with v'
  unfold row at v'
  injection v' with _ h2
  exact hT h2

theorem word_field {T : TypeId} {b n : Nat} {k : IntKind} {w : Ws n} {ts : List TV} (v : Var T h b (.agg (.words k n w :: ts))) {i : Nat} (hi : i < n) : at1 h b (0 + i * 1) (.int k (wd w i)) := by
  have h0 := v.at
  rw [Nat.mul_one]
  cases ts with
  | nil => exact h0 i hi
  | cons t ts => exact h0.1 i hi

theorem wsz {k : IntKind} {n : Nat} {x y : Ws n} : (TV.words k n x).size = (TV.words k n y).size := by simp only [TV.size]
theorem wsz1 {k : IntKind} {n : Nat} {x : Ws n} : n = (TV.words k n x).size := by simp only [TV.size]

set_option maxHeartbeats 1000000 in
theorem take_takes : Takes takeF := by
  intro h R b w s q bs n v e hl hqb hr
  apply sha_state_take_calls
  unfold sha_state_take_vc
  intro J hJ
  refine ⟨w, v.at.1, ?_⟩
  have leaf : ∀ (a c d : Nat) (hh : Heap), Var 244 hh a (.words .u32 64 (layF bs)) → Var 244 hh c (.words .u32 64 keysW) → Var 206 hh d (.words .u32 8 w) → Ext h hh → h.size ≤ d →
      J (some ⟨a, 0⟩, some ⟨c, 0⟩, some ⟨d, 0⟩) hh := by
    intro a c d hh va vc vd x hd
    have had := va.ne_type vd (by decide)
    have hcd := vc.ne_type vd (by decide)
    refine hJ _ _ ?_
    refine ⟨fun i hk => 0 ≤ i ∧ i ≤ 64 ∧ Only (· = d) hh hk ∧ Var 206 hk d (.words .u32 8 (roundsW (layF bs) keysW w i.toNat)), fun i _ => ((64 : Int) - i).toNat, ⟨Int.le_refl 0, by decide, Only.refl _ _, vd⟩, ?_⟩
    rintro i h1 ⟨i0, i1, o1, v1⟩
    have va1 := va.only o1 had
    have vc1 := vc.only o1 hcd
    refine If.dec.2 ⟨fun hi => ?_, fun hi => ?_⟩
    · rw [wrap_i64 (n := i + 1) (by omega) (by omega)]
      refine ⟨by decide, by decide, _, word_at v1 (by decide), by decide, by decide, _, word_at v1 (by decide), by decide, by decide, _, word_at v1 (by decide), by decide, by decide, _, word_at v1 (by decide), by decide, by decide, _, word_at v1 (by decide),
        i0, by omega, _, word_at vc1 (by omega), i0, by omega, _, word_at va1 (by omega), ?_⟩
      refine turn_spec ⟨_, rfl, Ext.refl _, turn_spec ⟨_, rfl, Ext.refl _, turn_spec ⟨_, rfl, Ext.refl _, ?_⟩⟩⟩
      refine ⟨by decide, by decide, _, word_at v1 (by decide), by decide, by decide, _, word_at v1 (by decide), by decide, by decide, _, word_at v1 (by decide), by decide, by decide, _, word_at v1 (by decide), ?_⟩
      refine turn_spec ⟨_, rfl, Ext.refl _, turn_spec ⟨_, rfl, Ext.refl _, turn_spec ⟨_, rfl, Ext.refl _, ?_⟩⟩⟩
      refine ⟨by decide, by decide, by decide, by decide, ?_⟩
      refine copy_in v1 fun h2 v2 o2 s2 => ?_
      refine ⟨by decide, by decide, _, word_at v2 (by decide), by decide, by decide, ?_⟩
      refine put_word v2 (i := 4) (by decide) rfl fun h3 v3 o3 s3 => ⟨by decide, by decide, ?_⟩
      refine put_word v3 (i := 0) (by decide) rfl fun h4 v4 o4 s4 => ?_
      have hi1 : (i + 1).toNat = i.toNat + 1 := by omega
      refine ⟨⟨by omega, by omega, ((o1.trans o2).trans o3).trans o4, ?_⟩, by first | omega | (dsimp only; omega)⟩
      rw [hi1]
      exact v4
    · have hi2 : i.toNat = 64 := by omega
      rw [hi2] at v1
      have v0 : Var 209 h1 b (.agg [.words .u32 8 w, .slice s, .int .u64 n]) := (v.ext x).only o1 (by have := v.lt; omega)
      have hbd : b ≠ d := by have := v.lt; omega
      refine ⟨fun i hk => 0 ≤ i ∧ i ≤ 8 ∧ Only (· = b) h1 hk ∧ Var 209 hk b (.agg [.words .u32 8 (sumW w (roundsW (layF bs) keysW w 64) i.toNat), .slice s, .int .u64 n]), fun i _ => ((8 : Int) - i).toNat, ⟨Int.le_refl 0, by decide, Only.refl _ _, v0⟩, ?_⟩
      rintro i h2 ⟨j0, j1, o2, v2⟩
      have vd2 := v1.only o2 (Ne.symm hbd)
      refine If.dec.2 ⟨fun hi => ?_, fun hi => ?_⟩
      · rw [wrap_i64 (n := i + 1) (by omega) (by omega)]
        refine ⟨j0, by omega, _, word_field v2 (by omega), j0, by omega, _, word_at vd2 (by omega), j0, by omega, ?_⟩
        refine put_word_field v2 (i := i.toNat) (by omega) (by show 0 + i.toNat * 1 = i.toNat; omega) fun h3 v3 o3 s3 => ?_
        have hi1 : (i + 1).toNat = i.toNat + 1 := by omega
        refine ⟨⟨by omega, by omega, o2.trans o3, ?_⟩, by first | omega | (dsimp only; omega)⟩
        rw [hi1]
        exact v3
      · have hi3 : i.toNat = 8 := by omega
        rw [hi3] at v2
        have x1 : Ext h h1 := Only.cut x o1 fun i hi => by omega
        exact hr h2 v2 ((Only.of_ext x1).trans o2)
  have B := Bag.nil h
  clear hJ hr
  exact ⟨lay_spec (bs := bs) (e.ext B.ext) hl fun h' x' => have B := B.on x'; ⟨_, rfl, B.ext, ⟨keys_spec fun h' x' => have B := B.on x'; ⟨_, rfl, B.ext, ⟨B.make fun h' x' B => ⟨B.ext, ⟨B.make fun h' x' B => ⟨B.ext, B.make fun h' x' B => ⟨B.ext, B.put2 wsz wsz1 fun h' B => ⟨B.ext, B.put1 wsz wsz1 fun h' B => ⟨B.ext, B.put0 wsz wsz1 fun h' B => leaf _ _ _ _ B.v2 B.v1 B.v0 B.ext B.n0⟩⟩⟩⟩, B.make fun h' x' B => ⟨B.ext, B.make fun h' x' B => ⟨B.ext, B.put2 wsz wsz1 fun h' B => ⟨B.ext, B.put0 wsz wsz1 fun h' B => ⟨B.ext, B.put1 wsz wsz1 fun h' B => leaf _ _ _ _ B.v2 B.v0 B.v1 B.ext B.n1⟩⟩⟩⟩⟩⟩, ⟨B.make fun h' x' B => ⟨B.ext, ⟨B.make fun h' x' B => ⟨B.ext, B.make fun h' x' B => ⟨B.ext, B.put1 wsz wsz1 fun h' B => ⟨B.ext, B.put2 wsz wsz1 fun h' B => ⟨B.ext, B.put0 wsz wsz1 fun h' B => leaf _ _ _ _ B.v1 B.v2 B.v0 B.ext B.n0⟩⟩⟩⟩, B.make fun h' x' B => ⟨B.ext, B.make fun h' x' B => ⟨B.ext, B.put0 wsz wsz1 fun h' B => ⟨B.ext, B.put2 wsz wsz1 fun h' B => ⟨B.ext, B.put1 wsz wsz1 fun h' B => leaf _ _ _ _ B.v0 B.v2 B.v1 B.ext B.n1⟩⟩⟩⟩⟩⟩, B.make fun h' x' B => ⟨B.ext, ⟨B.make fun h' x' B => ⟨B.ext, B.make fun h' x' B => ⟨B.ext, B.put1 wsz wsz1 fun h' B => ⟨B.ext, B.put0 wsz wsz1 fun h' B => ⟨B.ext, B.put2 wsz wsz1 fun h' B => leaf _ _ _ _ B.v1 B.v0 B.v2 B.ext B.n2⟩⟩⟩⟩, B.make fun h' x' B => ⟨B.ext, B.make fun h' x' B => ⟨B.ext, B.put0 wsz wsz1 fun h' B => ⟨B.ext, B.put1 wsz wsz1 fun h' B => ⟨B.ext, B.put2 wsz wsz1 fun h' B => leaf _ _ _ _ B.v0 B.v1 B.v2 B.ext B.n2⟩⟩⟩⟩⟩⟩⟩⟩⟩, ⟨B.make fun h' x' B => ⟨B.ext, ⟨keys_spec fun h' x' => have B := B.on x'; ⟨_, rfl, B.ext, ⟨B.make fun h' x' B => ⟨B.ext, B.make fun h' x' B => ⟨B.ext, B.put2 wsz wsz1 fun h' B => ⟨B.ext, B.put1 wsz wsz1 fun h' B => ⟨B.ext, B.put0 wsz wsz1 fun h' B => leaf _ _ _ _ B.v2 B.v1 B.v0 B.ext B.n0⟩⟩⟩⟩, B.make fun h' x' B => ⟨B.ext, B.make fun h' x' B => ⟨B.ext, B.put2 wsz wsz1 fun h' B => ⟨B.ext, B.put0 wsz wsz1 fun h' B => ⟨B.ext, B.put1 wsz wsz1 fun h' B => leaf _ _ _ _ B.v2 B.v0 B.v1 B.ext B.n1⟩⟩⟩⟩⟩⟩, ⟨B.make fun h' x' B => ⟨B.ext, ⟨keys_spec fun h' x' => have B := B.on x'; ⟨_, rfl, B.ext, B.make fun h' x' B => ⟨B.ext, B.put2 wsz wsz1 fun h' B => ⟨B.ext, B.put1 wsz wsz1 fun h' B => ⟨B.ext, B.put0 wsz wsz1 fun h' B => leaf _ _ _ _ B.v2 B.v1 B.v0 B.ext B.n0⟩⟩⟩⟩, B.make fun h' x' B => ⟨B.ext, keys_spec fun h' x' => have B := B.on x'; ⟨_, rfl, B.ext, B.put2 wsz wsz1 fun h' B => ⟨B.ext, B.put1 wsz wsz1 fun h' B => ⟨B.ext, B.put0 wsz wsz1 fun h' B => leaf _ _ _ _ B.v2 B.v1 B.v0 B.ext B.n0⟩⟩⟩⟩⟩⟩, B.make fun h' x' B => ⟨B.ext, ⟨keys_spec fun h' x' => have B := B.on x'; ⟨_, rfl, B.ext, B.make fun h' x' B => ⟨B.ext, B.put2 wsz wsz1 fun h' B => ⟨B.ext, B.put0 wsz wsz1 fun h' B => ⟨B.ext, B.put1 wsz wsz1 fun h' B => leaf _ _ _ _ B.v2 B.v0 B.v1 B.ext B.n1⟩⟩⟩⟩, B.make fun h' x' B => ⟨B.ext, keys_spec fun h' x' => have B := B.on x'; ⟨_, rfl, B.ext, B.put2 wsz wsz1 fun h' B => ⟨B.ext, B.put0 wsz wsz1 fun h' B => ⟨B.ext, B.put1 wsz wsz1 fun h' B => leaf _ _ _ _ B.v2 B.v0 B.v1 B.ext B.n1⟩⟩⟩⟩⟩⟩⟩⟩⟩, ⟨B.make fun h' x' B => ⟨B.ext, ⟨keys_spec fun h' x' => have B := B.on x'; ⟨_, rfl, B.ext, ⟨B.make fun h' x' B => ⟨B.ext, B.make fun h' x' B => ⟨B.ext, B.put1 wsz wsz1 fun h' B => ⟨B.ext, B.put2 wsz wsz1 fun h' B => ⟨B.ext, B.put0 wsz wsz1 fun h' B => leaf _ _ _ _ B.v1 B.v2 B.v0 B.ext B.n0⟩⟩⟩⟩, B.make fun h' x' B => ⟨B.ext, B.make fun h' x' B => ⟨B.ext, B.put0 wsz wsz1 fun h' B => ⟨B.ext, B.put2 wsz wsz1 fun h' B => ⟨B.ext, B.put1 wsz wsz1 fun h' B => leaf _ _ _ _ B.v0 B.v2 B.v1 B.ext B.n1⟩⟩⟩⟩⟩⟩, ⟨B.make fun h' x' B => ⟨B.ext, ⟨keys_spec fun h' x' => have B := B.on x'; ⟨_, rfl, B.ext, B.make fun h' x' B => ⟨B.ext, B.put1 wsz wsz1 fun h' B => ⟨B.ext, B.put2 wsz wsz1 fun h' B => ⟨B.ext, B.put0 wsz wsz1 fun h' B => leaf _ _ _ _ B.v1 B.v2 B.v0 B.ext B.n0⟩⟩⟩⟩, B.make fun h' x' B => ⟨B.ext, keys_spec fun h' x' => have B := B.on x'; ⟨_, rfl, B.ext, B.put1 wsz wsz1 fun h' B => ⟨B.ext, B.put2 wsz wsz1 fun h' B => ⟨B.ext, B.put0 wsz wsz1 fun h' B => leaf _ _ _ _ B.v1 B.v2 B.v0 B.ext B.n0⟩⟩⟩⟩⟩⟩, B.make fun h' x' B => ⟨B.ext, ⟨keys_spec fun h' x' => have B := B.on x'; ⟨_, rfl, B.ext, B.make fun h' x' B => ⟨B.ext, B.put0 wsz wsz1 fun h' B => ⟨B.ext, B.put2 wsz wsz1 fun h' B => ⟨B.ext, B.put1 wsz wsz1 fun h' B => leaf _ _ _ _ B.v0 B.v2 B.v1 B.ext B.n1⟩⟩⟩⟩, B.make fun h' x' B => ⟨B.ext, keys_spec fun h' x' => have B := B.on x'; ⟨_, rfl, B.ext, B.put0 wsz wsz1 fun h' B => ⟨B.ext, B.put2 wsz wsz1 fun h' B => ⟨B.ext, B.put1 wsz wsz1 fun h' B => leaf _ _ _ _ B.v0 B.v2 B.v1 B.ext B.n1⟩⟩⟩⟩⟩⟩⟩⟩⟩, B.make fun h' x' B => ⟨B.ext, ⟨keys_spec fun h' x' => have B := B.on x'; ⟨_, rfl, B.ext, ⟨B.make fun h' x' B => ⟨B.ext, B.make fun h' x' B => ⟨B.ext, B.put1 wsz wsz1 fun h' B => ⟨B.ext, B.put0 wsz wsz1 fun h' B => ⟨B.ext, B.put2 wsz wsz1 fun h' B => leaf _ _ _ _ B.v1 B.v0 B.v2 B.ext B.n2⟩⟩⟩⟩, B.make fun h' x' B => ⟨B.ext, B.make fun h' x' B => ⟨B.ext, B.put0 wsz wsz1 fun h' B => ⟨B.ext, B.put1 wsz wsz1 fun h' B => ⟨B.ext, B.put2 wsz wsz1 fun h' B => leaf _ _ _ _ B.v0 B.v1 B.v2 B.ext B.n2⟩⟩⟩⟩⟩⟩, ⟨B.make fun h' x' B => ⟨B.ext, ⟨keys_spec fun h' x' => have B := B.on x'; ⟨_, rfl, B.ext, B.make fun h' x' B => ⟨B.ext, B.put1 wsz wsz1 fun h' B => ⟨B.ext, B.put0 wsz wsz1 fun h' B => ⟨B.ext, B.put2 wsz wsz1 fun h' B => leaf _ _ _ _ B.v1 B.v0 B.v2 B.ext B.n2⟩⟩⟩⟩, B.make fun h' x' B => ⟨B.ext, keys_spec fun h' x' => have B := B.on x'; ⟨_, rfl, B.ext, B.put1 wsz wsz1 fun h' B => ⟨B.ext, B.put0 wsz wsz1 fun h' B => ⟨B.ext, B.put2 wsz wsz1 fun h' B => leaf _ _ _ _ B.v1 B.v0 B.v2 B.ext B.n2⟩⟩⟩⟩⟩⟩, B.make fun h' x' B => ⟨B.ext, ⟨keys_spec fun h' x' => have B := B.on x'; ⟨_, rfl, B.ext, B.make fun h' x' B => ⟨B.ext, B.put0 wsz wsz1 fun h' B => ⟨B.ext, B.put1 wsz wsz1 fun h' B => ⟨B.ext, B.put2 wsz wsz1 fun h' B => leaf _ _ _ _ B.v0 B.v1 B.v2 B.ext B.n2⟩⟩⟩⟩, B.make fun h' x' B => ⟨B.ext, keys_spec fun h' x' => have B := B.on x'; ⟨_, rfl, B.ext, B.put0 wsz wsz1 fun h' B => ⟨B.ext, B.put1 wsz wsz1 fun h' B => ⟨B.ext, B.put2 wsz wsz1 fun h' B => leaf _ _ _ _ B.v0 B.v1 B.v2 B.ext B.n2⟩⟩⟩⟩⟩⟩⟩⟩⟩⟩⟩⟩⟩, ⟨B.make fun h' x' B => ⟨B.ext, ⟨lay_spec (bs := bs) (e.ext B.ext) hl fun h' x' => have B := B.on x'; ⟨_, rfl, B.ext, ⟨keys_spec fun h' x' => have B := B.on x'; ⟨_, rfl, B.ext, ⟨B.make fun h' x' B => ⟨B.ext, B.make fun h' x' B => ⟨B.ext, B.put2 wsz wsz1 fun h' B => ⟨B.ext, B.put1 wsz wsz1 fun h' B => ⟨B.ext, B.put0 wsz wsz1 fun h' B => leaf _ _ _ _ B.v2 B.v1 B.v0 B.ext B.n0⟩⟩⟩⟩, B.make fun h' x' B => ⟨B.ext, B.make fun h' x' B => ⟨B.ext, B.put2 wsz wsz1 fun h' B => ⟨B.ext, B.put0 wsz wsz1 fun h' B => ⟨B.ext, B.put1 wsz wsz1 fun h' B => leaf _ _ _ _ B.v2 B.v0 B.v1 B.ext B.n1⟩⟩⟩⟩⟩⟩, ⟨B.make fun h' x' B => ⟨B.ext, ⟨keys_spec fun h' x' => have B := B.on x'; ⟨_, rfl, B.ext, B.make fun h' x' B => ⟨B.ext, B.put2 wsz wsz1 fun h' B => ⟨B.ext, B.put1 wsz wsz1 fun h' B => ⟨B.ext, B.put0 wsz wsz1 fun h' B => leaf _ _ _ _ B.v2 B.v1 B.v0 B.ext B.n0⟩⟩⟩⟩, B.make fun h' x' B => ⟨B.ext, keys_spec fun h' x' => have B := B.on x'; ⟨_, rfl, B.ext, B.put2 wsz wsz1 fun h' B => ⟨B.ext, B.put1 wsz wsz1 fun h' B => ⟨B.ext, B.put0 wsz wsz1 fun h' B => leaf _ _ _ _ B.v2 B.v1 B.v0 B.ext B.n0⟩⟩⟩⟩⟩⟩, B.make fun h' x' B => ⟨B.ext, ⟨keys_spec fun h' x' => have B := B.on x'; ⟨_, rfl, B.ext, B.make fun h' x' B => ⟨B.ext, B.put2 wsz wsz1 fun h' B => ⟨B.ext, B.put0 wsz wsz1 fun h' B => ⟨B.ext, B.put1 wsz wsz1 fun h' B => leaf _ _ _ _ B.v2 B.v0 B.v1 B.ext B.n1⟩⟩⟩⟩, B.make fun h' x' B => ⟨B.ext, keys_spec fun h' x' => have B := B.on x'; ⟨_, rfl, B.ext, B.put2 wsz wsz1 fun h' B => ⟨B.ext, B.put0 wsz wsz1 fun h' B => ⟨B.ext, B.put1 wsz wsz1 fun h' B => leaf _ _ _ _ B.v2 B.v0 B.v1 B.ext B.n1⟩⟩⟩⟩⟩⟩⟩⟩⟩, ⟨B.make fun h' x' B => ⟨B.ext, ⟨lay_spec (bs := bs) (e.ext B.ext) hl fun h' x' => have B := B.on x'; ⟨_, rfl, B.ext, ⟨keys_spec fun h' x' => have B := B.on x'; ⟨_, rfl, B.ext, B.make fun h' x' B => ⟨B.ext, B.put2 wsz wsz1 fun h' B => ⟨B.ext, B.put1 wsz wsz1 fun h' B => ⟨B.ext, B.put0 wsz wsz1 fun h' B => leaf _ _ _ _ B.v2 B.v1 B.v0 B.ext B.n0⟩⟩⟩⟩, B.make fun h' x' B => ⟨B.ext, keys_spec fun h' x' => have B := B.on x'; ⟨_, rfl, B.ext, B.put2 wsz wsz1 fun h' B => ⟨B.ext, B.put1 wsz wsz1 fun h' B => ⟨B.ext, B.put0 wsz wsz1 fun h' B => leaf _ _ _ _ B.v2 B.v1 B.v0 B.ext B.n0⟩⟩⟩⟩⟩⟩, B.make fun h' x' B => ⟨B.ext, lay_spec (bs := bs) (e.ext B.ext) hl fun h' x' => have B := B.on x'; ⟨_, rfl, B.ext, keys_spec fun h' x' => have B := B.on x'; ⟨_, rfl, B.ext, B.put2 wsz wsz1 fun h' B => ⟨B.ext, B.put1 wsz wsz1 fun h' B => ⟨B.ext, B.put0 wsz wsz1 fun h' B => leaf _ _ _ _ B.v2 B.v1 B.v0 B.ext B.n0⟩⟩⟩⟩⟩⟩⟩, B.make fun h' x' B => ⟨B.ext, ⟨lay_spec (bs := bs) (e.ext B.ext) hl fun h' x' => have B := B.on x'; ⟨_, rfl, B.ext, ⟨keys_spec fun h' x' => have B := B.on x'; ⟨_, rfl, B.ext, B.make fun h' x' B => ⟨B.ext, B.put2 wsz wsz1 fun h' B => ⟨B.ext, B.put0 wsz wsz1 fun h' B => ⟨B.ext, B.put1 wsz wsz1 fun h' B => leaf _ _ _ _ B.v2 B.v0 B.v1 B.ext B.n1⟩⟩⟩⟩, B.make fun h' x' B => ⟨B.ext, keys_spec fun h' x' => have B := B.on x'; ⟨_, rfl, B.ext, B.put2 wsz wsz1 fun h' B => ⟨B.ext, B.put0 wsz wsz1 fun h' B => ⟨B.ext, B.put1 wsz wsz1 fun h' B => leaf _ _ _ _ B.v2 B.v0 B.v1 B.ext B.n1⟩⟩⟩⟩⟩⟩, B.make fun h' x' B => ⟨B.ext, lay_spec (bs := bs) (e.ext B.ext) hl fun h' x' => have B := B.on x'; ⟨_, rfl, B.ext, keys_spec fun h' x' => have B := B.on x'; ⟨_, rfl, B.ext, B.put2 wsz wsz1 fun h' B => ⟨B.ext, B.put0 wsz wsz1 fun h' B => ⟨B.ext, B.put1 wsz wsz1 fun h' B => leaf _ _ _ _ B.v2 B.v0 B.v1 B.ext B.n1⟩⟩⟩⟩⟩⟩⟩⟩⟩⟩, ⟨B.make fun h' x' B => ⟨B.ext, ⟨lay_spec (bs := bs) (e.ext B.ext) hl fun h' x' => have B := B.on x'; ⟨_, rfl, B.ext, ⟨keys_spec fun h' x' => have B := B.on x'; ⟨_, rfl, B.ext, ⟨B.make fun h' x' B => ⟨B.ext, B.make fun h' x' B => ⟨B.ext, B.put1 wsz wsz1 fun h' B => ⟨B.ext, B.put2 wsz wsz1 fun h' B => ⟨B.ext, B.put0 wsz wsz1 fun h' B => leaf _ _ _ _ B.v1 B.v2 B.v0 B.ext B.n0⟩⟩⟩⟩, B.make fun h' x' B => ⟨B.ext, B.make fun h' x' B => ⟨B.ext, B.put0 wsz wsz1 fun h' B => ⟨B.ext, B.put2 wsz wsz1 fun h' B => ⟨B.ext, B.put1 wsz wsz1 fun h' B => leaf _ _ _ _ B.v0 B.v2 B.v1 B.ext B.n1⟩⟩⟩⟩⟩⟩, ⟨B.make fun h' x' B => ⟨B.ext, ⟨keys_spec fun h' x' => have B := B.on x'; ⟨_, rfl, B.ext, B.make fun h' x' B => ⟨B.ext, B.put1 wsz wsz1 fun h' B => ⟨B.ext, B.put2 wsz wsz1 fun h' B => ⟨B.ext, B.put0 wsz wsz1 fun h' B => leaf _ _ _ _ B.v1 B.v2 B.v0 B.ext B.n0⟩⟩⟩⟩, B.make fun h' x' B => ⟨B.ext, keys_spec fun h' x' => have B := B.on x'; ⟨_, rfl, B.ext, B.put1 wsz wsz1 fun h' B => ⟨B.ext, B.put2 wsz wsz1 fun h' B => ⟨B.ext, B.put0 wsz wsz1 fun h' B => leaf _ _ _ _ B.v1 B.v2 B.v0 B.ext B.n0⟩⟩⟩⟩⟩⟩, B.make fun h' x' B => ⟨B.ext, ⟨keys_spec fun h' x' => have B := B.on x'; ⟨_, rfl, B.ext, B.make fun h' x' B => ⟨B.ext, B.put0 wsz wsz1 fun h' B => ⟨B.ext, B.put2 wsz wsz1 fun h' B => ⟨B.ext, B.put1 wsz wsz1 fun h' B => leaf _ _ _ _ B.v0 B.v2 B.v1 B.ext B.n1⟩⟩⟩⟩, B.make fun h' x' B => ⟨B.ext, keys_spec fun h' x' => have B := B.on x'; ⟨_, rfl, B.ext, B.put0 wsz wsz1 fun h' B => ⟨B.ext, B.put2 wsz wsz1 fun h' B => ⟨B.ext, B.put1 wsz wsz1 fun h' B => leaf _ _ _ _ B.v0 B.v2 B.v1 B.ext B.n1⟩⟩⟩⟩⟩⟩⟩⟩⟩, ⟨B.make fun h' x' B => ⟨B.ext, ⟨lay_spec (bs := bs) (e.ext B.ext) hl fun h' x' => have B := B.on x'; ⟨_, rfl, B.ext, ⟨keys_spec fun h' x' => have B := B.on x'; ⟨_, rfl, B.ext, B.make fun h' x' B => ⟨B.ext, B.put1 wsz wsz1 fun h' B => ⟨B.ext, B.put2 wsz wsz1 fun h' B => ⟨B.ext, B.put0 wsz wsz1 fun h' B => leaf _ _ _ _ B.v1 B.v2 B.v0 B.ext B.n0⟩⟩⟩⟩, B.make fun h' x' B => ⟨B.ext, keys_spec fun h' x' => have B := B.on x'; ⟨_, rfl, B.ext, B.put1 wsz wsz1 fun h' B => ⟨B.ext, B.put2 wsz wsz1 fun h' B => ⟨B.ext, B.put0 wsz wsz1 fun h' B => leaf _ _ _ _ B.v1 B.v2 B.v0 B.ext B.n0⟩⟩⟩⟩⟩⟩, B.make fun h' x' B => ⟨B.ext, lay_spec (bs := bs) (e.ext B.ext) hl fun h' x' => have B := B.on x'; ⟨_, rfl, B.ext, keys_spec fun h' x' => have B := B.on x'; ⟨_, rfl, B.ext, B.put1 wsz wsz1 fun h' B => ⟨B.ext, B.put2 wsz wsz1 fun h' B => ⟨B.ext, B.put0 wsz wsz1 fun h' B => leaf _ _ _ _ B.v1 B.v2 B.v0 B.ext B.n0⟩⟩⟩⟩⟩⟩⟩, B.make fun h' x' B => ⟨B.ext, ⟨lay_spec (bs := bs) (e.ext B.ext) hl fun h' x' => have B := B.on x'; ⟨_, rfl, B.ext, ⟨keys_spec fun h' x' => have B := B.on x'; ⟨_, rfl, B.ext, B.make fun h' x' B => ⟨B.ext, B.put0 wsz wsz1 fun h' B => ⟨B.ext, B.put2 wsz wsz1 fun h' B => ⟨B.ext, B.put1 wsz wsz1 fun h' B => leaf _ _ _ _ B.v0 B.v2 B.v1 B.ext B.n1⟩⟩⟩⟩, B.make fun h' x' B => ⟨B.ext, keys_spec fun h' x' => have B := B.on x'; ⟨_, rfl, B.ext, B.put0 wsz wsz1 fun h' B => ⟨B.ext, B.put2 wsz wsz1 fun h' B => ⟨B.ext, B.put1 wsz wsz1 fun h' B => leaf _ _ _ _ B.v0 B.v2 B.v1 B.ext B.n1⟩⟩⟩⟩⟩⟩, B.make fun h' x' B => ⟨B.ext, lay_spec (bs := bs) (e.ext B.ext) hl fun h' x' => have B := B.on x'; ⟨_, rfl, B.ext, keys_spec fun h' x' => have B := B.on x'; ⟨_, rfl, B.ext, B.put0 wsz wsz1 fun h' B => ⟨B.ext, B.put2 wsz wsz1 fun h' B => ⟨B.ext, B.put1 wsz wsz1 fun h' B => leaf _ _ _ _ B.v0 B.v2 B.v1 B.ext B.n1⟩⟩⟩⟩⟩⟩⟩⟩⟩⟩, B.make fun h' x' B => ⟨B.ext, ⟨lay_spec (bs := bs) (e.ext B.ext) hl fun h' x' => have B := B.on x'; ⟨_, rfl, B.ext, ⟨keys_spec fun h' x' => have B := B.on x'; ⟨_, rfl, B.ext, ⟨B.make fun h' x' B => ⟨B.ext, B.make fun h' x' B => ⟨B.ext, B.put1 wsz wsz1 fun h' B => ⟨B.ext, B.put0 wsz wsz1 fun h' B => ⟨B.ext, B.put2 wsz wsz1 fun h' B => leaf _ _ _ _ B.v1 B.v0 B.v2 B.ext B.n2⟩⟩⟩⟩, B.make fun h' x' B => ⟨B.ext, B.make fun h' x' B => ⟨B.ext, B.put0 wsz wsz1 fun h' B => ⟨B.ext, B.put1 wsz wsz1 fun h' B => ⟨B.ext, B.put2 wsz wsz1 fun h' B => leaf _ _ _ _ B.v0 B.v1 B.v2 B.ext B.n2⟩⟩⟩⟩⟩⟩, ⟨B.make fun h' x' B => ⟨B.ext, ⟨keys_spec fun h' x' => have B := B.on x'; ⟨_, rfl, B.ext, B.make fun h' x' B => ⟨B.ext, B.put1 wsz wsz1 fun h' B => ⟨B.ext, B.put0 wsz wsz1 fun h' B => ⟨B.ext, B.put2 wsz wsz1 fun h' B => leaf _ _ _ _ B.v1 B.v0 B.v2 B.ext B.n2⟩⟩⟩⟩, B.make fun h' x' B => ⟨B.ext, keys_spec fun h' x' => have B := B.on x'; ⟨_, rfl, B.ext, B.put1 wsz wsz1 fun h' B => ⟨B.ext, B.put0 wsz wsz1 fun h' B => ⟨B.ext, B.put2 wsz wsz1 fun h' B => leaf _ _ _ _ B.v1 B.v0 B.v2 B.ext B.n2⟩⟩⟩⟩⟩⟩, B.make fun h' x' B => ⟨B.ext, ⟨keys_spec fun h' x' => have B := B.on x'; ⟨_, rfl, B.ext, B.make fun h' x' B => ⟨B.ext, B.put0 wsz wsz1 fun h' B => ⟨B.ext, B.put1 wsz wsz1 fun h' B => ⟨B.ext, B.put2 wsz wsz1 fun h' B => leaf _ _ _ _ B.v0 B.v1 B.v2 B.ext B.n2⟩⟩⟩⟩, B.make fun h' x' B => ⟨B.ext, keys_spec fun h' x' => have B := B.on x'; ⟨_, rfl, B.ext, B.put0 wsz wsz1 fun h' B => ⟨B.ext, B.put1 wsz wsz1 fun h' B => ⟨B.ext, B.put2 wsz wsz1 fun h' B => leaf _ _ _ _ B.v0 B.v1 B.v2 B.ext B.n2⟩⟩⟩⟩⟩⟩⟩⟩⟩, ⟨B.make fun h' x' B => ⟨B.ext, ⟨lay_spec (bs := bs) (e.ext B.ext) hl fun h' x' => have B := B.on x'; ⟨_, rfl, B.ext, ⟨keys_spec fun h' x' => have B := B.on x'; ⟨_, rfl, B.ext, B.make fun h' x' B => ⟨B.ext, B.put1 wsz wsz1 fun h' B => ⟨B.ext, B.put0 wsz wsz1 fun h' B => ⟨B.ext, B.put2 wsz wsz1 fun h' B => leaf _ _ _ _ B.v1 B.v0 B.v2 B.ext B.n2⟩⟩⟩⟩, B.make fun h' x' B => ⟨B.ext, keys_spec fun h' x' => have B := B.on x'; ⟨_, rfl, B.ext, B.put1 wsz wsz1 fun h' B => ⟨B.ext, B.put0 wsz wsz1 fun h' B => ⟨B.ext, B.put2 wsz wsz1 fun h' B => leaf _ _ _ _ B.v1 B.v0 B.v2 B.ext B.n2⟩⟩⟩⟩⟩⟩, B.make fun h' x' B => ⟨B.ext, lay_spec (bs := bs) (e.ext B.ext) hl fun h' x' => have B := B.on x'; ⟨_, rfl, B.ext, keys_spec fun h' x' => have B := B.on x'; ⟨_, rfl, B.ext, B.put1 wsz wsz1 fun h' B => ⟨B.ext, B.put0 wsz wsz1 fun h' B => ⟨B.ext, B.put2 wsz wsz1 fun h' B => leaf _ _ _ _ B.v1 B.v0 B.v2 B.ext B.n2⟩⟩⟩⟩⟩⟩⟩, B.make fun h' x' B => ⟨B.ext, ⟨lay_spec (bs := bs) (e.ext B.ext) hl fun h' x' => have B := B.on x'; ⟨_, rfl, B.ext, ⟨keys_spec fun h' x' => have B := B.on x'; ⟨_, rfl, B.ext, B.make fun h' x' B => ⟨B.ext, B.put0 wsz wsz1 fun h' B => ⟨B.ext, B.put1 wsz wsz1 fun h' B => ⟨B.ext, B.put2 wsz wsz1 fun h' B => leaf _ _ _ _ B.v0 B.v1 B.v2 B.ext B.n2⟩⟩⟩⟩, B.make fun h' x' B => ⟨B.ext, keys_spec fun h' x' => have B := B.on x'; ⟨_, rfl, B.ext, B.put0 wsz wsz1 fun h' B => ⟨B.ext, B.put1 wsz wsz1 fun h' B => ⟨B.ext, B.put2 wsz wsz1 fun h' B => leaf _ _ _ _ B.v0 B.v1 B.v2 B.ext B.n2⟩⟩⟩⟩⟩⟩, B.make fun h' x' B => ⟨B.ext, lay_spec (bs := bs) (e.ext B.ext) hl fun h' x' => have B := B.on x'; ⟨_, rfl, B.ext, keys_spec fun h' x' => have B := B.on x'; ⟨_, rfl, B.ext, B.put0 wsz wsz1 fun h' B => ⟨B.ext, B.put1 wsz wsz1 fun h' B => ⟨B.ext, B.put2 wsz wsz1 fun h' B => leaf _ _ _ _ B.v0 B.v1 B.v2 B.ext B.n2⟩⟩⟩⟩⟩⟩⟩⟩⟩⟩⟩⟩⟩

end
end Go.Proofs.Ytldocdpdjdekiaa.Board
end

section
/- The conditions of functions, as the generator reckons them out, each with the proof that it is that. -/
namespace Go.Proofs.Ytldocdpdjdekiaa
open Go Go.Vc
set_option maxRecDepth 100000
set_option linter.unusedVariables false

def le_Put_vc (b : Sl) (n : Int) (width : Int) (h : Heap) (R : Value → Heap → Prop) : Prop := Go.Vc.Loop (b, n, 0) h fun (s : Sl × Int × Int) (h : Array Obj) (K : Sl × Int × Int → Array Obj → Prop) ↦ If (decide (s.snd.snd < mn (mx width 0) 8)) (∃ (new : List Value), slAt (Array.push h (row (TVs.cells [.int .u8 (IntKind.wrap .u8 s.snd.fst)]) 5)) (Sl.mk (some (Loc.mk h.size 0)) 1 1) 1 new ∧ (∀ (v : Value), v ∈ new → isOne v = true) ∧ vcAppend Ytldocdpdjdekiaa.ctx 5 s.fst 1 new (Array.push h (row (TVs.cells [.int .u8 (IntKind.wrap .u8 s.snd.fst)]) 5)) fun s_1 h ↦ (0 : Int) ≤ 8 ∧ K (s_1, Int.fdiv s.snd.fst ((2 : Int) ^ min (Int.toNat 8) (IntKind.bits .u64)), IntKind.wrap .i64 (s.snd.snd + 1)) h) (R (TV.val (.slice s.fst)) h)
theorem le_Put_calls (b : Sl) (n : Int) (width : Int) (h : Heap) (R : Value → Heap → Prop) (H : le_Put_vc b n width h R) : CallsH Try.prog 122 (TVs.vals [.slice b, .int .u64 n, .int .i64 width]) h R := via ctx_ok Try.func122 (by kernel_rfl) H

def sha_Less_vc (a : Bs 32) (b : Bs 32) (h : Heap) (R : Value → Heap → Prop) : Prop := Vc.Bind (newTV h (.bytes 32 a) 50) fun h_1 ↦ Vc.Bind (newTV h_1 (.bytes 32 b) 50) fun h_2 ↦ ∃ (bs : List UInt8), strAt h_2 (cutSl (Sl.mk (some (Loc.mk h.size 0)) 32 32) 0 32 1) bs ∧ ∃ (bs_1 : List UInt8), strAt h_2 (cutSl (Sl.mk (some (Loc.mk h_1.size 0)) 32 32) 0 32 1) bs_1 ∧ R (TV.val (.bool (Op.bytesLess bs bs_1))) h_2
theorem sha_Less_calls (a : Bs 32) (b : Bs 32) (h : Heap) (R : Value → Heap → Prop) (H : sha_Less_vc a b h R) : CallsS Try.prog 117 (TVs.vals [.bytes 32 a, .bytes 32 b]) h R := via ctxS_ok Try.func117 (by kernel_rfl) H

def sha_state_add_vc (s_ : Option Go.Vc.Loc) (text : List UInt8) (h : Heap) (R : Value → Heap → Prop) : Prop := Nn s_ fun l ↦ ∃ (n : Int), at1 h l.b (l.o + 9) (.int .u64 n) ∧ Nn s_ fun l ↦ wok h l.b (l.o + 9) 1 ∧ Vc.Bind (TV.put h l.b (l.o + 9) (.int .u64 (IntKind.wrap .u64 (n + IntKind.wrap .u64 (↑(List.length text) : Int))))) fun h ↦ Nn s_ fun l ↦ ∃ (s : Sl), at1 h l.b (l.o + 8) (slVal s) ∧ vcAppend Ytldocdpdjdekiaa.ctx 5 s (List.length text) (List.map (fun (c : UInt8) ↦ .int .u8 (↑(UInt8.toNat c) : Int)) text) h fun s h ↦ Nn s_ fun l ↦ wok h l.b (l.o + 8) 1 ∧ Vc.Bind (TV.put h l.b (l.o + 8) (.slice s)) fun h ↦ Go.Vc.Loop PUnit.unit h fun (s : PUnit) (h : Array Obj) (K : PUnit → Array Obj → Prop) ↦ Nn s_ fun l ↦ ∃ (s : Sl), at1 h l.b (l.o + 8) (slVal s) ∧ If (decide (64 ≤ (↑s.len : Int))) (Nn s_ fun l ↦ ∃ (s : Sl), at1 h l.b (l.o + 8) (slVal s) ∧ (0 : Int) ≤ 64 ∧ 64 ≤ (↑s.cap : Int) ∧ CallsH Try.prog 134 (TVs.vals [.ptr s_, .slice (cutSl s 0 (Int.toNat 64) 1)]) h fun v h ↦ v = TV.val (.tup []) ∧ Nn s_ fun l ↦ ∃ (s : Sl), at1 h l.b (l.o + 8) (slVal s) ∧ (0 : Int) ≤ 64 ∧ 64 ≤ (↑s.len : Int) ∧ Nn s_ fun l ↦ wok h l.b (l.o + 8) 1 ∧ Vc.Bind (TV.put h l.b (l.o + 8) (.slice (cutSl s (Int.toNat 64) s.len 1))) fun h ↦ K PUnit.unit h) (R (TV.val (.tup [])) h)
theorem sha_state_add_calls (s_ : Option Go.Vc.Loc) (text : List UInt8) (h : Heap) (R : Value → Heap → Prop) (H : sha_state_add_vc s_ text h R) : CallsH Try.prog 120 (TVs.vals [.ptr s_, .str text]) h R := via ctx_ok Try.func120 (by kernel_rfl) H

def sha_state_end_vc (s_ : Option Go.Vc.Loc) (h : Heap) (R : Value → Heap → Prop) : Prop := Vc.Bind (newTV h (.bytes 32 (Bs.zero 32)) 50) fun h_1 ↦ Nn s_ fun l ↦ ∃ (n : Int), at1 h_1 l.b (l.o + 9) (.int .u64 n) ∧ Nn s_ fun l ↦ ∃ (s : Sl), at1 h_1 l.b (l.o + 8) (slVal s) ∧ ∃ (new : List Value), slAt (Array.push h_1 (row (TVs.cells [.int .u8 128]) 5)) (Sl.mk (some (Loc.mk h_1.size 0)) 1 1) 1 new ∧ (∀ (v : Value), v ∈ new → isOne v = true) ∧ vcAppend Ytldocdpdjdekiaa.ctx 5 s 1 new (Array.push h_1 (row (TVs.cells [.int .u8 128]) 5)) fun s h_2 ↦ Nn s_ fun l ↦ wok h_2 l.b (l.o + 8) 1 ∧ Vc.Bind (TV.put h_2 l.b (l.o + 8) (.slice s)) fun h_3 ↦ Go.Vc.Loop PUnit.unit h_3 fun (s : PUnit) (h_4 : Array Obj) (K : PUnit → Array Obj → Prop) ↦ Nn s_ fun l ↦ ∃ (s : Sl), at1 h_4 l.b (l.o + 8) (slVal s) ∧ (64 : Int) ≠ 0 ∧ If (!decide (Int.tmod (↑s.len : Int) (64 : Int) = 56)) (Nn s_ fun l ↦ ∃ (s : Sl), at1 h_4 l.b (l.o + 8) (slVal s) ∧ ∃ (new : List Value), slAt (Array.push h_4 (row (TVs.cells [.int .u8 0]) 5)) (Sl.mk (some (Loc.mk h_4.size 0)) 1 1) 1 new ∧ (∀ (v : Value), v ∈ new → isOne v = true) ∧ vcAppend Ytldocdpdjdekiaa.ctx 5 s 1 new (Array.push h_4 (row (TVs.cells [.int .u8 0]) 5)) fun s h ↦ Nn s_ fun l ↦ wok h l.b (l.o + 8) 1 ∧ Vc.Bind (TV.put h l.b (l.o + 8) (.slice s)) fun h ↦ K PUnit.unit h) (Go.Vc.Loop (0 : Int) h_4 fun (s : Int) (h_5 : Array Obj) (K : Int → Array Obj → Prop) ↦ If (decide (s < 8)) (Nn s_ fun l ↦ ∃ (s_1 : Sl), at1 h_5 l.b (l.o + 8) (slVal s_1) ∧ 0 ≤ IntKind.wrap .i64 (56 - IntKind.wrap .i64 (8 * s)) ∧ Ext h_5 (Array.push h_5 (row (TVs.cells [.int .u8 (IntKind.wrap .u8 (Int.fdiv (IntKind.wrap .u64 (n * 8)) ((2 : Int) ^ min (Int.toNat (IntKind.wrap .i64 (56 - IntKind.wrap .i64 (8 * s)))) (IntKind.bits .u64))))]) 5)) ∧ ∃ (new : List Value), slAt (Array.push h_5 (row (TVs.cells [.int .u8 (IntKind.wrap .u8 (Int.fdiv (IntKind.wrap .u64 (n * 8)) ((2 : Int) ^ min (Int.toNat (IntKind.wrap .i64 (56 - IntKind.wrap .i64 (8 * s)))) (IntKind.bits .u64))))]) 5)) (Sl.mk (some (Loc.mk h_5.size 0)) 1 1) 1 new ∧ (∀ (v : Value), v ∈ new → isOne v = true) ∧ vcAppend Ytldocdpdjdekiaa.ctx 5 s_1 1 new (Array.push h_5 (row (TVs.cells [.int .u8 (IntKind.wrap .u8 (Int.fdiv (IntKind.wrap .u64 (n * 8)) ((2 : Int) ^ min (Int.toNat (IntKind.wrap .i64 (56 - IntKind.wrap .i64 (8 * s)))) (IntKind.bits .u64))))]) 5)) fun s_2 h ↦ Nn s_ fun l ↦ wok h l.b (l.o + 8) 1 ∧ Vc.Bind (TV.put h l.b (l.o + 8) (.slice s_2)) fun h ↦ K (IntKind.wrap .i64 (s + 1)) h) (Go.Vc.Loop PUnit.unit h_5 fun (s : PUnit) (h_6 : Array Obj) (K : PUnit → Array Obj → Prop) ↦ Nn s_ fun l ↦ ∃ (s : Sl), at1 h_6 l.b (l.o + 8) (slVal s) ∧ If (decide (0 < (↑s.len : Int))) (Nn s_ fun l ↦ ∃ (s : Sl), at1 h_6 l.b (l.o + 8) (slVal s) ∧ (0 : Int) ≤ 64 ∧ 64 ≤ (↑s.cap : Int) ∧ CallsH Try.prog 134 (TVs.vals [.ptr s_, .slice (cutSl s 0 (Int.toNat 64) 1)]) h_6 fun v h ↦ v = TV.val (.tup []) ∧ Nn s_ fun l ↦ ∃ (s : Sl), at1 h l.b (l.o + 8) (slVal s) ∧ (0 : Int) ≤ 64 ∧ 64 ≤ (↑s.len : Int) ∧ Nn s_ fun l ↦ wok h l.b (l.o + 8) 1 ∧ Vc.Bind (TV.put h l.b (l.o + 8) (.slice (cutSl s (Int.toNat 64) s.len 1))) fun h ↦ K PUnit.unit h) (Vc.Bind (newTV h_6 (.bytes 32 (Bs.zero 32)) 50) fun h_7 ↦ Nn s_ fun l ↦ ∃ (w : Ws 8), atWords h_7 l.b l.o IntKind.u32 8 w ∧ Go.Vc.Loop (0 : Int) h_7 fun (s : Int) (h_8 : Array Obj) (K : Int → Array Obj → Prop) ↦ If (decide (s < 8)) (0 ≤ s ∧ s < (↑8 : Int) ∧ (0 : Int) ≤ 24 ∧ (0 : Int) ≤ 16 ∧ (0 : Int) ≤ 8 ∧ 0 ≤ IntKind.wrap .i64 (4 * s) ∧ IntKind.wrap .i64 (4 * s) < (↑32 : Int) ∧ wok h_8 h_6.size (0 + Int.toNat (IntKind.wrap .i64 (4 * s)) * 1) 1 ∧ Vc.Bind (TV.put h_8 h_6.size (0 + Int.toNat (IntKind.wrap .i64 (4 * s)) * 1) (.int .u8 (IntKind.wrap .u8 (Int.fdiv (List.getD w.l (Int.toNat s) 0) ((2 : Int) ^ min (Int.toNat 24) (IntKind.bits .u32)))))) fun h ↦ 0 ≤ IntKind.wrap .i64 (IntKind.wrap .i64 (4 * s) + 1) ∧ IntKind.wrap .i64 (IntKind.wrap .i64 (4 * s) + 1) < (↑32 : Int) ∧ wok h h_6.size (0 + Int.toNat (IntKind.wrap .i64 (IntKind.wrap .i64 (4 * s) + 1)) * 1) 1 ∧ Vc.Bind (TV.put h h_6.size (0 + Int.toNat (IntKind.wrap .i64 (IntKind.wrap .i64 (4 * s) + 1)) * 1) (.int .u8 (IntKind.wrap .u8 (Int.fdiv (List.getD w.l (Int.toNat s) 0) ((2 : Int) ^ min (Int.toNat 16) (IntKind.bits .u32)))))) fun h ↦ 0 ≤ IntKind.wrap .i64 (IntKind.wrap .i64 (4 * s) + 2) ∧ IntKind.wrap .i64 (IntKind.wrap .i64 (4 * s) + 2) < (↑32 : Int) ∧ wok h h_6.size (0 + Int.toNat (IntKind.wrap .i64 (IntKind.wrap .i64 (4 * s) + 2)) * 1) 1 ∧ Vc.Bind (TV.put h h_6.size (0 + Int.toNat (IntKind.wrap .i64 (IntKind.wrap .i64 (4 * s) + 2)) * 1) (.int .u8 (IntKind.wrap .u8 (Int.fdiv (List.getD w.l (Int.toNat s) 0) ((2 : Int) ^ min (Int.toNat 8) (IntKind.bits .u32)))))) fun h ↦ 0 ≤ IntKind.wrap .i64 (IntKind.wrap .i64 (4 * s) + 3) ∧ IntKind.wrap .i64 (IntKind.wrap .i64 (4 * s) + 3) < (↑32 : Int) ∧ wok h h_6.size (0 + Int.toNat (IntKind.wrap .i64 (IntKind.wrap .i64 (4 * s) + 3)) * 1) 1 ∧ Vc.Bind (TV.put h h_6.size (0 + Int.toNat (IntKind.wrap .i64 (IntKind.wrap .i64 (4 * s) + 3)) * 1) (.int .u8 (IntKind.wrap .u8 (List.getD w.l (Int.toNat s) 0)))) fun h ↦ K (IntKind.wrap .i64 (s + 1)) h) (∃ (b : Bs 32), atBytes h_8 h_6.size 0 32 b ∧ wok h_8 h.size 0 32 ∧ Vc.Bind (TV.put h_8 h.size 0 (.bytes 32 b)) fun h_9 ↦ ∃ (b : Bs 32), atBytes h_9 h.size 0 32 b ∧ R (TV.val (.bytes 32 b)) h_9))))
theorem sha_state_end_calls (s_ : Option Go.Vc.Loc) (h : Heap) (R : Value → Heap → Prop) (H : sha_state_end_vc s_ h R) : CallsH Try.prog 121 (TVs.vals [.ptr s_]) h R := via ctx_ok Try.func121 (by kernel_rfl) H

def sha_Of_vc (list : Sl) (h : Heap) (R : Value → Heap → Prop) : Prop := Vc.Bind (newTV h (.bytes 32 (Bs.zero 32)) 50) fun h_1 ↦ CallsH Try.prog 119 (TVs.vals []) h_1 fun v h_2 ↦ ∃ (w : Ws 8), v = TV.val (.words IntKind.u32 8 w) ∧ Vc.Bind (newTV h_2 (.agg [.words IntKind.u32 8 w, .slice Sl.nil, .int .u64 0]) 209) fun h_3 ↦ Go.Vc.Loop (0 : Int) h_3 fun (s : Int) (h_4 : Array Obj) (K : Int → Array Obj → Prop) ↦ If (decide (s < (↑list.len : Int))) (0 ≤ s ∧ s < (↑list.len : Int) ∧ Nn list.a fun l ↦ ∃ (s_1 : List UInt8), at1 h_4 l.b (l.o + Int.toNat s * 1) (Value.string (ByteArray.mk (List.toArray s_1))) ∧ CallsH Try.prog 120 (TVs.vals [.ptr (some (Loc.mk h_2.size 0)), .str s_1]) h_4 fun v h ↦ v = TV.val (.tup []) ∧ K (IntKind.wrap .i64 (s + 1)) h) (CallsH Try.prog 121 (TVs.vals [.ptr (some (Loc.mk h_2.size 0))]) h_4 fun v h_5 ↦ ∃ (b : Bs 32), v = TV.val (.bytes 32 b) ∧ wok h_5 h.size 0 32 ∧ Vc.Bind (TV.put h_5 h.size 0 (.bytes 32 b)) fun h_6 ↦ ∃ (b : Bs 32), atBytes h_6 h.size 0 32 b ∧ R (TV.val (.bytes 32 b)) h_6)
theorem sha_Of_calls (list : Sl) (h : Heap) (R : Value → Heap → Prop) (H : sha_Of_vc list h R) : CallsH Try.prog 91 (TVs.vals [.slice list]) h R := via ctx_ok Try.func91 (by kernel_rfl) H

end Go.Proofs.Ytldocdpdjdekiaa
end

section
/- A validator's lot: the digest of a word and six bytes; which of two seats comes first. -/
namespace Go.Proofs.Ytldocdpdjdekiaa.Board
open Go Go.Vc
section
variable {R : Value → Heap → Prop} {h : Heap}

theorem flatten_take_le : ∀ (ts : List (List UInt8)) (i : Nat), (ts.take i).flatten.length ≤ ts.flatten.length
  | [], i => by simp
  | t :: ts, 0 => by simp
  | t :: ts, i + 1 => by
    have := flatten_take_le ts i
    simp only [List.take_succ_cons, List.flatten_cons, List.length_append]
    omega

theorem take_snoc {α : Type} {ts : List α} {i : Nat} {t : α} (ht : ts[i]? = some t) : ts.take (i + 1) = ts.take i ++ [t] := by
  rw [List.take_add_one, ht]
  rfl

theorem bsz {n : Nat} {x y : Bs n} : (TV.bytes n x).size = (TV.bytes n y).size := by simp only [TV.size]

/-! ### le.Put -/

def leF (n : Int) : Nat → List UInt8
  | 0 => []
  | k + 1 => UInt8.ofNat (IntKind.wrap .u8 n).toNat :: leF (Int.fdiv n (2 ^ min (Int.toNat 8) (IntKind.bits .u64))) k

def leN (n : Int) : Nat → Int
  | 0 => n
  | k + 1 => leN (Int.fdiv n (2 ^ min (Int.toNat 8) (IntKind.bits .u64))) k

theorem leN_succ : ∀ (k : Nat) (n : Int), leN n (k + 1) = Int.fdiv (leN n k) (2 ^ min (Int.toNat 8) (IntKind.bits .u64))
  | 0, _ => rfl
  | k + 1, _ => leN_succ k _

theorem leF_succ : ∀ (k : Nat) (n : Int), leF n (k + 1) = leF n k ++ [UInt8.ofNat (IntKind.wrap .u8 (leN n k)).toNat]
  | 0, _ => rfl
  | k + 1, n => by
    rw [leF, leF_succ k]
    rfl

theorem leF_length : ∀ (k : Nat) (n : Int), (leF n k).length = k
  | 0, _ => rfl
  | k + 1, n => by simp [leF, leF_length k]

theorem put_spec_le {Q : Nat → Prop} {s : Sl} {bs : List UInt8} {n : Int} {k : Nat} (r : Row Q h s bs) (hl : bs.length < 5000) (hk : k ≤ 8)
    (hr : ∀ h' s', Row Q h' s' (bs ++ leF n k) → Only Q h h' → R (TV.slice s').val h') : CallsH Try.prog 122 (TVs.vals [.slice s, .int .u64 n, .int .i64 (k : Int)]) h R := by
  apply le_Put_calls
  unfold le_Put_vc
  refine ⟨fun σ hh => 0 ≤ σ.2.2 ∧ σ.2.2 ≤ (k : Int) ∧ Row Q hh σ.1 (bs ++ leF n σ.2.2.toNat) ∧ σ.2.1 = leN n σ.2.2.toNat ∧ Only Q h hh, fun σ _ => ((k : Int) - σ.2.2).toNat, ⟨Int.le_refl 0, by dsimp only; omega, by simpa [leF] using r, rfl, Only.refl _ _⟩, ?_⟩
  rintro ⟨s1, n1, i⟩ h1 ⟨i0, i1, r1, e1, o1⟩
  dsimp only at i0 i1 r1 e1 ⊢
  have hm : mn (mx (k : Int) 0) 8 = (k : Int) := by rw [mx_eq, mn_eq]; omega
  rw [hm]
  refine If.dec.2 ⟨fun hi => ?_, fun hi => ?_⟩
  · have hw := wrap_u8_range n1
    have hll := leF_length i.toNat n
    refine app_byte r1 (by rw [List.length_append]; omega) hw.1 hw.2 fun s2 h2 r2 o2 b2 => ⟨by decide, ?_⟩
    rw [wrap_i64 (n := i + 1) (by omega) (by omega)]
    have hi1 : (i + 1).toNat = i.toNat + 1 := by omega
    refine ⟨⟨by omega, by omega, ?_, ?_, o1.trans (r1.cut o2)⟩, by first | omega | (dsimp only; omega)⟩
    · rw [hi1, leF_succ, ← List.append_assoc, ← e1]
      exact r2
    · rw [hi1, leN_succ, e1]
  · have hi2 : i.toNat = k := by omega
    rw [hi2] at r1
    exact hr h1 s1 r1 o1

theorem Row.str {Q : Nat → Prop} {s : Sl} {bs : List UInt8} (r : Row Q h s bs) : strAt h s bs := by
  have e := r.own.elems
  have hl := r.len
  refine ⟨hl, ?_⟩
  cases hs : s.a with
  | none =>
    have := e.nil hs
    refine .inl ⟨rfl, ?_⟩
    cases bs with
    | nil => rfl
    | cons b bs => cases this
  | some l =>
    refine .inr ⟨l, rfl, fun j hj => ?_⟩
    have := e.get l hs j (byTV bs[j]) (by rw [List.getElem?_map, List.getElem?_eq_getElem hj]; rfl)
    rw [Nat.mul_one] at this
    exact this

/-! ### Which of two seats comes first -/

theorem str_var {T : TypeId} {h : Heap} {b n c : Nat} {x : Bs n} (v : Var T h b (.bytes n x)) : strAt h ⟨some ⟨b, 0⟩, n, c⟩ x.l :=
  ⟨x.h, .inr ⟨_, rfl, fun j hj => by
    have := v.bytes j (by rw [← x.h]; exact hj)
    rw [this]
    simp [List.getD, hj]⟩⟩

theorem less_specS {a b : Bs 32} (hr : ∀ h', Ext h h' → R (TV.bool (Op.bytesLess a.l b.l)).val h') : CallsS Try.prog 117 (TVs.vals [.bytes 32 a, .bytes 32 b]) h R := by
  apply sha_Less_calls
  unfold sha_Less_vc
  refine newTV_in fun h1 v1 x1 s1 => newTV_in fun h2 v2 x2 s2 => ?_
  exact ⟨a.l, str_var (v1.ext x2), b.l, str_var v2, hr _ (x1.trans x2)⟩

theorem less_spec {a b : Bs 32} (hr : ∀ h', Ext h h' → R (TV.bool (Op.bytesLess a.l b.l)).val h') : CallsH Try.prog 117 (TVs.vals [.bytes 32 a, .bytes 32 b]) h R := (less_specS hr).weak

end
end Go.Proofs.Ytldocdpdjdekiaa.Board
end

section
/- Members of a slot's committee: the seats in order, cut. -/
namespace Go.Proofs.Ytldocdpdjdekiaa.Board
open Go Go.Vc

theorem less_irrefl : ∀ a : List UInt8, Op.bytesLess a a = false
  | [] => rfl
  | x :: xs => by simp [Op.bytesLess, less_irrefl xs, UInt8.lt_irrefl]

theorem less_trans : ∀ a b c : List UInt8, Op.bytesLess a b = true → Op.bytesLess b c = true → Op.bytesLess a c = true
  | [], [], _, h, _ => by cases h
  | _ :: _, [], _, h, _ => by cases h
  | _, _ :: _, [], _, k => by cases k
  | [], _ :: _, _ :: _, _, _ => rfl
  | x :: xs, y :: ys, z :: zs, h, k => by
    simp only [Op.bytesLess, Bool.or_eq_true, Bool.and_eq_true, decide_eq_true_eq, beq_iff_eq] at h k ⊢
    rw [UInt8.lt_iff_toNat_lt] at h k ⊢
    rcases h with h | ⟨h, h1⟩
    · rcases k with k | ⟨k, k1⟩
      · left; omega
      · left; rw [← k]; exact h
    · rcases k with k | ⟨k, k1⟩
      · left; rw [h]; exact k
      · right; exact ⟨h.trans k, less_trans xs ys zs h1 k1⟩

theorem less_total : ∀ a b : List UInt8, a ≠ b → Op.bytesLess a b = true ∨ Op.bytesLess b a = true
  | [], [], h => absurd rfl h
  | [], y :: ys, _ => .inl rfl
  | x :: xs, [], _ => .inr rfl
  | x :: xs, y :: ys, h => by
    simp only [Op.bytesLess, Bool.or_eq_true, Bool.and_eq_true, decide_eq_true_eq, beq_iff_eq]
    rw [UInt8.lt_iff_toNat_lt, UInt8.lt_iff_toNat_lt]
    by_cases e : x = y
    · subst e
      rcases less_total xs ys (fun hx => h (by rw [hx])) with h1 | h1
      · exact .inl (.inr ⟨rfl, h1⟩)
      · exact .inr (.inr ⟨rfl, h1⟩)
    · have : x.toNat ≠ y.toNat := fun hx => e (UInt8.toNat_inj.1 hx)
      rcases Nat.lt_or_ge x.toNat y.toNat with h1 | h1
      · exact .inl (.inl h1)
      · exact .inr (.inl (by omega))

/-! ### Seats in order -/

-- := ⟨⟨Bs.zero 32, 0⟩⟩

/-! ### The program -/

section
variable {R : Value → Heap → Prop} {h : Heap}

abbrev ints (l : List Int) : List TV := l.map (TV.int .i64)

end
end Go.Proofs.Ytldocdpdjdekiaa.Board
end

section
/- Place, Proposer, Pick, Same; whether a configuration can be. -/
namespace Go.Proofs.Ytldocdpdjdekiaa.Board
open Go Go.Vc

abbrev bools (l : List Bool) : List TV := l.map TV.bool

section
variable {R : Value → Heap → Prop} {h : Heap}

theorem read_int {s : Sl} {l : List Int} {i : Int} (e : Elems 1 h s (ints l)) (i0 : 0 ≤ i) (i1 : i < l.length) {K : Int → Prop} (hk : ∀ x, l[i.toNat]? = some x → K x) :
    0 ≤ i ∧ i < (s.len : Int) ∧ Nn s.a fun (p : Vc.Loc) => ∃ (n : Int), at1 h p.b (p.o + i.toNat * 1) (.int .i64 n) ∧ K n := by
  have hl := e.len
  rw [List.length_map] at hl
  refine e.read i0 (by omega) fun p t hla ht ha => ?_
  rw [List.getElem?_map] at ht
  obtain ⟨x, hx, rfl⟩ := Option.map_eq_some_iff.1 ht
  exact ⟨x, ha, hk x hx⟩

theorem read_bool {s : Sl} {l : List Bool} {i : Int} (e : Elems 1 h s (bools l)) (i0 : 0 ≤ i) (i1 : i < l.length) {K : Bool → Prop} (hk : ∀ x, l[i.toNat]? = some x → K x) :
    0 ≤ i ∧ i < (s.len : Int) ∧ Nn s.a fun (p : Vc.Loc) => ∃ (n : Bool), at1 h p.b (p.o + i.toNat * 1) (.bool n) ∧ K n := by
  have hl := e.len
  rw [List.length_map] at hl
  refine e.read i0 (by omega) fun p t hla ht ha => ?_
  rw [List.getElem?_map] at ht
  obtain ⟨x, hx, rfl⟩ := Option.map_eq_some_iff.1 ht
  exact ⟨x, ha, hk x hx⟩

theorem ints_len {s : Sl} {l : List Int} (e : Elems 1 h s (ints l)) : l.length = s.len := by have := e.len; rwa [List.length_map] at this

theorem drop_get {α : Type} {l : List α} {i : Nat} {x : α} (h : l[i]? = some x) : l.drop i = x :: l.drop (i + 1) := by
  obtain ⟨hi, rfl⟩ := List.getElem?_eq_some_iff.1 h
  exact List.drop_eq_getElem_cons hi

/-! ### Whether a configuration can be -/

end
end Go.Proofs.Ytldocdpdjdekiaa.Board
end

section
/- The document's digest: its words and rounds are those of the program. -/

namespace Go.Proofs.Ytldocdpdjdekiaa.Board
open Go Go.Vc

/-! ### Words -/

end Go.Proofs.Ytldocdpdjdekiaa.Board
end

section
/- The document's digest: a block does what the program's take does. -/
namespace Go.Proofs.Ytldocdpdjdekiaa.Board
open Go Go.Vc
section
variable {R : Value → Heap → Prop} {h : Heap}

end
end Go.Proofs.Ytldocdpdjdekiaa.Board
end

section
/- The document's digest: primes, roots, and the whole. -/
namespace Go.Proofs.Ytldocdpdjdekiaa.Board
open Go Go.Vc
set_option maxRecDepth 100000

/-- The primes among the first numbers from 2 on. -/
def genL : Nat → List Int
  | 0 => []
  | k + 1 => if (genL k).all (fun p => !decide (Int.tmod ((k : Int) + 2) p = 0)) = true then genL k ++ [(k : Int) + 2] else genL k

section
variable {R : Value → Heap → Prop} {h : Heap}

theorem wrap_u64_small {n : Int} (h0 : 0 ≤ n) (h1 : n < 18446744073709551616) : IntKind.wrap .u64 n = n := by
  have : IntKind.wrap .u64 n = n % 18446744073709551616 := by
    unfold IntKind.wrap
    show (if (false && _) = true then _ else n % 2 ^ 64) = n % 18446744073709551616
    simp
  rw [this]
  omega

theorem p8 : (genL 17).length = 7 ∧ (genL 18).length = 8 := by decide +kernel

end
end Go.Proofs.Ytldocdpdjdekiaa.Board
end

section
/- The document's digest of any text, block by block. -/
namespace Go.Proofs.Ytldocdpdjdekiaa.Board
open Go Go.Vc

def padK (n : Nat) : Nat := (119 - n % 64) % 64

def rlens (n : Int) : Nat → List UInt8
  | 0 => []
  | m + 1 => rlens n m ++ [UInt8.ofNat (IntKind.wrap .u8 (Int.fdiv (IntKind.wrap .u64 (IntKind.wrap .u64 n * 8)) ((2 : Int) ^ min (Int.toNat (IntKind.wrap .u64 (IntKind.wrap .i64 (8 * (7 - (m : Int)))))) (IntKind.bits .u64)))).toNat]

def padF (s : List UInt8) : List UInt8 := ((s ++ [128]) ++ List.replicate (padK s.length) 0) ++ rlens (s.length : Int) 8

def foldP (t : List UInt8) (w : Ws 8) : Nat → Ws 8
  | 0 => w
  | n + 1 => takeF (foldP t w n) ((t.drop (64 * n)).take 64)

/-- The document's digest. -/
def docF (s : List UInt8) : Bs 32 := outF (foldP (padF s) firstW ((padF s).length / 64)) 8

theorem rlens_length (n : Int) : ∀ m, (rlens n m).length = m
  | 0 => rfl
  | m + 1 => by simp [rlens, rlens_length n m]

theorem padF_length (s : List UInt8) : (padF s).length = s.length + 1 + padK s.length + 8 := by
  unfold padF
  rw [List.length_append, List.length_append, List.length_append, rlens_length]
  simp

theorem padF_mod (s : List UInt8) : (padF s).length % 64 = 0 := by
  rw [padF_length]
  unfold padK
  omega

section
variable {R : Value → Heap → Prop} {h : Heap}

end
end Go.Proofs.Ytldocdpdjdekiaa.Board
end

section
/- The program's digest of texts of any length. -/
namespace Go.Proofs.Ytldocdpdjdekiaa.Board
open Go Go.Vc

abbrev bcells (bs : List UInt8) : List Value := bs.map fun c => Value.int .u8 (c.toNat : Int)

theorem bcells_one (bs : List UInt8) : ∀ v ∈ bcells bs, isOne v = true := fun v hv => by
  obtain ⟨c, _, rfl⟩ := List.mem_map.1 hv
  rfl

/-- A row of bytes, not from its block's beginning maybe, in blocks of Q, as all blocks to come are. -/
structure Row2 (Q : Nat → Prop) (h : Heap) (s : Sl) (bs : List UInt8) : Prop where
  len : bs.length = s.len
  cap : s.len ≤ s.cap
  row : (s.a = none ∧ s.cap = 0) ∨ ∃ b pre rest, s.a = some ⟨b, pre.length⟩ ∧ h[b]? = some (Go.Vc.row (pre ++ bcells bs ++ rest) 5) ∧ s.cap - s.len ≤ rest.length
  far : ∀ l, s.a = some l → Q l.b
  new : ∀ i, h.size ≤ i → Q i

section
variable {R : Value → Heap → Prop} {h : Heap} {Q : Nat → Prop} {s : Sl} {bs : List UInt8}

theorem Row2.lt (r : Row2 Q h s bs) : ∀ l, s.a = some l → l.b < h.size := fun l hl => by
  rcases r.row with ⟨hn, _⟩ | ⟨b, pre, rest, ha, hb, _⟩
  · rw [hn] at hl; cases hl
  · rw [ha] at hl; cases hl
    exact row_lt hb

theorem Row2.only {S : Nat → Prop} {h' : Heap} (r : Row2 Q h s bs) (o : Only S h h') (hs : ∀ l, s.a = some l → ¬ S l.b) : Row2 Q h' s bs := by
  refine ⟨r.len, r.cap, ?_, r.far, fun i hi => r.new i (Nat.le_trans o.size hi)⟩
  rcases r.row with h1 | ⟨b, pre, rest, ha, hb, hc⟩
  · exact .inl h1
  · exact .inr ⟨b, pre, rest, ha, (o.same b (row_lt hb) (hs _ ha)).trans hb, hc⟩

theorem Row2.elems (r : Row2 Q h s bs) : Elems 1 h s (bys bs) := by
  refine ⟨by rw [List.length_map]; exact r.len, fun hn => ?_, fun l hl i t ht => ?_⟩
  · rcases r.row with ⟨_, hc⟩ | ⟨b, pre, rest, ha, _⟩
    · have := r.len
      have := r.cap
      have : bs = [] := List.eq_nil_of_length_eq_zero (by omega)
      rw [this]
      rfl
    · rw [ha] at hn; cases hn
  · rcases r.row with ⟨hn, _⟩ | ⟨b, pre, rest, ha, hb, _⟩
    · rw [hn] at hl; cases hl
    · rw [ha] at hl
      cases hl
      rw [List.getElem?_map] at ht
      obtain ⟨c, hc, rfl⟩ := Option.map_eq_some_iff.1 ht
      show at1 h b (pre.length + i * 1) (.int .u8 (c.toNat : Int))
      refine at1_row hb ?_
      have hi := (List.getElem?_eq_some_iff.1 hc).1
      rw [Nat.mul_one, List.append_assoc, List.getElem?_append_right (Nat.le_add_right _ _), Nat.add_sub_cancel_left, List.getElem?_append_left (by rw [List.length_map]; exact hi), List.getElem?_map, hc]
      rfl

theorem Row2.cut2 (r : Row2 Q h s bs) {h' : Heap} (o : Only (In s) h h') : Only Q h h' := o.mono fun i ⟨l, hl, e⟩ => by rw [← e]; exact r.far l hl

theorem app2 {us : List UInt8} {K : Sl → Heap → Prop} (r : Row2 Q h s bs) (hl : bs.length + us.length < 1000000)
    (hk : ∀ s' h', Row2 Q h' s' (bs ++ us) → Only (In s) h h' → (∀ l, s'.a = some l → (∃ l', s.a = some l' ∧ l'.b = l.b) ∨ h.size ≤ l.b) → K s' h') :
    vcAppend ctx 5 s us.length (bcells us) h K := by
  have rl := r.len
  have rc := r.cap
  have blen : (bcells bs).length = s.len := by rw [List.length_map]; exact rl
  have ulen : (bcells us).length = us.length := List.length_map ..
  have both : bcells (bs ++ us) = bcells bs ++ bcells us := List.map_append ..
  refine ⟨bcells bs, ?_, by rw [bytes5]; omega, by rw [bytes5]; decide, fun hroom => ?_, fun hroom hn => ?_, fun hroom c hc => ?_⟩
  · rw [size5]
    refine ⟨by rw [blen, Nat.mul_one], ?_⟩
    rcases r.row with ⟨hn, hc⟩ | ⟨b, pre, rest, ha, hb, _⟩
    · exact .inl ⟨by omega, hn⟩
    · refine .inr ⟨_, ha, fun j hj => ?_⟩
      show cel h b (pre.length + j) = _
      rw [List.getElem?_eq_getElem hj]
      refine at1_row hb ?_
      rw [List.append_assoc, List.getElem?_append_right (Nat.le_add_right _ _), Nat.add_sub_cancel_left, List.getElem?_append_left hj, List.getElem?_eq_getElem hj]
  · rcases r.row with ⟨hn, hc⟩ | ⟨b, pre, rest, ha, hb, hr⟩
    · exact ⟨.inl (by omega), fun l hl => by rw [hn] at hl; cases hl⟩
    · refine ⟨.inr (by rw [ha]; rfl), fun l hl => ?_⟩
      rw [ha] at hl
      cases hl
      rw [size5]
      show wok h b (pre.length + s.len * 1) (bcells us).length ∧ _
      rw [Nat.mul_one]
      have hfit : pre.length + s.len + (bcells us).length ≤ (pre ++ bcells bs ++ rest).length := by
        rw [List.length_append, List.length_append, blen, ulen]
        omega
      refine ⟨wok_row hb hfit, ?_⟩
      obtain ⟨g1, g2, g3⟩ := putl_get (bcells us) h b (pre.length + s.len) _ 5 hb hfit
      refine hk _ _ ⟨by rw [List.length_append]; show _ = s.len + us.length; omega, hroom, .inr ⟨b, pre, rest.drop us.length, rfl, ?_, ?_⟩, ?_, fun i hi => r.new i (by rw [g2] at hi; exact hi)⟩ ⟨by rw [g2]; exact Nat.le_refl _, fun b' hb' hn => g3 b' (fun hx => hn ⟨_, ha, hx.symm⟩)⟩ fun l hl => by
        cases hl
        exact .inl ⟨_, ha, rfl⟩
      · rw [g1, both]
        congr 2
        have e1 : pre.length + s.len = (pre ++ bcells bs).length := by rw [List.length_append, blen]
        rw [e1, List.take_left, ulen, List.drop_append, List.drop_eq_nil_of_le (by omega), List.nil_append, Nat.add_sub_cancel_left, ← List.append_assoc]
      · rw [List.length_drop]
        show s.cap - (s.len + us.length) ≤ _
        omega
      · intro l hl
        cases hl
        exact r.far _ ha
  · rcases r.row with ⟨_, hc⟩ | ⟨b, pre, rest, ha, _⟩
    · have hu : us = [] := List.eq_nil_of_length_eq_zero (by omega)
      have hb0 : bs = [] := List.eq_nil_of_length_eq_zero (by omega)
      subst hu hb0
      refine hk _ _ ⟨by simp; omega, by show s.len + 0 ≤ s.cap; omega, .inl ⟨rfl, hc⟩, (fun l hl => by cases hl), r.new⟩ (Only.refl _ _) (fun l hl => by cases hl)
    · rw [ha] at hn; cases hn
  · refine hk _ _ ⟨by rw [List.length_append]; show _ = s.len + us.length; omega, hc, .inr ⟨h.size, [], zeros (ctx.ti 5).z (c - (s.len + us.length)), rfl, ?_, ?_⟩, ?_, ?_⟩ (Only.of_ext (Ext.push _ _)) ?_
    · rw [push_get, both, List.nil_append]
    · rw [zeros_length, zsize5, Nat.mul_one]
      exact Nat.le_refl _
    · intro l hl
      cases hl
      exact r.new _ (Nat.le_refl _)
    · intro i hi
      rw [Array.size_push] at hi
      exact r.new i (by omega)
    · intro l hl
      cases hl
      exact .inr (Nat.le_refl _)

theorem app2_byte {c : Int} {K : Sl → Heap → Prop} (r : Row2 Q h s bs) (hl : bs.length < 900000) (c0 : 0 ≤ c) (c1 : c < 256)
    (hk : ∀ s' h', Row2 Q h' s' (bs ++ [UInt8.ofNat c.toNat]) → Only (In s) h h' → (∀ l, s'.a = some l → (∃ l', s.a = some l' ∧ l'.b = l.b) ∨ h.size ≤ l.b) → K s' h') :
    ∃ new, slAt (h.push (row (TVs.cells [TV.int .u8 c]) 5)) (Sl.mk (some (Vc.Loc.mk h.size 0)) 1 1) 1 new ∧ (∀ v ∈ new, isOne v = true) ∧ vcAppend ctx 5 s 1 new (h.push (row (TVs.cells [TV.int .u8 c]) 5)) K := by
  have e : ((UInt8.ofNat c.toNat).toNat : Int) = c := by
    rw [UInt8.toNat_ofNat']
    omega
  have xp := Ext.push h (row (TVs.cells [TV.int .u8 c]) 5)
  refine ⟨bcells [UInt8.ofNat c.toNat], ⟨rfl, .inr ⟨_, rfl, fun j hj => ?_⟩⟩, bcells_one _, ?_⟩
  · have hj0 : j = 0 := by simpa using hj
    subst hj0
    have := at1_row (o := 0) (push_get h (row (TVs.cells [TV.int .u8 c]) 5)) (v := Value.int .u8 c) rfl
    unfold at1 at this
    rw [this]
    show some (Value.int .u8 c) = some (Value.int .u8 ((UInt8.ofNat c.toNat).toNat : Int))
    rw [e]
  · have r' : Row2 Q (h.push (row (TVs.cells [TV.int .u8 c]) 5)) s bs := r.only (Only.of_ext xp (S := fun _ => False)) (fun _ _ hx => hx)
    refine app2 (us := [UInt8.ofNat c.toNat]) r' (by simp; omega) fun s' h' r2 o2 b2 => hk s' h' r2 ((Only.of_ext xp).trans o2) fun l hl => ?_
    rcases b2 l hl with h1 | h1
    · exact .inl h1
    · exact .inr (by have := xp.size; omega)

/-- What is left behind 64 bytes. -/
theorem Row2.after {h' : Heap} (r : Row2 Q h s bs) (h64 : 64 ≤ bs.length) (o : Only (fun i => ¬ In s i) h h') (hn : ∀ i, h'.size ≤ i → Q i) : Row2 Q h' (cutSl s 64 s.len 1) (bs.drop 64) := by
  have rl := r.len
  have rc := r.cap
  refine ⟨by simp only [cutSl, List.length_drop]; omega, by simp only [cutSl]; omega, ?_, fun l hl => ?_, hn⟩
  · rcases r.row with ⟨_, hc⟩ | ⟨b, pre, rest, ha, hb, hr⟩
    · omega
    · have hb' : h'[b]? = some (Go.Vc.row (pre ++ bcells bs ++ rest) 5) := (o.same b (row_lt hb) (fun hx => hx ⟨_, ha, rfl⟩)).trans hb
      by_cases hc : s.cap = 64
      · refine .inr ⟨b, pre, bcells bs ++ rest, by simp only [cutSl]; rw [if_pos hc, ha], ?_, by simp only [cutSl]; omega⟩
        have : bs.drop 64 = [] := List.drop_eq_nil_of_le (by omega)
        rw [this, hb']
        simp
      · refine .inr ⟨b, pre ++ bcells (bs.take 64), rest, ?_, ?_, by simp only [cutSl]; omega⟩
        · simp only [cutSl]
          rw [if_neg hc, ha, List.length_append, List.length_map, List.length_take, Nat.min_eq_left h64, Nat.mul_one]
          rfl
        · rw [hb']
          congr 2
          have : bcells bs = bcells (bs.take 64) ++ bcells (bs.drop 64) := by rw [← List.map_append, List.take_append_drop]
          rw [this]
          simp
  · obtain ⟨l', h1, h2⟩ := cut_block hl
    rw [← h2]
    exact r.far l' h1

theorem foldP_append (T U : List UInt8) (w : Ws 8) : ∀ k, 64 * k ≤ T.length → foldP (T ++ U) w k = foldP T w k
  | 0, _ => rfl
  | k + 1, hk => by
    rw [foldP, foldP, foldP_append T U w k (by omega), List.drop_append_of_le_length (by omega), List.take_append_of_le_length (by rw [List.length_drop]; omega)]

/-- The state, behind k blocks of a text. -/
structure St2 (Q : Nat → Prop) (h : Heap) (b : Nat) (T : List UInt8) (k : Nat) (N : Int) (s : Sl) : Prop where
  var : Var 209 h b (.agg [.words .u32 8 (foldP T firstW k), .slice s, .int .u64 N])
  row : Row2 Q h s (T.drop (64 * k))
  fit : 64 * k ≤ T.length
  far : Q b
  apart : ∀ l, s.a = some l → l.b ≠ b

variable {b k : Nat} {T : List UInt8} {N : Int}

theorem St2.words (st : St2 Q h b T k N s) : atWords h b 0 .u32 8 (foldP T firstW k) := st.var.at.1
theorem St2.rest (st : St2 Q h b T k N s) : at1 h b 8 (slVal s) := st.var.at.2.1
theorem St2.count (st : St2 Q h b T k N s) : at1 h b 9 (.int .u64 N) := st.var.at.2.2

theorem St2.grown {h1 : Heap} {s' : Sl} {U : List UInt8} (st : St2 Q h b T k N s) (r1 : Row2 Q h1 s' (T.drop (64 * k) ++ U)) (o1 : Only (In s) h h1) (b1 : ∀ l, s'.a = some l → (∃ l', s.a = some l' ∧ l'.b = l.b) ∨ h.size ≤ l.b) {K : Heap → Prop}
    (hk : ∀ h2, St2 Q h2 b (T ++ U) k N s' → Only Q h h2 → h2.size = h1.size → K h2) : wok h1 b 8 1 ∧ Bind ((TV.slice s').put h1 b 8) K := by
  have hne : ∀ l, s'.a = some l → l.b ≠ b := fun l hl e => by
    rcases b1 l hl with ⟨l', h9, h10⟩ | h9
    · exact st.apart l' h9 (h10.trans e)
    · have := st.var.lt; omega
  have v1 := st.var.only o1 (fun ⟨l, hl, e⟩ => st.apart l hl e)
  refine field_in (i := 1) (t0 := .slice s) v1 rfl rfl rfl rfl fun h2 v2 (o2 : Only (· = b) h1 h2) s2 => hk h2 ⟨?_, ?_, ?_, st.far, hne⟩ ((st.row.cut2 o1).trans (o2.mono fun i hi => by subst hi; exact st.far)) s2
  · rw [foldP_append T U firstW k st.fit]
    exact v2
  · rw [List.drop_append_of_le_length st.fit]
    exact r1.only o2 hne
  · rw [List.length_append]; have := st.fit; omega

/-- A block is taken in. -/
theorem St2.step (st : St2 Q h b T k N s) (h64 : 64 ≤ s.len)
    (hk : ∀ h2 h3, Var 209 h2 b (.agg [.words .u32 8 (foldP T firstW (k + 1)), .slice s, .int .u64 N]) → Only (· = b) h h2 → (∀ K : Heap → Prop, (∀ h4, St2 Q h4 b T (k + 1) N (cutSl s 64 s.len 1) → Only Q h h4 → K h4) → wok h2 b 8 1 ∧ Bind ((TV.slice (cutSl s 64 s.len 1)).put h2 b 8) K) → h3 = h2 → R (TV.tup []).val h2) :
    CallsH Try.prog 134 (TVs.vals [.ptr (some ⟨b, 0⟩), .slice (cutSl s 0 64 1)]) h R := by
  have rl := st.row.len
  rw [List.length_drop] at rl
  have ec := cut_elems (i := 0) (j := 64) st.row.elems (by omega) h64 st.row.cap
  rw [List.drop_zero, Nat.sub_zero, ← List.map_take] at ec
  have hfit := st.fit
  refine take_takes h R b (foldP T firstW k) s (cutSl s 0 64 1) ((T.drop (64 * k)).take 64) N st.var ec (by rw [List.length_take, List.length_drop]; omega) (fun l hl => by
    obtain ⟨l', h1, h2⟩ := cut_block hl
    rw [← h2]
    exact st.apart l' h1) fun h2 v2 o2 => ?_
  refine hk h2 h2 v2 o2 (fun K hK => ?_) rfl
  refine field_in (i := 1) (t0 := .slice s) v2 rfl rfl rfl rfl fun h4 v4 (o4 : Only (· = b) h2 h4) s4 => hK h4 ⟨v4, ?_, by omega, st.far, fun l hl => ?_⟩ ((o2.mono fun i hi => by subst hi; exact st.far).trans (o4.mono fun i hi => by subst hi; exact st.far))
  · have : T.drop (64 * (k + 1)) = (T.drop (64 * k)).drop 64 := by rw [List.drop_drop]; congr 1
    rw [this]
    refine st.row.after (by rw [List.length_drop]; omega) ((o2.trans o4).mono fun i hi => ?_) fun i hi => st.row.new i (by have := o2.size; omega)
    rintro ⟨l, hl, e⟩
    exact st.apart l hl (e.trans hi)
  · obtain ⟨l', h1, h2⟩ := cut_block hl
    rw [← h2]
    exact st.apart l' h1

/-- Bytes more. -/
theorem add2_spec (st : St2 Q h b T k (T.length : Int) s) {text : List UInt8} (hl : T.length + text.length < 800000)
    (hr : ∀ h' s' k', St2 Q h' b (T ++ text) k' ((T ++ text).length : Int) s' → s'.len < 64 → Only Q h h' → R (TV.tup []).val h') :
    CallsH Try.prog 120 (TVs.vals [.ptr (some ⟨b, 0⟩), .str text]) h R := by
  apply sha_state_add_calls
  unfold sha_state_add_vc
  refine ⟨_, st.count, ?_⟩
  have hN : IntKind.wrap .u64 ((T.length : Int) + IntKind.wrap .u64 (text.length : Int)) = ((T ++ text).length : Int) := by
    rw [wrap_u64_small (n := (text.length : Int)) (by omega) (by omega), wrap_u64_small (by omega) (by omega), List.length_append]
    omega
  rw [hN]
  refine field_in (i := 2) (t0 := .int .u64 (T.length : Int)) st.var rfl rfl rfl rfl fun h1 v1 (o1 : Only (· = b) h h1) s1 => ?_
  have st1 : St2 Q h1 b T k ((T ++ text).length : Int) s := ⟨v1, st.row.only o1 st.apart, st.fit, st.far, st.apart⟩
  have f1 : Only Q h h1 := o1.mono fun i hi => by subst hi; exact st.far
  have dl : (T.drop (64 * k)).length ≤ T.length := by rw [List.length_drop]; omega
  refine ⟨s, st1.rest, app2 st1.row (by omega) fun s' h2 r2 o2 b2 => st1.grown r2 o2 b2 fun h3 st3 f3 s3 => ?_⟩
  refine ⟨fun _ hh => ∃ s4 k4, St2 Q hh b (T ++ text) k4 ((T ++ text).length : Int) s4 ∧ Only Q h hh, fun _ hh => lenAt hh b, ⟨s', k, st3, f1.trans f3⟩, ?_⟩
  rintro _ h4 ⟨s4, k4, st4, f4⟩
  refine ⟨s4, st4.rest, If.dec.2 ⟨fun h64 => ?_, fun h64 => hr h4 s4 k4 st4 (by omega) f4⟩⟩
  have hc := st4.row.cap
  refine ⟨s4, st4.rest, by decide, by omega, ?_⟩
  refine st4.step (by omega) fun h5 _ v5 o5 hstep _ => ⟨rfl, s4, v5.at.2.1, by decide, by omega, hstep _ fun h6 st6 f6 => ?_⟩
  refine ⟨⟨_, _, st6, f4.trans f6⟩, ?_⟩
  have g1 := lenAt_of st4.rest
  have g2 := lenAt_of st6.rest
  simp only [cutSl] at g2
  dsimp only
  omega

def rlx (x : Int) : Nat → List UInt8
  | 0 => []
  | m + 1 => rlx x m ++ [UInt8.ofNat (IntKind.wrap .u8 (Int.fdiv x ((2 : Int) ^ min (Int.toNat (IntKind.wrap .u64 (IntKind.wrap .i64 (8 * (7 - (m : Int)))))) (IntKind.bits .u64)))).toNat]
def lnx (x : Int) : Nat → List UInt8
  | 0 => []
  | i + 1 => lnx x i ++ [UInt8.ofNat (IntKind.wrap .u8 (Int.fdiv x (2 ^ min (Int.toNat (IntKind.wrap .i64 (56 - IntKind.wrap .i64 (8 * (i : Int))))) (IntKind.bits .u64)))).toNat]
theorem rlx_eq (n : Int) : ∀ m, rlens n m = rlx (IntKind.wrap .u64 (IntKind.wrap .u64 n * 8)) m
  | 0 => rfl
  | m + 1 => by rw [rlens, rlx, rlx_eq n m]
theorem lnx_eq (n : Int) : ∀ m, lens n m = lnx (IntKind.wrap .u64 (n * 8)) m
  | 0 => rfl
  | m + 1 => by rw [lens, lnx, lnx_eq n m]; rfl
theorem rlx_lnx (x : Int) : rlx x 8 = lnx x 8 := by kernel_rfl

theorem lens_rlens (n : Int) (h0 : 0 ≤ n) (h1 : n < 18446744073709551616) : rlens n 8 = lens n 8 := by
  rw [rlx_eq, lnx_eq, wrap_u64_small h0 h1, rlx_lnx]

set_option maxRecDepth 100000 in
set_option maxHeartbeats 1000000 in
theorem end2_spec (st : St2 Q h b T k (T.length : Int) s) (hl : T.length < 700000) (hr : ∀ h', Only Q h h' → R (TV.bytes 32 (docF T)).val h') : CallsH Try.prog 121 (TVs.vals [.ptr (some ⟨b, 0⟩)]) h R := by
  apply sha_state_end_calls
  unfold sha_state_end_vc
  have blt := st.var.lt
  have slt := st.row.lt
  refine newTV_in fun h1 v1 x1 s1 => ?_
  have st1 : St2 (fun i => Q i ∧ i ≠ h.size) h1 b T k (T.length : Int) s := ⟨st.var.ext x1, ⟨st.row.len, st.row.cap, (st.row.only (Only.of_ext x1 (S := fun _ => False)) (fun _ _ hx => hx)).row, fun l hl' => ⟨st.row.far l hl', by have := slt l hl'; omega⟩, fun i hi => ⟨st.row.new i (by omega), by omega⟩⟩, st.fit, ⟨st.far, by omega⟩, st.apart⟩
  have f1 : Only Q h h1 := Only.of_ext x1
  have hfit := st.fit
  have rl0 := st.row.len
  rw [List.length_drop] at rl0
  refine ⟨_, st1.count, s, st1.rest, ?_⟩
  refine app2_byte st1.row (by rw [List.length_drop]; omega) (by decide) (by decide) fun s2 h2 r2 o2 b2 => ?_
  have e128 : UInt8.ofNat (Int.toNat 128) = 128 := by decide
  rw [e128] at r2
  refine st1.grown r2 o2 b2 fun h3 st3 f3 s3 => ?_
  have hpk : padK T.length < 64 := by unfold padK; omega
  have lj : ∀ j, ((T ++ [128]) ++ List.replicate j (0 : UInt8)).length = T.length + 1 + j := fun j => by simp; omega
  refine ⟨fun _ hh => ∃ s' j, St2 (fun i => Q i ∧ i ≠ h.size) hh b ((T ++ [128]) ++ List.replicate j 0) k (T.length : Int) s' ∧ j ≤ padK T.length ∧ Only (fun i => Q i ∧ i ≠ h.size) h1 hh, fun _ hh => T.length + 100 - lenAt hh b, ⟨s2, 0, by simpa using st3, Nat.zero_le _, f3⟩, ?_⟩
  rintro _ h4 ⟨s4, j, st4, hj, f4⟩
  have l4 := st4.row.len
  rw [List.length_drop, lj] at l4
  have hmod : Int.tmod (s4.len : Int) 64 = ((s4.len % 64 : Nat) : Int) := by
    rw [Int.tmod_eq_emod_of_nonneg (by omega)]
    rfl
  refine ⟨s4, st4.rest, by decide, ?_⟩
  rw [hmod]
  refine If.split (fun hne => ?_) (fun heq => ?_)
  · have hne' : ¬ s4.len % 64 = 56 := fun e => by rw [e] at hne; simp at hne
    have hjp : j < padK T.length := by
      rcases Nat.lt_or_ge j (padK T.length) with h9 | h9
      · exact h9
      · exfalso
        apply hne'
        have : j = padK T.length := by omega
        unfold padK at this
        omega
    refine ⟨s4, st4.rest, ?_⟩
    refine app2_byte st4.row (by rw [List.length_drop, lj]; omega) (by decide) (by decide) fun s5 h5 r5 o5 b5 => ?_
    refine st4.grown r5 o5 b5 fun h6 st6 f6 s6 => ?_
    have e0 : UInt8.ofNat (Int.toNat 0) = 0 := by decide
    have er : ((T ++ [128]) ++ List.replicate j 0) ++ [UInt8.ofNat (Int.toNat 0)] = (T ++ [128]) ++ List.replicate (j + 1) 0 := by
      rw [e0, List.append_assoc, List.replicate_succ']
    rw [er] at st6
    have l6 := st6.row.len
    rw [List.length_drop, lj] at l6
    refine ⟨⟨s5, j + 1, st6, by omega, f4.trans f6⟩, ?_⟩
    have g1 := lenAt_of st4.rest
    have g2 := lenAt_of st6.rest
    dsimp only
    omega
  have heq' : s4.len % 64 = 56 := by simp at heq; omega
  have hjp : j = padK T.length := by unfold padK at hj ⊢; omega
  subst hjp
  have hbase : padF T = ((T ++ [128]) ++ List.replicate (padK T.length) 0) ++ lens (T.length : Int) 8 := by
    unfold padF
    rw [lens_rlens _ (by omega) (by omega)]
  have hbl := lj (padK T.length)
  generalize (T ++ [128]) ++ List.replicate (padK T.length) (0 : UInt8) = base at *
  refine ⟨fun i hh => 0 ≤ i ∧ i ≤ 8 ∧ ∃ s', St2 (fun i => Q i ∧ i ≠ h.size) hh b (base ++ lens (T.length : Int) i.toNat) k (T.length : Int) s' ∧ Only (fun i => Q i ∧ i ≠ h.size) h1 hh, fun i _ => ((8 : Int) - i).toNat, ⟨Int.le_refl 0, by decide, s4, by simpa [lens] using st4, f4⟩, ?_⟩
  rintro i h5 ⟨i0, i1, s5, st5, f5⟩
  have l5 := st5.row.len
  rw [List.length_drop, List.length_append, lens_length, hbl] at l5
  refine If.dec.2 ⟨fun hi => ?_, fun hi => ?_⟩
  · refine ⟨s5, st5.rest, ?_, Ext.push _ _, ?_⟩
    · rw [wrap_i64 (n := 8 * i) (by omega) (by omega), wrap_i64 (by omega) (by omega)]
      omega
    refine app2_byte st5.row (by rw [List.length_drop, List.length_append, lens_length, hbl]; omega) (wrap_u8_range _).1 (wrap_u8_range _).2 fun s6 h6 r6 o6 b6 => ?_
    refine st5.grown r6 o6 b6 fun h7 st7 f7 s7 => ?_
    rw [wrap_i64 (n := i + 1) (by omega) (by omega)]
    have hi1 : (i + 1).toNat = i.toNat + 1 := by omega
    refine ⟨⟨by omega, by omega, s6, ?_, f5.trans f7⟩, by first | omega | (dsimp only; omega)⟩
    rw [hi1]
    unfold lens lenB
    rw [show ((i.toNat : Nat) : Int) = i by omega, ← List.append_assoc]
    exact st7
  have hi2 : i.toNat = 8 := by omega
  rw [hi2, ← hbase] at st5
  have hpm := padF_mod T
  have hdoc : docF T = outF (foldP (padF T) firstW ((padF T).length / 64)) 8 := rfl
  rw [hdoc] at hr
  generalize padF T = P at *
  refine ⟨fun _ hh => ∃ s' k', St2 (fun i => Q i ∧ i ≠ h.size) hh b P k' (T.length : Int) s' ∧ Only (fun i => Q i ∧ i ≠ h.size) h1 hh, fun _ hh => lenAt hh b, ⟨s5, k, st5, f5⟩, ?_⟩
  rintro _ h6 ⟨s6, k6, st6, f6⟩
  have l6 := st6.row.len
  have hfit6 := st6.fit
  rw [List.length_drop] at l6
  refine ⟨s6, st6.rest, If.dec.2 ⟨fun hpos => ?_, fun hz => ?_⟩⟩
  · have h64 : 64 ≤ s6.len := by omega
    have hc := st6.row.cap
    refine ⟨s6, st6.rest, by decide, by omega, ?_⟩
    refine st6.step h64 fun h7 _ v7 o7 hstep _ => ⟨rfl, s6, v7.at.2.1, by decide, by omega, hstep _ fun h8 st8 f8 => ?_⟩
    refine ⟨⟨_, _, st8, f6.trans f8⟩, ?_⟩
    have g1 := lenAt_of st6.rest
    have g2 := lenAt_of st8.rest
    simp only [cutSl] at g2
    dsimp only
    omega
  have hk6 : k6 = P.length / 64 := by omega
  refine newTV_in fun h7 v7 x7 s7 => ?_
  refine ⟨_, (st6.var.ext x7).at.1, ?_⟩
  rw [hk6]
  have f6s := f6.size
  refine ⟨fun i hh => 0 ≤ i ∧ i ≤ 8 ∧ Var 50 hh h6.size (.bytes 32 (outF (foldP P firstW (P.length / 64)) i.toNat)) ∧ Only (· = h6.size) h7 hh, fun i _ => ((8 : Int) - i).toNat, ⟨Int.le_refl 0, by decide, v7, Only.refl _ _⟩, ?_⟩
  rintro i h8 ⟨i0, i1, v8, o8⟩
  refine If.dec.2 ⟨fun hi => ?_, fun hi => ?_⟩
  · rw [wrap_i64 (n := 4 * i) (by omega) (by omega), wrap_i64 (n := 4 * i + 1) (by omega) (by omega), wrap_i64 (n := 4 * i + 2) (by omega) (by omega), wrap_i64 (n := 4 * i + 3) (by omega) (by omega), wrap_i64 (n := i + 1) (by omega) (by omega)]
    refine ⟨i0, by omega, by decide, by decide, by decide, by omega, by omega, put_byte v8 (i := 4 * i.toNat) (by omega) (by omega) (wrap_u8_range _).1 (wrap_u8_range _).2 fun h9 v9 o9 s9 => ?_⟩
    refine ⟨by omega, by omega, put_byte v9 (i := 4 * i.toNat + 1) (by omega) (by omega) (wrap_u8_range _).1 (wrap_u8_range _).2 fun h10 v10 o10 s10 => ?_⟩
    refine ⟨by omega, by omega, put_byte v10 (i := 4 * i.toNat + 2) (by omega) (by omega) (wrap_u8_range _).1 (wrap_u8_range _).2 fun h11 v11 o11 s11 => ?_⟩
    refine ⟨by omega, by omega, put_byte v11 (i := 4 * i.toNat + 3) (by omega) (by omega) (wrap_u8_range _).1 (wrap_u8_range _).2 fun h12 v12 o12 s12 => ?_⟩
    have hi1 : (i + 1).toNat = i.toNat + 1 := by omega
    refine ⟨⟨by omega, by omega, ?_, o8.trans (o9.trans (o10.trans (o11.trans o12)))⟩, by first | omega | (dsimp only; omega)⟩
    rw [hi1]
    unfold outF out1 ob
    exact v12
  · have hi3 : i.toNat = 8 := by omega
    rw [hi3] at v8
    have vr : Var 50 h8 h.size (.bytes 32 (Bs.zero 32)) := ((v1.only f6 (fun h9 => h9.2 rfl)).ext x7).only o8 (by omega)
    refine ⟨_, v8.bytes, put_in vr (t := .bytes 32 (outF (foldP P firstW (P.length / 64)) 8)) bsz fun h9 v9 o9 s9 => ⟨_, v9.bytes, ?_⟩⟩
    refine hr _ (f1.trans ((f6.mono fun i hi => hi.1).trans ((Only.of_ext x7).trans ((o8.mono fun i hi => ?_).trans (o9.mono fun i hi => ?_)))))
    · subst hi; exact st.row.new _ (by omega)
    · subst hi; exact st.row.new _ (Nat.le_refl _)

theorem of2_spec {s : Sl} {ts : List (List UInt8)} (e : Elems 1 h s (ts.map TV.str)) (hl : ts.flatten.length < 700000) (hts2 : ts.length < 100000) (hr : ∀ h', Ext h h' → R (TV.bytes 32 (docF ts.flatten)).val h') : CallsH Try.prog 91 (TVs.vals [.slice s]) h R := by
  apply sha_Of_calls
  unfold sha_Of_vc
  refine newTV_in fun h1 v1 x1 s1 => ?_
  refine first_spec fun h2 x2 => ⟨_, rfl, newTV_in fun h3 v3 x3 s3 => ?_⟩
  have z1 := x1.size
  have z2 := x2.size
  have st3 : St2 (fun i => h.size < i) h3 h2.size [] 0 0 Sl.nil := ⟨v3, ⟨rfl, Nat.le_refl _, .inl ⟨rfl, rfl⟩, (fun l hl => by cases hl), fun i hi => by omega⟩, Nat.le_refl _, by omega, fun l hl => by cases hl⟩
  have x13 : Ext h h3 := (x1.trans x2).trans x3
  have v13 : Var 50 h3 h.size (.bytes 32 (Bs.zero 32)) := (v1.ext x2).ext x3
  have far : ∀ hh, Only (fun i => h.size < i) h3 hh → Ext h hh := fun hh o => Only.cut x13 o fun i hi => by omega
  have hn : ts.length = s.len := by have := e.len; rwa [List.length_map] at this
  refine ⟨fun i hh => 0 ≤ i ∧ i ≤ s.len ∧ (∃ s' k, St2 (fun i => h.size < i) hh h2.size (ts.take i.toNat).flatten k ((ts.take i.toNat).flatten.length : Int) s') ∧ Only (fun i => h.size < i) h3 hh, fun i _ => ((s.len : Int) - i).toNat, ⟨Int.le_refl 0, by omega, ⟨Sl.nil, 0, st3⟩, Only.refl _ _⟩, ?_⟩
  rintro i h4 ⟨i0, i1, ⟨s4, k4, st4⟩, o4⟩
  refine If.dec.2 ⟨fun hi => ?_, fun hi => ?_⟩
  · refine (e.ext (far h4 o4)).read i0 (by omega) fun l t hla ht ha => ?_
    rw [List.getElem?_map] at ht
    obtain ⟨x, hx, rfl⟩ := Option.map_eq_some_iff.1 ht
    refine ⟨x, ha, ?_⟩
    have hts := take_snoc hx
    have hle := flatten_take_le ts (i.toNat + 1)
    rw [hts, List.flatten_append, List.length_append] at hle
    have hxl : ([x] : List (List UInt8)).flatten = x := by simp
    rw [hxl] at hle
    refine add2_spec st4 (by omega) fun h5 s5 k5 st5 _ f5 => ⟨rfl, ?_⟩
    rw [wrap_i64 (n := i + 1) (by omega) (by omega)]
    have hi1 : (i + 1).toNat = i.toNat + 1 := by omega
    refine ⟨⟨by omega, by omega, ⟨s5, k5, ?_⟩, o4.trans f5⟩, by first | omega | (dsimp only; omega)⟩
    rw [hi1, hts, List.flatten_append, hxl]
    exact st5
  · have hi2 : i.toNat = ts.length := by omega
    rw [hi2, List.take_length] at st4
    refine end2_spec st4 hl fun h5 f5 => ⟨_, rfl, ?_⟩
    have v5 : Var 50 h5 h.size (.bytes 32 (Bs.zero 32)) := (v13.only o4 (Nat.lt_irrefl _)).only f5 (Nat.lt_irrefl _)
    refine put_in v5 (t := .bytes 32 (docF ts.flatten)) bsz fun h6 v6 o6 s6 => ⟨_, v6.bytes, ?_⟩
    exact hr h6 (Only.cut (far h5 (o4.trans f5)) o6 fun i hi => by omega)

end
end Go.Proofs.Ytldocdpdjdekiaa.Board
end

section
/- The document's lots, and the choice of the least one by one. -/
namespace Go.Proofs.Ytldocdpdjdekiaa.Board
open Go Go.Vc
set_option maxRecDepth 100000

/-! ### A number's bytes -/

section
variable {R : Value → Heap → Prop} {h : Heap}

end

/-! ### The least of those that are left -/

end Go.Proofs.Ytldocdpdjdekiaa.Board
end

section
/- A validator's lot: the digest of a word and six bytes; which of two seats comes first. -/
namespace Go.Proofs.Ytldocdpdjdekiaa.Board
open Go Go.Vc
section
variable {R : Value → Heap → Prop} {h : Heap}

/-! ### le.Put -/

/-! ### Which of two seats comes first -/

structure Seat where
  lot : Bs 32
  who : Int

instance : Inhabited Seat := ⟨⟨Bs.zero 32, 0⟩⟩
def Seat.tv (s : Seat) : TV := .agg [.bytes 32 s.lot, .int .i64 s.who]

end
end Go.Proofs.Ytldocdpdjdekiaa.Board
end

section
/- Members of a slot's committee: the seats in order, cut. -/
namespace Go.Proofs.Ytldocdpdjdekiaa.Board
open Go Go.Vc

/-! ### Seats in order -/

/-! ### The program -/

structure Cf where
  vals : Sl
  ep : Int
  com : Int
  no : Int
  orp : Int
  ear : Int
  quo : Int
  pe : Int
  by_ : Int
  win : Int
  ban : Int
  dec : Int

def Cf.tv (c : Cf) : TV := .agg [.slice c.vals, .int .i64 c.ep, .int .i64 c.com, .int .i64 c.no, .int .i64 c.orp, .int .i64 c.ear, .int .i64 c.quo, .int .i64 c.pe, .int .i64 c.by_, .int .i64 c.win, .int .i64 c.ban, .int .i64 c.dec]

section
variable {R : Value → Heap → Prop} {h : Heap}

theorem Seat.size (s : Seat) : s.tv.size = 33 := by simp only [Seat.tv, TV.size, TVs.size]
theorem Seat.plain (s : Seat) : s.tv.plain = true := by rfl

end
end Go.Proofs.Ytldocdpdjdekiaa.Board
end

section
/- The conditions of functions, as the generator reckons them out, each with the proof that it is that. -/
namespace Go.Proofs.Ytldocdpdjdekiaa
open Go Go.Vc
set_option maxRecDepth 100000
set_option linter.unusedVariables false

def tollerref05_Great_vc (c_Validators : Sl) (c_Epoch : Int) (c_Committee : Int) (c_Nodes : Int) (c_Orphans : Int) (c_Early : Int) (c_Quota : Int) (c_Peers : Int) (c_Bytes : Int) (c_Window : Int) (c_Ban : Int) (c_Decay : Int) (h : Heap) (R : Value → Heap → Prop) : Prop := Vc.Bind (newTV h (.agg [.slice c_Validators, .int .i64 c_Epoch, .int .i64 c_Committee, .int .i64 c_Nodes, .int .i64 c_Orphans, .int .i64 c_Early, .int .i64 c_Quota, .int .i64 c_Peers, .int .i64 c_Bytes, .int .i64 c_Window, .int .i64 c_Ban, .int .i64 c_Decay]) 24) fun h_1 ↦ ∃ (s : Sl), at1 h_1 h.size 0 (slVal s) ∧ If (decide (100 < (↑s.len : Int))) (R (TV.val (.bool true)) h_1) (∃ (s : Sl), at1 h_1 h.size 0 (slVal s) ∧ Go.Vc.Loop (false, 0) h_1 fun (s_1 : Bool × Int) (h : Array Obj) (K : Bool × Int → Array Obj → Prop) ↦ If (decide (s_1.snd < (↑s.len : Int))) (0 ≤ s_1.snd ∧ s_1.snd < (↑s.len : Int) ∧ Nn s.a fun l ↦ ∃ (n : Int), ∃ (s : List UInt8), (at1 h l.b (l.o + Int.toNat s_1.snd * 2) (.int .i64 n) ∧ at1 h l.b (l.o + Int.toNat s_1.snd * 2 + 1) (Value.string (ByteArray.mk (List.toArray s)))) ∧ Vc.Bind (newTV h (.agg [.int .i64 0, .str []]) 78) fun h_2 ↦ wok h_2 h.size 0 2 ∧ Vc.Bind (TV.put h_2 h.size 0 (.agg [.int .i64 n, .str s])) fun h_3 ↦ ∃ (s : List UInt8), at1 h_3 h.size 1 (Value.string (ByteArray.mk (List.toArray s))) ∧ If (decide (200 < (↑(List.length s) : Int))) (R (TV.val (.bool true)) h_3) (K (s_1.fst, IntKind.wrap .i64 (s_1.snd + 1)) h_3)) (R (TV.val (.bool false)) h))
theorem tollerref05_Great_calls (c_Validators : Sl) (c_Epoch : Int) (c_Committee : Int) (c_Nodes : Int) (c_Orphans : Int) (c_Early : Int) (c_Quota : Int) (c_Peers : Int) (c_Bytes : Int) (c_Window : Int) (c_Ban : Int) (c_Decay : Int) (h : Heap) (R : Value → Heap → Prop) (H : tollerref05_Great_vc c_Validators c_Epoch c_Committee c_Nodes c_Orphans c_Early c_Quota c_Peers c_Bytes c_Window c_Ban c_Decay h R) : CallsH Try.prog 10 (TVs.vals [.agg [.slice c_Validators, .int .i64 c_Epoch, .int .i64 c_Committee, .int .i64 c_Nodes, .int .i64 c_Orphans, .int .i64 c_Early, .int .i64 c_Quota, .int .i64 c_Peers, .int .i64 c_Bytes, .int .i64 c_Window, .int .i64 c_Ban, .int .i64 c_Decay]]) h R := via ctx_ok Try.func10 (by kernel_rfl) H

def tollerref05_Total_vc (l_ : Sl) (h : Heap) (R : Value → Heap → Prop) : Prop := Go.Vc.Loop (0, false, 0, 0) h fun (s : Int × Bool × Int × Int) (h : Array Obj) (K : Int × Bool × Int × Int → Array Obj → Prop) ↦ If (decide (s.snd.snd.snd < (↑l_.len : Int))) (0 ≤ s.snd.snd.snd ∧ s.snd.snd.snd < (↑l_.len : Int) ∧ Nn l_.a fun l ↦ ∃ (n : Int), ∃ (s_1 : List UInt8), (at1 h l.b (l.o + Int.toNat s.snd.snd.snd * 2) (.int .i64 n) ∧ at1 h l.b (l.o + Int.toNat s.snd.snd.snd * 2 + 1) (Value.string (ByteArray.mk (List.toArray s_1)))) ∧ Vc.Bind (newTV h (.agg [.int .i64 0, .str []]) 78) fun h_1 ↦ wok h_1 h.size 0 2 ∧ Vc.Bind (TV.put h_1 h.size 0 (.agg [.int .i64 n, .str s_1])) fun h_2 ↦ ∃ (n : Int), at1 h_2 h.size 0 (.int .i64 n) ∧ If (decide (n < 0)) (R (TV.val (.tup [.int .i64 0, .bool false])) h_2) (∃ (s_2 : List UInt8), at1 h_2 h.size 1 (Value.string (ByteArray.mk (List.toArray s_2))) ∧ If (decide ((↑(List.length s_2) : Int) < 1)) (R (TV.val (.tup [.int .i64 0, .bool false])) h_2) (∃ (s_3 : List UInt8), at1 h_2 h.size 1 (Value.string (ByteArray.mk (List.toArray s_3))) ∧ If (decide (32 < (↑(List.length s_3) : Int))) (R (TV.val (.tup [.int .i64 0, .bool false])) h_2) (∃ (n : Int), at1 h_2 h.size 0 (.int .i64 n) ∧ If (decide (4611686018427387904 ≤ IntKind.wrap .u64 (s.snd.snd.fst + IntKind.wrap .u64 n))) (R (TV.val (.tup [.int .i64 0, .bool false])) h_2) (K (s.fst, s.snd.fst, IntKind.wrap .u64 (s.snd.snd.fst + IntKind.wrap .u64 n), IntKind.wrap .i64 (s.snd.snd.snd + 1)) h_2))))) (R (TV.val (.tup [.int .i64 (IntKind.wrap .i64 s.snd.snd.fst), .bool true])) h)
theorem tollerref05_Total_calls (l_ : Sl) (h : Heap) (R : Value → Heap → Prop) (H : tollerref05_Total_vc l_ h R) : CallsH Try.prog 51 (TVs.vals [.slice l_]) h R := via ctx_ok Try.func51 (by kernel_rfl) H

def tollerref05_Numbers_vc (c_Validators : Sl) (c_Epoch : Int) (c_Committee : Int) (c_Nodes : Int) (c_Orphans : Int) (c_Early : Int) (c_Quota : Int) (c_Peers : Int) (c_Bytes : Int) (c_Window : Int) (c_Ban : Int) (c_Decay : Int) (h : Heap) (R : Value → Heap → Prop) : Prop := Vc.Bind (newTV h (.agg [.slice c_Validators, .int .i64 c_Epoch, .int .i64 c_Committee, .int .i64 c_Nodes, .int .i64 c_Orphans, .int .i64 c_Early, .int .i64 c_Quota, .int .i64 c_Peers, .int .i64 c_Bytes, .int .i64 c_Window, .int .i64 c_Ban, .int .i64 c_Decay]) 24) fun h_1 ↦ ∃ (n : Int), at1 h_1 h.size 1 (.int .i64 n) ∧ ∃ (n_1 : Int), at1 h_1 h.size 2 (.int .i64 n_1) ∧ ∃ (s : Sl), at1 h_1 h.size 0 (slVal s) ∧ ∃ (n_2 : Int), at1 h_1 h.size 3 (.int .i64 n_2) ∧ ∃ (n_3 : Int), at1 h_1 h.size 4 (.int .i64 n_3) ∧ ∃ (n_4 : Int), at1 h_1 h.size 5 (.int .i64 n_4) ∧ ∃ (n_5 : Int), at1 h_1 h.size 6 (.int .i64 n_5) ∧ ∃ (n_6 : Int), at1 h_1 h.size 7 (.int .i64 n_6) ∧ ∃ (n_7 : Int), at1 h_1 h.size 8 (.int .i64 n_7) ∧ ∃ (n_8 : Int), at1 h_1 h.size 9 (.int .i64 n_8) ∧ ∃ (n_9 : Int), at1 h_1 h.size 10 (.int .i64 n_9) ∧ ∃ (n_10 : Int), at1 h_1 h.size 11 (.int .i64 n_10) ∧ ∃ (s_1 : Sl), at1 h_1 h.size 0 (slVal s_1) ∧ R (TV.val (.slice (Sl.mk (some (Loc.mk h_1.size 0)) 24 24))) (Array.push h_1 (row (TVs.cells [.int .i64 n, .int .i64 32, .int .i64 n_1, .int .i64 (mn 16 (↑s.len : Int)), .int .i64 n_2, .int .i64 256, .int .i64 n_3, .int .i64 64, .int .i64 n_4, .int .i64 64, .int .i64 n_5, .int .i64 64, .int .i64 n_6, .int .i64 16, .int .i64 n_7, .int .i64 256, .int .i64 n_8, .int .i64 64, .int .i64 n_9, .int .i64 1048576, .int .i64 n_10, .int .i64 1048576, .int .i64 (↑s_1.len : Int), .int .i64 64]) 3))
theorem tollerref05_Numbers_calls (c_Validators : Sl) (c_Epoch : Int) (c_Committee : Int) (c_Nodes : Int) (c_Orphans : Int) (c_Early : Int) (c_Quota : Int) (c_Peers : Int) (c_Bytes : Int) (c_Window : Int) (c_Ban : Int) (c_Decay : Int) (h : Heap) (R : Value → Heap → Prop) (H : tollerref05_Numbers_vc c_Validators c_Epoch c_Committee c_Nodes c_Orphans c_Early c_Quota c_Peers c_Bytes c_Window c_Ban c_Decay h R) : CallsH Try.prog 50 (TVs.vals [.agg [.slice c_Validators, .int .i64 c_Epoch, .int .i64 c_Committee, .int .i64 c_Nodes, .int .i64 c_Orphans, .int .i64 c_Early, .int .i64 c_Quota, .int .i64 c_Peers, .int .i64 c_Bytes, .int .i64 c_Window, .int .i64 c_Ban, .int .i64 c_Decay]]) h R := via ctx_ok Try.func50 (by kernel_rfl) H

end Go.Proofs.Ytldocdpdjdekiaa
end

section
/- Place, Proposer, Pick, Same; whether a configuration can be. -/
namespace Go.Proofs.Ytldocdpdjdekiaa.Board
open Go Go.Vc

structure Vd where
  stake : Int
  key : List UInt8
instance : Inhabited Vd := ⟨⟨0, []⟩⟩
def Vd.tv (v : Vd) : TV := .agg [.int .i64 v.stake, .str v.key]
theorem Vd.size (v : Vd) : v.tv.size = 2 := by simp only [Vd.tv, TV.size, TVs.size]
abbrev vds (l : List Vd) : List TV := l.map Vd.tv

/-- Of whom a row says yes. -/
def pk : List Int → List Bool → List Int
  | x :: xs, b :: bs => if b = true then x :: pk xs bs else pk xs bs
  | _, _ => []

section
variable {R : Value → Heap → Prop} {h : Heap} {c : Cf}

/-! ### Whether a configuration can be -/

theorem read_vd {s : Sl} {l : List Vd} {i : Int} (e : Elems 2 h s (vds l)) (i0 : 0 ≤ i) (i1 : i < l.length) {K : Int → List UInt8 → Prop} (hk : ∀ x, l[i.toNat]? = some x → K x.stake x.key) :
    0 ≤ i ∧ i < (s.len : Int) ∧ Nn s.a fun (p : Vc.Loc) => ∃ (n : Int), ∃ (k : List UInt8), (at1 h p.b (p.o + i.toNat * 2) (.int .i64 n) ∧ at1 h p.b (p.o + i.toNat * 2 + 1) (.string (ByteArray.mk k.toArray))) ∧ K n k := by
  have hl := e.len
  rw [List.length_map] at hl
  refine e.read i0 (by omega) fun p t hla ht ha => ?_
  rw [List.getElem?_map] at ht
  obtain ⟨x, hx, rfl⟩ := Option.map_eq_some_iff.1 ht
  exact ⟨x.stake, x.key, ha, hk x hx⟩

theorem great_spec {L : List Vd} (e : Elems 2 h c.vals (vds L)) (hy : ∀ h', Ext h h' → R (TV.bool true).val h') (hn : ∀ h', Ext h h' → c.vals.len ≤ 100 → R (TV.bool false).val h') : CallsH Try.prog 10 (TVs.vals [c.tv]) h R := by
  apply tollerref05_Great_calls c.vals c.ep c.com c.no c.orp c.ear c.quo c.pe c.by_ c.win c.ban c.dec
  unfold tollerref05_Great_vc
  refine newTV_in fun h1 v1 x1 s1 => ⟨c.vals, v1.at1 rfl, If.dec.2 ⟨fun hb => hy h1 x1, fun hb => ⟨c.vals, v1.at1 rfl, ?_⟩⟩⟩
  have el : L.length = c.vals.len := by have := e.len; rwa [List.length_map] at this
  refine ⟨fun σ hh => 0 ≤ σ.2 ∧ σ.2 ≤ c.vals.len ∧ Ext h hh, fun σ _ => ((c.vals.len : Int) - σ.2).toNat, ⟨Int.le_refl 0, by first | omega | (dsimp only; omega), x1⟩, ?_⟩
  rintro ⟨f, i⟩ h2 ⟨i0, i1, x2⟩
  dsimp only at i0 i1 ⊢
  refine If.dec.2 ⟨fun hi => ?_, fun hi => hn h2 x2 (by omega)⟩
  refine read_vd (e.ext x2) i0 (by omega) fun x hx => newTV_in fun h3 v3 x3 s3 => put_in v3 (t := x.tv) rfl fun h4 v4 o4 s4 => ?_
  have x4 : Ext h h4 := x2.trans (Only.cut x3 o4 fun i hi => by omega)
  refine ⟨x.key, v4.at1 rfl, If.dec.2 ⟨fun _ => hy h4 x4, fun _ => ?_⟩⟩
  rw [wrap_i64 (n := i + 1) (by omega) (by omega)]
  exact ⟨⟨by first | omega | (dsimp only; omega), by first | omega | (dsimp only; omega), x4⟩, by first | omega | (dsimp only; omega)⟩

theorem total_spec {s : Sl} {L : List Vd} (e : Elems 2 h s (vds L)) (hl : s.len < 100000) (hr : ∀ h' n b, Ext h h' → R (TV.tup [.int .i64 n, .bool b]).val h') : CallsH Try.prog 51 (TVs.vals [.slice s]) h R := by
  apply tollerref05_Total_calls
  unfold tollerref05_Total_vc
  have el : L.length = s.len := by have := e.len; rwa [List.length_map] at this
  refine ⟨fun σ hh => 0 ≤ σ.2.2.2 ∧ σ.2.2.2 ≤ s.len ∧ Ext h hh, fun σ _ => ((s.len : Int) - σ.2.2.2).toNat, ⟨Int.le_refl 0, by first | omega | (dsimp only; omega), Ext.refl _⟩, ?_⟩
  rintro ⟨a1, a2, a3, i⟩ h2 ⟨i0, i1, x2⟩
  dsimp only at i0 i1 ⊢
  refine If.dec.2 ⟨fun hi => ?_, fun hi => hr h2 _ _ x2⟩
  refine read_vd (e.ext x2) i0 (by omega) fun x hx => newTV_in fun h3 v3 x3 s3 => put_in v3 (t := x.tv) rfl fun h4 v4 o4 s4 => ?_
  have x4 : Ext h h4 := x2.trans (Only.cut x3 o4 fun i hi => by omega)
  refine ⟨x.stake, v4.at1 rfl, If.dec.2 ⟨fun _ => hr h4 _ _ x4, fun _ => ⟨x.key, v4.at1 rfl, If.dec.2 ⟨fun _ => hr h4 _ _ x4, fun _ => ⟨x.key, v4.at1 rfl, If.dec.2 ⟨fun _ => hr h4 _ _ x4, fun _ => ⟨x.stake, v4.at1 rfl, If.dec.2 ⟨fun _ => hr h4 _ _ x4, fun _ => ?_⟩⟩⟩⟩⟩⟩⟩⟩
  rw [wrap_i64 (n := i + 1) (by omega) (by omega)]
  exact ⟨⟨by first | omega | (dsimp only; omega), by first | omega | (dsimp only; omega), x4⟩, by first | omega | (dsimp only; omega)⟩

/-- The configuration's numbers, each with what it is at most. -/
def nums (c : Cf) : List Int := [c.ep, 32, c.com, mn 16 (c.vals.len : Int), c.no, 256, c.orp, 64, c.ear, 64, c.quo, 64, c.pe, 16, c.by_, 256, c.win, 64, c.ban, 1048576, c.dec, 1048576, (c.vals.len : Int), 64]

theorem numbers_spec (hr : ∀ h' s, Elems 1 h' s (ints (nums c)) → Ext h h' → R (TV.slice s).val h') : CallsH Try.prog 50 (TVs.vals [c.tv]) h R := by
  apply tollerref05_Numbers_calls c.vals c.ep c.com c.no c.orp c.ear c.quo c.pe c.by_ c.win c.ban c.dec
  unfold tollerref05_Numbers_vc
  refine newTV_in fun h1 v1 x1 s1 => ?_
  refine ⟨c.ep, v1.at1 rfl, c.com, v1.at1 rfl, c.vals, v1.at1 rfl, c.no, v1.at1 rfl, c.orp, v1.at1 rfl, c.ear, v1.at1 rfl, c.quo, v1.at1 rfl, c.pe, v1.at1 rfl, c.by_, v1.at1 rfl, c.win, v1.at1 rfl, c.ban, v1.at1 rfl, c.dec, v1.at1 rfl, c.vals, v1.at1 rfl, ?_⟩
  have o := Own.new (T := 3) (sz := 1) h1 (ints (nums c)) (fun t ht => by
    obtain ⟨x, _, rfl⟩ := List.mem_map.1 ht
    rfl)
  exact hr _ _ o.elems (x1.trans (Ext.push _ _))

end
end Go.Proofs.Ytldocdpdjdekiaa.Board
end

section
/- What a configuration that can be is; its bytes; plain. -/
namespace Go.Proofs.Ytldocdpdjdekiaa.Gate
open Go Go.Vc
open Board (Vd Cf leF)

def inB (n most : Int) : Bool := decide (1 ≤ n) && decide (n ≤ most)
def okV (v : Vd) : Bool := decide (0 ≤ v.stake) && decide (v.stake < 4611686018427387904) && inB v.key.length 32

/-- All stakes together, behind so much, if they can be. -/
def totF : List Vd → Int → Option Int
  | [], s => some s
  | v :: L, s => if okV v = true ∧ s + v.stake < 4611686018427387904 then totF L (s + v.stake) else none

def goodC (c : Cf) (L : List Vd) : Bool :=
  (totF L 0).isSome && inB L.length 64 && (inB c.ep 32 && inB c.com (min 16 L.length) && inB c.no 256 && inB c.orp 64 && inB c.ear 64 && inB c.quo 64 && inB c.pe 16 && inB c.by_ 256 && inB c.win 64 && inB c.ban 1048576 && inB c.dec 1048576)

theorem inB_iff {n m : Int} : inB n m = true ↔ 1 ≤ n ∧ n ≤ m := by simp [inB]

/-- What a configuration that can be is good for. -/
structure Can (c : Cf) (L : List Vd) : Prop where
  tot : ∃ s, totF L 0 = some s
  len : 1 ≤ L.length ∧ L.length ≤ 64
  ep : 1 ≤ c.ep ∧ c.ep ≤ 32
  com : 1 ≤ c.com ∧ c.com ≤ 16 ∧ c.com ≤ L.length
  no : 1 ≤ c.no ∧ c.no ≤ 256
  orp : 1 ≤ c.orp ∧ c.orp ≤ 64
  ear : 1 ≤ c.ear ∧ c.ear ≤ 64
  quo : 1 ≤ c.quo ∧ c.quo ≤ 64
  pe : 1 ≤ c.pe ∧ c.pe ≤ 16
  by_ : 1 ≤ c.by_ ∧ c.by_ ≤ 256
  win : 1 ≤ c.win ∧ c.win ≤ 64
  ban : 1 ≤ c.ban ∧ c.ban ≤ 1048576
  dec : 1 ≤ c.dec ∧ c.dec ≤ 1048576

theorem good_can {c : Cf} {L : List Vd} : goodC c L = true ↔ Can c L := by
  unfold goodC
  simp only [Bool.and_eq_true, inB_iff, Option.isSome_iff_exists]
  constructor
  · rintro ⟨⟨h0, h1⟩, ⟨⟨⟨⟨⟨⟨⟨⟨⟨⟨h2, h3⟩, h4⟩, h5⟩, h6⟩, h7⟩, h8⟩, h9⟩, h10⟩, h11⟩, h12⟩⟩
    exact ⟨h0, by omega, h2, by omega, h4, h5, h6, h7, h8, h9, h10, h11, h12⟩
  · rintro ⟨h0, h1, h2, h3, h4, h5, h6, h7, h8, h9, h10, h11, h12⟩
    exact ⟨⟨h0, by omega, by omega⟩, ⟨⟨⟨⟨⟨⟨⟨⟨⟨⟨h2, by omega, by omega⟩, h4⟩, h5⟩, h6⟩, h7⟩, h8⟩, h9⟩, h10⟩, h11⟩, h12⟩⟩

theorem totF_ok : ∀ {L : List Vd} {s t : Int}, 0 ≤ s → s < 4611686018427387904 → totF L s = some t → (∀ v ∈ L, okV v = true) ∧ t = s + (L.map Vd.stake).sum ∧ t < 4611686018427387904
  | [], s, t, h0, h1, h => by cases h; exact ⟨fun v hv => (by cases hv), by simp, h1⟩
  | v :: L, s, t, h0, h1, h => by
    unfold totF at h
    split at h
    · rename_i hc
      have hv : 0 ≤ v.stake := by have := hc.1; simp only [okV, Bool.and_eq_true, decide_eq_true_eq] at this; exact this.1.1
      obtain ⟨a, b, c⟩ := totF_ok (by omega) hc.2 h
      refine ⟨fun x hx => ?_, by rw [b]; simp; omega, c⟩
      rcases List.mem_cons.1 hx with rfl | hx
      · exact hc.1
      · exact a x hx
    · cases h

def toller : List UInt8 := (ByteArray.mk #[(116 : UInt8), (111 : UInt8), (108 : UInt8), (108 : UInt8), (101 : UInt8), (114 : UInt8)]).data.toList
def le4 (n : Int) : List UInt8 := leF (IntKind.wrap .u64 n) 4
def bytesV (v : Vd) : List UInt8 := (leF (IntKind.wrap .u64 v.stake) 8 ++ leF (IntKind.wrap .u64 (v.key.length : Int)) 1) ++ v.key
/-- The numbers of a configuration, in order. -/
def numsC (c : Cf) (n : Nat) : List Int := [c.ep, c.com, c.no, c.orp, c.ear, c.quo, c.pe, c.by_, c.win, c.ban, c.dec, (n : Int)]
def bytesC (c : Cf) (L : List Vd) : List UInt8 := (numsC c L.length).flatMap le4 ++ L.flatMap bytesV
/-- The name of the first block. -/
def rootC (c : Cf) (L : List Vd) : Bs 32 := Board.docF (toller ++ bytesC c L)

end Go.Proofs.Ytldocdpdjdekiaa.Gate
end

section
/- Fields of elements that are written. -/
namespace Go.Vc
open Go

theorem list_cut {α : Type} (P C Q rest U : List α) (d n : Nat) (hd : d + n ≤ C.length) :
    (P ++ (C ++ Q) ++ rest).take (P.length + d) ++ U ++ (P ++ (C ++ Q) ++ rest).drop (P.length + d + n) = P ++ (C.take d ++ U ++ C.drop (d + n)) ++ Q ++ rest := by
  rw [Nat.add_assoc P.length d n, List.append_assoc P, List.take_length_add_append, List.drop_length_add_append, List.append_assoc C, List.take_append_of_le_length (by omega), List.drop_append_of_le_length (by omega)]
  simp only [List.append_assoc]

/-- A field of an element is written. -/
theorem Own.field_in {T : TypeId} {sz n d : Nat} {h : Heap} {s : Sl} {ts : List TV} {K : Heap → Prop} {u t t0 : TV} {i : Int} (o : Own T sz h s ts) (i0 : 0 ≤ i) (hg : ts[i.toNat]? = some t0) (hu : u.size = n)
    (hdn : d + n ≤ sz) (hc : t0.cells.take d ++ u.cells ++ t0.cells.drop (d + n) = t.cells)
    (hk : ∀ h1, Own T sz h1 s (ts.set i.toNat t) → Only (In s) h h1 → h1.size = h.size → K h1) :
    0 ≤ i ∧ i < (s.len : Int) ∧ Nn s.a fun l => wok h l.b (l.o + i.toNat * sz + d) n ∧ Bind (u.put h l.b (l.o + i.toNat * sz + d)) K := by
  have hi : i.toNat < ts.length := (List.getElem?_eq_some_iff.1 hg).1
  have hle := o.len
  have hlen := TVs.cells_uniform ts o.size
  have ht0 : t0.size = sz := o.size _ (List.mem_of_getElem? hg)
  have ht : t.size = sz := by
    rw [← TV.cells_length, ← hc, List.length_append, List.length_append, List.length_take, List.length_drop, TV.cells_length, TV.cells_length, ht0, hu]
    omega
  refine ⟨i0, by omega, ?_⟩
  rcases o.row with rfl | ⟨b, rest, ha, hb, hr⟩
  · simp only [Sl.nil] at hle
    omega
  · have hmul : i.toNat * sz + sz ≤ ts.length * sz := by
      have := Nat.mul_le_mul_right sz (show i.toNat + 1 ≤ ts.length by omega)
      rwa [Nat.succ_mul] at this
    have hl : i.toNat * sz + d + u.size ≤ (TVs.cells ts ++ rest).length := by rw [List.length_append, hlen, hu]; omega
    rw [ha]
    show wok h b (0 + i.toNat * sz + d) n ∧ Bind (u.put h b (0 + i.toNat * sz + d)) K
    rw [Nat.zero_add]
    refine ⟨wok_row hb (by rw [← hu]; exact hl), hk _ ?_ ((put_only hb hl).mono fun j hj => ⟨⟨b, 0⟩, ha, hj.symm⟩) (put_size hb hl)⟩
    have hp := put_row (t := u) hb hl
    refine ⟨fun v hv => ?_, by rw [List.length_set]; exact o.len, o.cap, .inr ⟨b, rest, ha, ?_, hr⟩⟩
    · rcases List.mem_or_eq_of_mem_set hv with h1 | rfl
      · exact o.size v h1
      · exact ht
    · have hA := cells_elem ts i.toNat t0 o.size ht0 hi
      have hself : ts.set i.toNat t0 = ts := by
        obtain ⟨h1, h2⟩ := List.getElem?_eq_some_iff.1 hg
        rw [← h2, List.set_getElem_self]
      rw [hself] at hA
      rw [hp, ← cells_elem ts i.toNat t o.size ht hi, ht, ← hc, ← hu]
      rw [ht0] at hA
      obtain ⟨P, hP⟩ : ∃ P, P = (TVs.cells ts).take (i.toNat * sz) := ⟨_, rfl⟩
      obtain ⟨Q, hQ⟩ : ∃ Q, Q = (TVs.cells ts).drop (i.toNat * sz + sz) := ⟨_, rfl⟩
      rw [← hP, ← hQ] at hA ⊢
      have hPl : P.length = i.toNat * sz := by rw [hP, List.length_take, hlen]; omega
      have := list_cut P t0.cells Q rest u.cells d u.size (by rw [TV.cells_length, ht0, hu]; exact hdn)
      rw [hPl] at this
      rw [← hA, List.append_assoc P, this]

theorem wf_u8 {n : Int} (h : (Lit.int .u8 n).wf = true) : 0 ≤ n ∧ n < 256 := by
  simp only [Lit.wf, Bool.and_eq_true, decide_eq_true_eq] at h
  have h0 : IntKind.u8.min ≤ n := h.1
  have h1 : n ≤ IntKind.u8.max := h.2
  have e0 : IntKind.u8.min = 0 := rfl
  have e1 : IntKind.u8.max = 255 := rfl
  omega

theorem wf_u64 {n : Int} (h : (Lit.int .u64 n).wf = true) : 0 ≤ n ∧ n < 18446744073709551616 := by
  simp only [Lit.wf, Bool.and_eq_true, decide_eq_true_eq] at h
  have h0 : IntKind.u64.min ≤ n := h.1
  have h1 : n ≤ IntKind.u64.max := h.2
  have e0 : IntKind.u64.min = 0 := rfl
  have e1 : IntKind.u64.max = 18446744073709551615 := rfl
  omega

/-- Bytes, as many as there are, the others 0. -/
def bsOf (n : Nat) (l : List UInt8) : Bs n := ⟨(l ++ List.replicate n 0).take n, by simp⟩

/-- Bytes are copied into a field of bytes that are 0. -/
theorem bytes_copy {T : TypeId} {h : Heap} {b i o n : Nat} {ts : List TV} {s : List UInt8} {K : Heap → Prop} (v : Var T h b (.agg ts)) (hi : ts[i]? = some (.bytes n (Bs.zero n))) (ho : TVs.size (ts.take i) = o) (hs : s.length ≤ n)
    (hk : ∀ h1, Var T h1 b (.agg (ts.set i (.bytes n (bsOf n s)))) → Only (· = b) h h1 → h1.size = h.size → K h1) :
    wok h b o (Nat.min s.length n) ∧ Bind (putl h b o ((s.take (Nat.min s.length n)).map fun (c : UInt8) => Value.int .u8 (c.toNat : Int))) K := by
  have hmin : Nat.min s.length n = s.length := Nat.min_eq_left hs
  rw [hmin, List.take_length]
  have hle := TVs.size_take_le ts i _ hi
  have hsz : (TV.bytes n (Bs.zero n)).size = n := by simp only [TV.size]
  rw [hsz] at hle
  have hl : o + (s.map fun (c : UInt8) => Value.int .u8 (c.toNat : Int)).length ≤ (TV.agg ts).cells.length := by rw [TV.cells_length, List.length_map]; simp only [TV.size]; omega
  have hg := putl_get (s.map fun (c : UInt8) => Value.int .u8 (c.toNat : Int)) h b o _ T v hl
  refine ⟨wok_row v (by rw [List.length_map] at hl; exact hl), hk _ ?_ ⟨by rw [hg.2.1]; exact Nat.le_refl _, fun b' _ hn => hg.2.2 b' hn⟩ hg.2.1⟩
  unfold Var
  rw [hg.1]
  congr 2
  have hc : (TV.agg ts).cells = TVs.cells ts := by simp only [TV.cells]
  have hc2 : (TV.agg (ts.set i (.bytes n (bsOf n s)))).cells = TVs.cells (ts.set i (.bytes n (bsOf n s))) := by simp only [TV.cells]
  rw [hc, hc2]
  have h0 := cells_field ts i o (.bytes n (Bs.zero n)) (.bytes n (Bs.zero n)) hi rfl ho
  have hself : ts.set i (.bytes n (Bs.zero n)) = ts := by
    obtain ⟨h1, h2⟩ := List.getElem?_eq_some_iff.1 hi
    rw [← h2, List.set_getElem_self]
  rw [hself] at h0
  have h1 := cells_field ts i o (.bytes n (bsOf n s)) (.bytes n (Bs.zero n)) hi (by simp only [TV.size]) ho
  rw [← h1]
  obtain ⟨P, hP⟩ : ∃ P, P = (TVs.cells ts).take o := ⟨_, rfl⟩
  have hsz2 : (TV.bytes n (bsOf n s)).size = n := by simp only [TV.size]
  rw [hsz] at h0
  rw [hsz2]
  obtain ⟨Q, hQ⟩ : ∃ Q, Q = (TVs.cells ts).drop (o + n) := ⟨_, rfl⟩
  rw [← hP, ← hQ] at h0 ⊢
  have hPl : P.length = o := by
    rw [hP, List.length_take, ← hc, TV.cells_length]
    simp only [TV.size]
    omega
  have hz : (TV.bytes n (Bs.zero n)).cells = List.replicate n (.int .u8 0) := by simp [TV.cells, Bs.zero]
  rw [hz] at h0
  have hcut := list_cut P (List.replicate n (.int .u8 0)) Q [] (s.map fun (c : UInt8) => Value.int .u8 (c.toNat : Int)) 0 s.length (by rw [List.length_replicate]; omega)
  rw [hPl, List.append_nil, List.append_nil, Nat.add_zero, ← List.append_assoc P, h0] at hcut
  rw [← hP] at hcut
  rw [List.length_map, hcut]
  congr 2
  have ht : (TV.bytes n (bsOf n s)).cells = (bsOf n s).l.map fun c => Value.int .u8 (c.toNat : Int) := by simp only [TV.cells]
  rw [ht]
  unfold bsOf
  simp only
  rw [List.take_append, List.take_of_length_le hs, List.map_append]
  simp [List.take_replicate, List.drop_replicate]

/-- A byte of a field of bytes is written. -/
theorem byte_field {T : TypeId} {h : Heap} {b i o p n k : Nat} {ts : List TV} {x : Bs n} {c : Int} {K : Heap → Prop} (v : Var T h b (.agg ts)) (hi : ts[i]? = some (.bytes n x)) (ho : TVs.size (ts.take i) = o) (hkn : k < n) (hp : p = o + k) (h0 : 0 ≤ c) (h1 : c < 256)
    (hk : ∀ h1, Var T h1 b (.agg (ts.set i (.bytes n (x.set k (UInt8.ofNat c.toNat))))) → Only (· = b) h h1 → h1.size = h.size → K h1) :
    wok h b p 1 ∧ Bind ((TV.int .u8 c).put h b p) K := by
  subst hp
  have hle := TVs.size_take_le ts i _ hi
  have hsz : ∀ y : Bs n, (TV.bytes n y).size = n := fun y => by simp only [TV.size]
  rw [hsz] at hle
  have hc : ∀ us : List TV, (TV.agg us).cells = TVs.cells us := fun us => by simp only [TV.cells]
  have hl : o + k + (TV.int .u8 c).size ≤ (TV.agg ts).cells.length := by rw [TV.cells_length]; simp only [TV.size]; omega
  refine ⟨wok_row v hl, hk _ ?_ (put_only v hl) (put_size v hl)⟩
  have hpr := put_row (t := .int .u8 c) v hl
  unfold Var
  rw [hpr, hc, hc]
  congr 2
  have hb : ∀ y : Bs n, (TV.bytes n y).cells = y.l.map fun c => Value.int .u8 (c.toNat : Int) := fun y => by simp only [TV.cells]
  have h1' := cells_field ts i o (.bytes n (x.set k (UInt8.ofNat c.toNat))) (.bytes n x) hi (by rw [hsz, hsz]) ho
  have h0' := cells_field ts i o (.bytes n x) (.bytes n x) hi rfl ho
  have hself : ts.set i (.bytes n x) = ts := by
    obtain ⟨g1, g2⟩ := List.getElem?_eq_some_iff.1 hi
    rw [← g2, List.set_getElem_self]
  rw [hself, hsz, hb] at h0'
  rw [← h1', hsz, hb]
  obtain ⟨P, hP⟩ : ∃ P, P = (TVs.cells ts).take o := ⟨_, rfl⟩
  obtain ⟨Q, hQ⟩ : ∃ Q, Q = (TVs.cells ts).drop (o + n) := ⟨_, rfl⟩
  rw [← hP, ← hQ] at h0' ⊢
  have hPl : P.length = o := by
    rw [hP, List.length_take, ← hc, TV.cells_length]
    simp only [TV.size]
    omega
  have hcut := list_cut P (x.l.map fun c => Value.int .u8 (c.toNat : Int)) Q [] [.int .u8 c] k 1 (by rw [List.length_map, x.h]; omega)
  rw [hPl, List.append_nil, List.append_nil, ← List.append_assoc P, h0'] at hcut
  have hcell : (TV.int IntKind.u8 c).cells = [.int .u8 c] := rfl
  rw [hcell]
  show List.take (o + k) _ ++ _ ++ List.drop (o + k + 1) _ = _
  rw [hcut]
  congr 2
  simp only [Bs.set, List.map_set]
  have e : ((UInt8.ofNat c.toNat).toNat : Int) = c := by
    rw [UInt8.toNat_ofNat']
    omega
  rw [e, List.set_eq_take_append_cons_drop, if_pos (by rw [List.length_map, x.h]; exact hkn)]
  simp

theorem bsOf_snoc {n i : Nat} {l : List UInt8} {c : UInt8} (hc : l[i]? = some c) (hi : i < n) : (bsOf n (l.take i)).set i c = bsOf n (l.take (i + 1)) := by
  apply Bs.ext'
  have hil := (List.getElem?_eq_some_iff.1 hc).1
  show (List.take n (l.take i ++ List.replicate n 0)).set i c = List.take n (l.take (i + 1) ++ List.replicate n 0)
  rw [List.take_add_one, hc]
  apply List.ext_getElem?
  intro j
  rw [List.getElem?_set, List.length_take, List.length_append, List.length_take, List.length_replicate, List.getElem?_take, List.getElem?_take]
  by_cases hij : i = j
  · subst hij
    rw [if_pos rfl, if_pos (by omega), if_pos hi, List.append_assoc, List.getElem?_append_right (by rw [List.length_take]; omega), List.length_take, Nat.min_eq_left (by omega), Nat.sub_self]
    rfl
  · rw [if_neg hij]
    by_cases hjn : j < n
    · rw [if_pos hjn, if_pos hjn]
      by_cases hji : j < i
      · rw [List.getElem?_append_left (by rw [List.length_take]; omega), List.append_assoc, List.getElem?_append_left (by rw [List.length_take]; omega)]
      · rw [List.getElem?_append_right (by rw [List.length_take]; omega), List.length_take, Nat.min_eq_left (by omega), List.getElem?_append_right (by rw [List.length_append, List.length_take]; simp; omega), List.length_append, List.length_take, Nat.min_eq_left (by omega)]
        simp only [Option.toList, List.length_singleton, List.getElem?_replicate]
        rw [if_pos (by omega), if_pos (by omega)]
    · rw [if_neg hjn, if_neg hjn]

theorem cut_prefix {sz : Nat} {h : Heap} {s : Sl} {ts : List TV} (e : Elems sz h s ts) {n : Nat} (hn : n ≤ ts.length) : Elems sz h (cutSl s 0 n sz) (ts.take n) := by
  have ha : (cutSl s 0 n sz).a = s.a := by
    unfold cutSl
    cases s.a with
    | none => simp
    | some l => simp
  refine ⟨by rw [List.length_take]; show _ = n - 0; omega, fun hx => ?_, fun l hl i t ht => ?_⟩
  · rw [ha] at hx
    rw [e.nil hx]
    simp
  · rw [ha] at hl
    rw [List.getElem?_take] at ht
    split at ht
    · exact e.get l hl i t ht
    · cases ht

end Go.Vc
end

section
/- A validator's vote. -/
namespace Go.Proofs.Ytldocdpdjdekiaa.Board
open Go Go.Vc

structure Vt where
  who : Int
  slot : Int
  target : Bs 32
def Vt.tv (v : Vt) : TV := .agg [.int .i64 v.who, .int .i64 v.slot, .bytes 32 v.target]

end Go.Proofs.Ytldocdpdjdekiaa.Board
end

section
/- Part of what stood: all but some blocks are holes. -/
namespace Go.Vc
open Go

open Classical in
/-- What stands in some blocks, and holes elsewhere. -/
noncomputable def keeps (S : Nat → Prop) (h : Heap) : Heap := h.mapIdx fun i o => if S i then o else hole

theorem keeps_in {S : Nat → Prop} {h : Heap} {b : Nat} (s : S b) : (keeps S h)[b]? = h[b]? := by
  unfold keeps
  rw [Array.getElem?_mapIdx]
  cases h[b]? with
  | none => rfl
  | some o => simp [s]

theorem keeps_out {S : Nat → Prop} {h : Heap} {b : Nat} {o : Obj} (s : ¬ S b) (hb : (keeps S h)[b]? = some o) : o = hole := by
  unfold keeps at hb
  rw [Array.getElem?_mapIdx] at hb
  cases hx : h[b]? with
  | none => rw [hx] at hb; cases hb
  | some x => rw [hx] at hb; simp [s] at hb; exact hb.symm

theorem keeps_size {S : Nat → Prop} {h : Heap} : (keeps S h).size = h.size := by simp [keeps]

theorem keeps_sub {S : Nat → Prop} {h h' : Heap} (e : ∀ b, S b → b < h.size → h'[b]? = h[b]?) : Sub (keeps S h) h' := ⟨fun b o hb hn => by
  by_cases s : S b
  · rw [keeps_in s] at hb
    rw [e b s (Array.getElem?_eq_some_iff.1 hb).1, hb]
  · exact absurd (keeps_out s hb) hn⟩

theorem keeps_only {S : Nat → Prop} {h : Heap} : Only (fun i => ¬ S i) h (keeps S h) := ⟨by rw [keeps_size]; exact Nat.le_refl _, fun b _ hn => keeps_in (Classical.not_not.1 hn)⟩
theorem keeps_of {S Q : Nat → Prop} {h h' : Heap} (o : Only Q h h') (q : ∀ i, S i → ¬ Q i) : Sub (keeps S h) h' := keeps_sub fun b s hb => o.same b hb (q b s)
theorem keeps_refl {S : Nat → Prop} {h : Heap} : Sub (keeps S h) h := keeps_sub fun _ _ _ => rfl
theorem Var.keeps {T : TypeId} {S : Nat → Prop} {h : Heap} {b : Nat} {t : TV} (v : Var T h b t) (s : S b) : Var T (keeps S h) b t := (keeps_in s).trans v
/-- One block alone. -/
theorem lone_sub {T : TypeId} {h h' : Heap} {b : Nat} {t : TV} (v : Var T h b t) (v' : Var T h' b t) : Sub (Vc.keeps (· = b) h) h' := keeps_sub fun i s _ => by subst s; exact v'.trans v.symm

end Go.Vc
end

section
/- Trees of numbers, plain: what stands below a place, sums over it, the best child, the head. -/
namespace Go.Proofs.Ytldocdpdjdekiaa.Gate
open Go Go.Vc

section
variable {n : Nat} {par : Nat → Nat}

/-- Every place but the first stands behind its parent. -/
def Up (n : Nat) (par : Nat → Nat) : Prop := ∀ i, 0 < i → i < n → par i < i

def kid (n : Nat) (par : Nat → Nat) (k i : Nat) : Bool := decide (0 < i ∧ i < n ∧ par i = k)
def kids (n : Nat) (par : Nat → Nat) (k : Nat) : List Nat := (List.range n).filter (kid n par k)

theorem mem_kids {k i : Nat} : i ∈ kids n par k ↔ 0 < i ∧ i < n ∧ par i = k := by
  simp only [kids, kid, List.mem_filter, List.mem_range, decide_eq_true_eq]
  exact ⟨fun h => h.2, fun h => ⟨h.2.1, h⟩⟩

/-- What a place weighs, with all below it. -/
def wt (n : Nat) (par : Nat → Nat) (own : Nat → Int) : Nat → Nat → Int
  | 0, _ => 0
  | f + 1, k => own k + ((kids n par k).map (wt n par own f)).sum

def sumW (n : Nat) (par : Nat → Nat) (own : Nat → Int) (k : Nat) : Int := wt n par own n k

def one (b : Bool) : Int := if b = true then 1 else 0

theorem sum_zero {α : Type} {l : List α} {f : α → Int} (h : ∀ x ∈ l, f x = 0) : (l.map f).sum = 0 := by
  induction l with
  | nil => rfl
  | cons x l ih =>
    simp only [List.map_cons, List.sum_cons]
    rw [h x (List.mem_cons_self ..), ih fun y hy => h y (List.mem_cons_of_mem _ hy)]
    rfl

theorem kids_nodup (k : Nat) : (kids n par k).Nodup := List.nodup_range.filter _

/-! ### The best of some, by a total order -/

/-- x comes ahead of y: it weighs more, or as much, and its name is greater. -/
def ahd (s : Nat → Int) (r : Nat → List UInt8) (x y : Nat) : Bool := decide (s y < s x) || (decide (s x = s y) && Op.bytesLess (r y) (r x))

def bestStep (s : Nat → Int) (r : Nat → List UInt8) (b : Option Nat) (x : Nat) : Option Nat := match b with
  | none => some x
  | some y => if ahd s r x y = true then some x else some y
def bestL (s : Nat → Int) (r : Nat → List UInt8) (l : List Nat) : Option Nat := l.foldl (bestStep s r) none

/-- The one that comes ahead of all others. -/
def IsBest (s : Nat → Int) (r : Nat → List UInt8) (l : List Nat) : Option Nat → Prop
  | none => l = []
  | some b => b ∈ l ∧ ∀ x ∈ l, x ≠ b → ahd s r b x = true

end
end Go.Proofs.Ytldocdpdjdekiaa.Gate
end
