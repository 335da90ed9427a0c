/- Texts that the proof needs, joined: VcH, VcI, VcL, VcS, VcM, VcS2, VcS3, VcP, Ctx, VsZ0. -/
import Derived.Test.YtennbinbffdimaaGreatProg
import Derived.KernelRfl
import Derived.Test.YtennbinbffdimaaGreatPkA

section
/- Whole bodies do what their conditions say. -/
namespace Go.Vc
open Go

section
variable {P : Program} {C : Ctx}

/-- What is asked at an exit, told of slots and world. -/
def Lift (s : Bool) (m : Nat) (env : Env) (w : World) (Q : Exit → Env → Heap → Prop) : Exit → Act → World → Prop :=
  fun e a' w' => EnvS s w w' ∧ ∃ env', EnvOk env' a' ∧ Keep m env env' ∧ Q e env' w'.heap

theorem exists_min (p : Nat → Prop) (h : ∃ n, p n) : ∃ n, p n ∧ ∀ m, m < n → ¬ p m := by
  obtain ⟨n, hn⟩ := h
  induction n using Nat.strongRecOn with
  | _ n ih =>
    by_cases hx : ∃ m, m < n ∧ p m
    · obtain ⟨m, hm, hp⟩ := hx
      exact ih m hm hp
    · exact ⟨n, hn, fun m hm hp => hx ⟨m, hm, hp⟩⟩

open Classical in
/-- A loop by states that get less. -/
theorem wp_loop_less {c : Code} {Q : Exit → Act → World → Prop} (S : Nat → Act → World → Prop)
    (round : ∀ n a w, S n a w → c.wp P (Exit.then (fun a' w' => ∃ m, m < n ∧ S m a' w') Q) a w) {n : Nat} {a : Act} {w : World} (h : S n a w) : (Code.loop c).wp P Q a w := by
  refine wp_loop (fun a w => ∃ n, S n a w) (fun a w => if h : ∃ n, S n a w then Classical.choose (exists_min _ h) else 0) ⟨n, h⟩ ?_
  intro a w hI
  have hmin := Classical.choose_spec (exists_min _ hI)
  refine Code.wp_mono (fun e a' w' hq => ?_) (round _ a w hmin.1)
  cases e with
  | normal =>
    obtain ⟨m, hm, hs⟩ := hq
    refine ⟨⟨m, hs⟩, ?_⟩
    have hI' : ∃ n, S n a' w' := ⟨m, hs⟩
    have hmin' := Classical.choose_spec (exists_min _ hI')
    show (if h : ∃ n, S n a' w' then Classical.choose (exists_min _ h) else 0) < (if h : ∃ n, S n a w then Classical.choose (exists_min _ h) else 0)
    rw [dif_pos hI', dif_pos hI]
    rcases Nat.lt_or_ge (Classical.choose (exists_min _ hI')) (Classical.choose (exists_min _ hI)) with hlt | hge
    · exact hlt
    · exact absurd hs (hmin'.2 m (by omega))
  | exit _ => exact hq
  | goto _ => exact hq
  | ret => exact hq
  | panic _ => exact hq
  | outgrown => exact hq

theorem joinTl_bit {C : Ctx} {a b : Code} {env : Env} : ∀ x ∈ joinTl C a b env, (maskCode a).testBit x.1 = true := by
  intro x hx
  unfold joinTl at hx
  rcases List.mem_append.1 hx with hx | hx
  · exact carried_bit _ _ _ x hx
  · rcases List.mem_append.1 hx with hx | hx
    · exact extra_bit x hx
    · rcases List.mem_append.1 hx with hx | hx
      · exact made_bit x hx
      · exact allMade_bit x hx

theorem TV.proj_dat (t : TV) (h : canCarry t = true) : t.proj t = some t.dat := by
  cases t <;> simp_all [TV.proj, TV.dat, canCarry]

theorem carried_get (m : Nat) : ∀ (env : Env) (k : Nat) (x : Nat × TV), x ∈ carried m k env → k ≤ x.1 ∧ env.getD (x.1 - k) none = some x.2 ∧ canCarry x.2 = true
  | [], k, x, h => by simp [carried] at h
  | y :: ys, k, x, h => by
    have step : x ∈ carried m (k + 1) ys → k ≤ x.1 ∧ (y :: ys).getD (x.1 - k) none = some x.2 ∧ canCarry x.2 = true := fun h => by
      obtain ⟨h1, h2, h3⟩ := carried_get m ys (k + 1) x h
      refine ⟨by omega, ?_, h3⟩
      rw [show x.1 - k = (x.1 - (k + 1)) + 1 by omega, List.getD_cons_succ]
      exact h2
    unfold carried at h
    split at h
    · rename_i t hb
      split at h
      · rename_i hc
        rcases List.mem_cons.1 h with rfl | h
        · exact ⟨Nat.le_refl _, by simp, hc⟩
        · exact step h
      · exact step h
    · exact step h

theorem dat_proj_aux (env : Env) : ∀ T : Tl, (∀ x ∈ T, env.getD x.1 none = some x.2 ∧ canCarry x.2 = true) → T.proj env = some (Tl.dat T)
  | [], _ => rfl
  | [x], h => by
    obtain ⟨h1, h2⟩ := h x (by simp)
    simp only [Tl.proj, projAt, h1, Tl.dat]
    exact TV.proj_dat _ h2
  | x :: y :: xs, h => by
    obtain ⟨h1, h2⟩ := h x (by simp)
    have ih := dat_proj_aux env (y :: xs) (fun z hz => h z (by simp [hz]))
    simp only [Tl.proj, projAt, h1, Tl.dat, TV.proj_dat _ h2, ih]

theorem dat_proj (env : Env) (m : Nat) : (carried m 0 env).proj env = some (Tl.dat _) :=
  dat_proj_aux env _ (fun x hx => by
    obtain ⟨_, h2, h3⟩ := carried_get m env 0 x hx
    exact ⟨by simpa using h2, h3⟩)

theorem back_some {T : Tl} {K : T.S → Heap → Prop} {env : Env} {h : Heap} (hb : back T K env h) : ∃ s, T.proj env = some s ∧ K s h := by
  unfold back at hb
  split at hb
  · rename_i s hs
    exact ⟨s, hs, hb⟩
  · exact hb.elim

theorem vc_sound (hC : C.Ok) : ∀ (c : Code) (Q : Exit → Env → Heap → Prop) (env : Env) (a : Act) (w : World), vc C c Q env w.heap → EnvOk env a → c.wp C.P (Lift C.strict (maskCode c) env w Q) a w
  | .skip, Q, env, a, w, hv, he => wp_skip ⟨EnvS.refl w, env, he, Keep.refl _ _, hv⟩
  | .label _, Q, env, a, w, hv, he => wp_label ⟨EnvS.refl w, env, he, Keep.refl _ _, hv⟩
  | .exit id, Q, env, a, w, hv, he => wp_exit ⟨EnvS.refl w, env, he, Keep.refl _ _, hv⟩
  | .ret, Q, env, a, w, hv, he => wp_ret ⟨EnvS.refl w, env, he, Keep.refl _ _, hv⟩
  | .region id ops draw, Q, env, a, w, hv, he => by
    cases draw with
    | false =>
      have h1 := vcOps_sound hC (all := ops.toList) (QQ := Lift C.strict (maskCode (.region id ops false)) env w Q) (env0 := env) (w0 := w) (m := maskCode (.region id ops false)) (Q := Q .normal)
        (fun env' a' w' he' hs' hk' hq' => ⟨hs', env', he', hk', hq'⟩) ops.toList 0 env a w hv he (EnvS.refl w) (Keep.refl _ _) (fun j hj => hj)
      have h2 : wpList C.P ops (Lift C.strict (maskCode (.region id ops false)) env w Q) ops.toList a w := by
        have : ops.toList.toArray = ops := by simp
        rw [this] at h1
        exact h1
      exact wp_region_list h2
    | true =>
      simp only [vc] at hv
      split at hv
      · rename_i hap hsel
        obtain ⟨B, hB, hv⟩ := withBase_out hv
        let QQ : Exit → Act → World → Prop := fun e a' w' => match e with
          | .normal => Lift C.strict (maskCode (.region id ops true)) env w Q .normal a' w'
          | _ => False
        have ho : ops.toList.toArray = ops := by simp
        have hl : (noneB ops.toList).toArray = Array.replicate ops.size false := by
          apply Array.toList_inj.1
          unfold noneB
          rw [List.map_const']
          simp
        have h1 := drawGo_sound hC (all := ops.toList) hap hsel (QQ := QQ) (env0 := env) (w0 := w) (m := maskCode (.region id ops true)) (Q := Q .normal) (fun j hj => hj) (fun c a w h => h)
          (fun env' a' w' he' hs' hk' hq' => ⟨hs', env', he', hk', hq'⟩) ops.toList.length false (noneB ops.toList) env a { w with drawn := w.drawn + 1 } hv (fun _ => hB) he ⟨rfl, rfl, rfl, fun _ => Nat.le_succ _⟩ (Keep.refl _ _) (closed_none _)
        rw [ho, hl] at h1
        have h2 := wp_region_any (id := id) (ops := ops) (Q := QQ) (a := a) (w := w) hC.mixed (by
          have := any_of_anyX _ _ _ _ h1
          simpa using this)
        refine Code.wp_mono (fun e a' w' hq => ?_) h2
        cases e with
        | normal => exact hq
        | exit _ => exact hq.elim
        | goto _ => exact hq.elim
        | ret => exact hq.elim
        | panic _ => exact hq.elim
        | outgrown => exact hq.elim
      · exact hv.elim
  | .cond c x y, Q, env, a, w, hv, he => by
    simp only [vc] at hv
    split at hv
    · rename_i b hb
      have hc : a.eval c = .bool b := he.known hb
      cases b with
      | true => exact wp_cond_true hc (Code.wp_mono (fun e a' w' ⟨h1, env', h2, h3, h4⟩ => ⟨h1, env', h2, h3.mono lor_left, h4⟩) (vc_sound hC x Q env a w hv he))
      | false => exact wp_cond_false hc (Code.wp_mono (fun e a' w' ⟨h1, env', h2, h3, h4⟩ => ⟨h1, env', h2, h3.mono lor_right, h4⟩) (vc_sound hC y Q env a w hv he))
    · exact hv.elim
  | .block id c, Q, env, a, w, hv, he => by
    refine wp_block (Code.wp_mono (fun e a' w' hq => ?_) (vc_sound hC c (inBlk id Q) env a w hv he))
    obtain ⟨h1, env', h2, h3, h4⟩ := hq
    cases e with
    | exit id' =>
      simp only [inBlk] at h4
      simp only [Exit.inBlock]
      cases hb : Nat.beq id' id with
      | true =>
        rw [hb] at h4
        rw [if_pos (by simpa using hb)]
        exact ⟨h1, env', h2, h3, h4⟩
      | false =>
        rw [hb] at h4
        rw [if_neg (by intro hx; subst hx; simp at hb)]
        exact ⟨h1, env', h2, h3, h4⟩
    | normal => exact ⟨h1, env', h2, h3, h4⟩
    | goto _ => exact ⟨h1, env', h2, h3, h4⟩
    | ret => exact ⟨h1, env', h2, h3, h4⟩
    | panic _ => exact ⟨h1, env', h2, h3, h4⟩
    | outgrown => exact ⟨h1, env', h2, h3, h4⟩
  | .seq x y, Q, env, a, w, hv, he => by
    simp only [vc] at hv
    split at hv
    · refine wp_seq (Code.wp_mono (fun e a' w' hq => ?_) (vc_sound hC x _ env a w hv he))
      obtain ⟨h1, env', h2, h3, h4⟩ := hq
      cases e with
      | normal =>
        refine Code.wp_mono (fun e a'' w'' hq => ?_) (vc_sound hC y Q env' a' w' h4 h2)
        obtain ⟨g1, env'', g2, g3, g4⟩ := hq
        exact ⟨h1.trans g1, env'', g2, (h3.mono lor_left).trans (g3.mono lor_right), g4⟩
      | exit _ => exact ⟨h1, env', h2, h3.mono lor_left, h4⟩
      | goto _ => exact ⟨h1, env', h2, h3.mono lor_left, h4⟩
      | ret => exact ⟨h1, env', h2, h3.mono lor_left, h4⟩
      | panic _ => exact ⟨h1, env', h2, h3.mono lor_left, h4⟩
      | outgrown => exact ⟨h1, env', h2, h3.mono lor_left, h4⟩
    · have hv := hv _ (fun s h hh => hh)
      refine wp_seq (Code.wp_mono (fun e a' w' hq => ?_) (vc_sound hC x _ env a w hv he))
      obtain ⟨h1, env', h2, h3, h4⟩ := hq
      cases e with
      | normal =>
        obtain ⟨s, hs, h5⟩ := back_some h4
        have hu := upd_ok h2 h3 hs
        have hk : Keep (maskCode x) env (upd env (maskCode x) (joinTl C x y env) s) := upd_keep joinTl_bit
        refine Code.wp_mono (fun e a'' w'' hq => ?_) (vc_sound hC y Q _ a' w' h5 hu)
        obtain ⟨g1, env'', g2, g3, g4⟩ := hq
        exact ⟨h1.trans g1, env'', g2, (hk.mono lor_left).trans (g3.mono lor_right), g4⟩
      | exit _ => exact ⟨h1, env', h2, h3.mono lor_left, h4⟩
      | goto _ => exact ⟨h1, env', h2, h3.mono lor_left, h4⟩
      | ret => exact ⟨h1, env', h2, h3.mono lor_left, h4⟩
      | panic _ => exact ⟨h1, env', h2, h3.mono lor_left, h4⟩
      | outgrown => exact ⟨h1, env', h2, h3.mono lor_left, h4⟩
  | .loop c, Q, env, a, w, hv, he => by
    simp only [vc] at hv
    obtain ⟨I, μ, h0, hround⟩ := hv
    have hT : ∀ x ∈ carried (maskCode c) 0 env, (maskCode c).testBit x.1 = true := fun x hx => carried_bit _ _ _ x hx
    let T := carried (maskCode c) 0 env
    refine wp_loop_less (n := μ (Tl.dat T) w.heap) (fun n a' w' => EnvS C.strict w w' ∧ ∃ s : T.S, EnvOk (upd env (maskCode c) T s) a' ∧ I s w'.heap ∧ n = μ s w'.heap) ?_ ?_
    · rintro n a' w' ⟨h1, s, h2, h3, rfl⟩
      have hr := hround s w'.heap h3
      refine Code.wp_mono (fun e a'' w'' hq => ?_) (vc_sound hC c _ _ a' w' hr h2)
      obtain ⟨g1, env'', g2, g3, g4⟩ := hq
      have hk : Keep (maskCode c) env (upd env (maskCode c) T s) := upd_keep hT
      have hk' := hk.trans g3
      cases e with
      | normal =>
        obtain ⟨s', hs', g5, g6⟩ := back_some (T := T) (K := fun s' h' => I s' h' ∧ μ s' h' < μ s w'.heap) g4
        exact ⟨_, g6, h1.trans g1, s', upd_ok g2 hk' hs', g5, rfl⟩
      | exit _ => exact ⟨h1.trans g1, env'', g2, hk', g4⟩
      | goto _ => exact ⟨h1.trans g1, env'', g2, hk', g4⟩
      | ret => exact ⟨h1.trans g1, env'', g2, hk', g4⟩
      | panic _ => exact ⟨h1.trans g1, env'', g2, hk', g4⟩
      | outgrown => exact ⟨h1.trans g1, env'', g2, hk', g4⟩
    · refine ⟨EnvS.refl w, Tl.dat T, ?_, h0, rfl⟩
      exact upd_ok he (Keep.refl _ _) (dat_proj env (maskCode c))
  | .rangeFunc _ _ _ _, Q, env, a, w, hv, he => hv.elim
  | .scope _, Q, env, a, w, hv, he => hv.elim
  | .goto _, Q, env, a, w, hv, he => hv.elim
  | .refuse _, Q, env, a, w, hv, he => hv.elim

/-! ### Functions -/

def vcRet (C : Ctx) : List ResultVar → Env → Heap → (List TV → Prop) → Prop
  | [], _, _, K => K []
  | .tmp t :: rs, env, h, K => match env.getD t none with
    | some tv => vcRet C rs env h fun ts => K (tv :: ts)
    | none => False
  | .cell a t :: rs, env, h, K => match env.getD a none with
    | some (.ptr p) => Nn p fun l => vcLoad C t l h fun r => match r with
      | some tv => vcRet C rs env h fun ts => K (tv :: ts)
      | none => False
    | _ => False

def retVal : List TV → Value
  | [t] => t.val
  | ts => (TV.tup ts).val

def retThen (C : Ctx) (rs : List ResultVar) (R : Value → Heap → Prop) : Exit → Env → Heap → Prop
  | .normal, env, h => vcRet C rs env h fun ts => R (retVal ts) h
  | .ret, env, h => vcRet C rs env h fun ts => R (retVal ts) h
  | _, _, _ => False

def initEnv (args : List TV) (n : Nat) : Env := args.map some ++ List.replicate (n - args.length) none

/-- The condition of a call. -/
def vcFn (C : Ctx) (fn : Func) (args : List TV) (h : Heap) (R : Value → Heap → Prop) : Prop :=
  match fn.body with
  | some c => vc C c (retThen C fn.results.toList R) (initEnv args fn.ntmps) h
  | none => False

theorem vals_length : ∀ ts : List TV, (TVs.vals ts).length = ts.length
  | [] => rfl
  | t :: ts => by simp [TVs.vals, vals_length ts]

theorem initEnv_ok (args : List TV) (n : Nat) : EnvOk (initEnv args n) { tmps := (TVs.vals args).toArray ++ Array.replicate (n - (TVs.vals args).toArray.size) undef, defers := [] } := by
  refine ⟨rfl, by simp [initEnv, vals_length], fun i tv hi => ?_⟩
  simp only [initEnv] at hi
  by_cases hl : i < args.length
  · rw [List.getElem?_append_left (by simpa using hl), List.getElem?_map] at hi
    rw [Array.getElem?_append_left (by simp [vals_length]; exact hl)]
    cases ha : args[i]? with
    | none => rw [ha] at hi; cases hi
    | some u =>
      rw [ha] at hi
      simp only [Option.map_some, Option.some.injEq] at hi
      subst hi
      simpa using vals_get args i u ha
  · rw [List.getElem?_append_right (by simpa using hl)] at hi
    rw [List.getElem?_replicate] at hi
    split at hi <;> cases hi

def resOne (tmps : Array Value) : ResultVar → Sem Value
  | .tmp t => pure (tmps.getD t undef)
  | .cell x t => do loadVar t (← asAddr (tmps.getD x undef))

theorem results_eq (fn : Func) (tmps : Array Value) : results fn tmps = (do
    let vs ← fn.results.mapM (resOne tmps)
    pure (if h : vs.size = 1 then vs[0] else .tuple vs)) := by
  unfold results
  congr 2

theorem vcRet_sound (hC : C.Ok) {env : Env} {a : Act} (he : EnvOk env a) (w : World) : ∀ (rs : List ResultVar) (K : List TV → Prop), vcRet C rs env w.heap K →
    ∃ ts, K ts ∧ (rs.mapM (resOne a.tmps)).run C.P w = .ok (TVs.vals ts) w
  | [], K, h => ⟨[], h, by simp [TVs.vals]⟩
  | .tmp t :: rs, K, h => by
    simp only [vcRet] at h
    split at h
    · rename_i tv htv
      obtain ⟨ts, h1, h2⟩ := vcRet_sound hC he w rs _ h
      refine ⟨tv :: ts, h1, ?_⟩
      have hv : a.eval (.tmp t) = tv.val := he.known (x := .tmp t) htv
      have hv' : a.tmps.getD t undef = tv.val := hv
      simp only [List.mapM_cons, resOne, Sem.run_bind, Sem.run_pure, Result.andThen_ok, hv']
      rw [h2]
      rfl
    · exact h.elim
  | .cell x t :: rs, K, h => by
    simp only [vcRet] at h
    split at h
    · rename_i p hp
      obtain ⟨l, rfl, hl⟩ := elim_some h
      obtain ⟨r, v, h1, h2, h3⟩ := vcLoad_sound hC hl
      cases r with
      | none => exact h1.elim
      | some tv =>
        obtain rfl := h2 _ rfl
        obtain ⟨ts, g1, g2⟩ := vcRet_sound hC he w rs _ h1
        refine ⟨tv :: ts, g1, ?_⟩
        have hv : a.eval (.tmp x) = (TV.ptr (some l)).val := he.known (x := .tmp x) hp
        have hv' : a.tmps.getD x undef = .pointer (some l.addr) := hv
        have h3' := h3 w rfl
        unfold Instr.loadAt at h3'
        simp only [Instr.sureAddr, Sem.run_bind, Sem.run_pure, Result.andThen_ok] at h3'
        simp only [List.mapM_cons, resOne, Sem.run_bind, Sem.run_pure, Result.andThen_ok, hv', asAddr]
        rw [h3']
        simp only [Result.andThen_ok]
        rw [g2]
        rfl
    · exact h.elim

theorem vcFn_sound (hC : C.Ok) {f : FuncId} {fn : Func} (hf : C.P.funcs[f]? = some fn) {args : List TV} {h : Heap} {R : Value → Heap → Prop} (hv : vcFn C fn args h R) : CallsX C.strict C.P f (TVs.vals args) h R := by
  intro w hw
  subst hw
  unfold vcFn at hv
  split at hv
  · rename_i c hc
    refine calls_of_wp hf hc (Code.wp_mono (fun e a' w' hq => ?_) (vc_sound hC c _ _ _ w hv (initEnv_ok args fn.ntmps)))
    obtain ⟨h1, env', h2, h3, h4⟩ := hq
    have key : vcRet C fn.results.toList env' w'.heap (fun ts => R (retVal ts) w'.heap) → a'.defers = [] ∧ ∃ v, (results fn a'.tmps).run C.P w' = .ok v w' ∧ (EnvS C.strict w w' ∧ ∃ v', Ending.returned v = .returned v' ∧ R v' w'.heap) := by
      intro hr
      obtain ⟨ts, g1, g2⟩ := vcRet_sound hC h2 w' _ _ hr
      refine ⟨h2.defers, retVal ts, ?_, h1, _, rfl, g1⟩
      rw [results_eq]
      have hm : (fn.results.mapM (resOne a'.tmps)).run C.P w' = .ok (TVs.vals ts).toArray w' := by
        rw [Array.mapM_eq_mapM_toList]
        simp [g2]
      rw [Sem.run_bind, hm]
      simp only [Result.andThen_ok, Sem.run_pure]
      congr 1
      match ts with
      | [] => rfl
      | [t] => rfl
      | t :: u :: ts => rw [dif_neg (by simp [TVs.vals])]; rfl
    cases e with
    | normal => exact key h4
    | ret => exact key h4
    | exit _ => exact h4.elim
    | goto _ => exact h4.elim
    | panic _ => exact h4.elim
    | outgrown => exact h4.elim
  · exact hv.elim

end
end Go.Vc
end

section
/- A context out of a program. -/
namespace Go.Vc
open Go

def entB (P : Program) (f : FuncId) : Bool :=
  match P.funcs[f]? with
  | some fn => fn.body.isSome
  | none => false

def nameOk (P : Program) (f : FuncId) : Bool :=
  match P.funcs[f]? with
  | some fn => !(fn.name == "runtime.NumGoroutine")
  | none => true

def Ctx.of (P : Program) (n nf : Nat) : Ctx := { P, tab := (List.range n).map (TI.of P), ent := (List.range nf).map (entB P) }

def okSize (P : Program) (t : TypeId) : Bool :=
  isTup (P.underlying t) || (Nat.beq (shOf P 20 t).size (P.cellsOf t) && Nat.beq (zOf P 20 t).size (P.cellsOf t))

theorem Ctx.ok_of {P : Program} {n nf : Nat} (hz : (List.range n).map (fun t => (P.info? t).bind (·.zero)) = (List.range n).map (fun t => some (zOf P 20 t).val))
    (hs : (List.range n).all (okSize P) = true) (hm : P.follows .mixedOrders = true) (hn : (List.range nf).all (nameOk P) = true) : (Ctx.of P n nf).Ok := by
  have hti : ∀ t, t < n → (Ctx.of P n nf).ti t = TI.of P t := fun t ht => by
    simp [Ctx.ti, Ctx.of, List.getD_eq_getElem?_getD, ht]
  refine ⟨fun t ht => hti t (by simpa [Ctx.of] using ht), fun t ht hd => ?_, fun t ht => ?_, fun f hf => ?_, hm⟩
  · have ht' : t < n := by simpa [Ctx.of] using ht
    have hz' := congrArg (fun l => l[t]?) hz
    simp only [List.getElem?_map, List.getElem?_range ht', Option.map_some, Option.some.injEq] at hz'
    cases hi : P.info? t with
    | none => rw [hi] at hz'; cases hz'
    | some i =>
      rw [hi] at hz'
      refine ⟨i, hi, .inr ?_⟩
      rw [hti t ht']
      exact hz'
  · have ht' : t < n := by simpa [Ctx.of] using ht
    have := List.all_eq_true.1 hs t (List.mem_range.2 ht')
    rw [hti t ht']
    unfold okSize at this
    simp only [Bool.or_eq_true, Bool.and_eq_true] at this
    rcases this with h1 | h1
    · exact .inl h1
    · exact .inr ⟨Nat.eq_of_beq_eq_true h1.1, Nat.eq_of_beq_eq_true h1.2⟩
  · have hl : f < nf := by
      rcases Nat.lt_or_ge f nf with hl | hl
      · exact hl
      · simp only [Ctx.of, List.getD_eq_getElem?_getD] at hf
        rw [List.getElem?_eq_none (by simpa using hl)] at hf; simp at hf
    have : entB P f = true := by
      simp only [Ctx.of, List.getD_eq_getElem?_getD, List.getElem?_map] at hf
      simpa [hl] using hf
    have hnm := List.all_eq_true.1 hn f (List.mem_range.2 hl)
    unfold entB at this
    unfold nameOk at hnm
    split at this
    · rename_i fn hfn
      rw [hfn] at hnm
      exact ⟨fn, hfn, this, by simpa using hnm⟩
    · cases this

end Go.Vc
end

section
/- Small laws for proving conditions. -/
namespace Go.Vc
open Go

theorem If.yes {p q : Prop} (hp : p) : If true p q := hp
theorem If.no {p q : Prop} (hq : q) : If false p q := hq

/-! ### Reading -/

theorem at1_fun {h : Heap} {b o : Nat} {u v : Value} (h1 : at1 h b o u) (h2 : at1 h b o v) : u = v := Option.some.inj (h1.symm.trans h2)

theorem ex_int {h : Heap} {b o : Nat} {k : IntKind} {n0 : Int} (hc : at1 h b o (.int k n0)) {P : Int → Prop} (hp : P n0) : ∃ n, at1 h b o (.int k n) ∧ P n := ⟨n0, hc, hp⟩
theorem ex_ptr {h : Heap} {b o : Nat} {p : Option Loc} (hc : at1 h b o (.pointer (p.map Loc.addr))) {P : Option Loc → Prop} (hp : P p) : ∃ n : Option Loc, at1 h b o (.pointer (n.map Loc.addr)) ∧ P n := ⟨p, hc, hp⟩
theorem ex_slice {h : Heap} {b o : Nat} {s : Sl} (hc : at1 h b o (slVal s)) {P : Sl → Prop} (hp : P s) : ∃ n, at1 h b o (slVal n) ∧ P n := ⟨s, hc, hp⟩

theorem at1_ext {h h' : Heap} (e : Ext h h') {b o : Nat} {v : Value} (ha : at1 h b o v) : at1 h' b o v := by
  unfold at1 at *
  rw [e.cel (cel_lt ha), ha]

theorem atBytes_ext {h h' : Heap} (e : Ext h h') {b o n : Nat} {x : Bs n} (ha : atBytes h b o n x) : atBytes h' b o n x := fun j hj => by
  rw [e.cel (cel_lt (ha j hj)), ha j hj]

/-! ### Rows -/

theorem at1_row {h : Heap} {b o : Nat} {vs : List Value} {T : TypeId} {v : Value} (hb : h[b]? = some (row vs T)) (hv : vs[o]? = some v) : at1 h b o v := by
  unfold at1 cel row at *
  rw [hb]
  simpa using hv

theorem wok_row {h : Heap} {b o n : Nat} {vs : List Value} {T : TypeId} (hb : h[b]? = some (row vs T)) (hn : o + n ≤ vs.length) : wok h b o n := fun j hj => by
  unfold cel frz row at *
  rw [hb]
  have : o + j < vs.length := by omega
  simp [this]

theorem row_lt {h : Heap} {b : Nat} {x : Obj} (hb : h[b]? = some x) : b < h.size := (Array.getElem?_eq_some_iff.1 hb).1

/-- Only blocks of S may have changed of those that stood. -/
structure Only (S : Nat → Prop) (h h' : Heap) : Prop where
  size : h.size ≤ h'.size
  same : ∀ b, b < h.size → ¬ S b → h'[b]? = h[b]?

theorem Only.refl (S : Nat → Prop) (h : Heap) : Only S h h := ⟨Nat.le_refl _, fun _ _ _ => rfl⟩
theorem Only.of_ext {S : Nat → Prop} {h h' : Heap} (e : Ext h h') : Only S h h' := ⟨e.size, fun b hb _ => e.same b hb⟩
theorem Only.trans {S : Nat → Prop} {a b c : Heap} (h : Only S a b) (k : Only S b c) : Only S a c := ⟨Nat.le_trans h.size k.size, fun i hi hs => (k.same i (Nat.lt_of_lt_of_le hi h.size) hs).trans (h.same i hi hs)⟩
theorem Only.mono {S S' : Nat → Prop} {a b : Heap} (h : Only S a b) (hs : ∀ i, S i → S' i) : Only S' a b := ⟨h.size, fun i hi hn => h.same i hi (fun hx => hn (hs i hx))⟩
theorem Only.ext {S : Nat → Prop} {a b : Heap} (h : Only S a b) (hs : ∀ i, i < a.size → ¬ S i) : Ext a b := ⟨h.size, fun i hi => h.same i hi (hs i hi)⟩
/-- Blocks of the call's own don't count. -/
theorem Only.cut {S : Nat → Prop} {a b c : Heap} (e : Ext a b) (h : Only S b c) (hs : ∀ i, S i → a.size ≤ i) : Ext a c :=
  ⟨Nat.le_trans e.size h.size, fun i hi => (h.same i (Nat.lt_of_lt_of_le hi e.size) (fun hx => by have := hs i hx; omega)).trans (e.same i hi)⟩

/-! ### New rows -/

theorem newTV_get (h : Heap) (t : TV) (T : TypeId) : (newTV h t T)[h.size]? = some (row t.cells T) := by simp [newTV]
theorem newTV_ext (h : Heap) (t : TV) (T : TypeId) : Ext h (newTV h t T) := Ext.push h _
theorem newTV_size (h : Heap) (t : TV) (T : TypeId) : (newTV h t T).size = h.size + 1 := by simp [newTV]
theorem push_get (h : Heap) (x : Obj) : (h.push x)[h.size]? = some x := by simp

/-! ### Putting -/

theorem putl_get : ∀ (vs : List Value) (h : Heap) (b o : Nat) (us : List Value) (T : TypeId), h[b]? = some (row us T) → o + vs.length ≤ us.length →
    (putl h b o vs)[b]? = some (row (us.take o ++ vs ++ us.drop (o + vs.length)) T) ∧ (putl h b o vs).size = h.size ∧ ∀ b', b' ≠ b → (putl h b o vs)[b']? = h[b']?
  | [], h, b, o, us, T, hb, hl => by simp [putl, hb]
  | v :: vs, h, b, o, us, T, hb, hl => by
    simp only [List.length_cons] at hl
    have h1 : (putc h b o v)[b]? = some (row (us.set o v) T) := by
      unfold putc row at *
      rw [Array.getElem?_modify, if_pos rfl, hb]
      simp
    have h2 : (putc h b o v).size = h.size := by simp [putc]
    have h3 : ∀ b', b' ≠ b → (putc h b o v)[b']? = h[b']? := fun b' hb' => by
      unfold putc
      rw [Array.getElem?_modify, if_neg (Ne.symm hb')]
    obtain ⟨g1, g2, g3⟩ := putl_get vs (putc h b o v) b (o + 1) (us.set o v) T h1 (by simp; omega)
    refine ⟨?_, by simp only [putl]; rw [g2, h2], fun b' hb' => by simp only [putl]; rw [g3 b' hb', h3 b' hb']⟩
    simp only [putl]
    rw [g1]
    congr 2
    have hlo : o < us.length := by omega
    have e1 : (us.set o v).take (o + 1) = us.take o ++ [v] := by
      rw [List.take_add_one, List.take_set_of_le (Nat.le_refl _), List.getElem?_set, if_pos rfl, if_pos hlo]
      rfl
    have e2 : (us.set o v).drop (o + 1 + vs.length) = us.drop (o + (vs.length + 1)) := by
      rw [List.drop_set, if_pos (by omega)]
      congr 1
      omega
    rw [e1, e2]
    simp

theorem put_row {h : Heap} {b o : Nat} {us : List Value} {T : TypeId} {t : TV} (hb : h[b]? = some (row us T)) (hl : o + t.size ≤ us.length) :
    (t.put h b o)[b]? = some (row (us.take o ++ t.cells ++ us.drop (o + t.size)) T) := by
  have := (putl_get t.cells h b o us T hb (by rw [TV.cells_length]; exact hl)).1
  rw [TV.cells_length] at this
  exact this

theorem put_only {h : Heap} {b o : Nat} {us : List Value} {T : TypeId} {t : TV} (hb : h[b]? = some (row us T)) (hl : o + t.size ≤ us.length) : Only (· = b) h (t.put h b o) := by
  have := putl_get t.cells h b o us T hb (by rw [TV.cells_length]; exact hl)
  exact ⟨by rw [TV.put, this.2.1]; exact Nat.le_refl _, fun b' _ hn => this.2.2 b' hn⟩

theorem put_size {h : Heap} {b o : Nat} {us : List Value} {T : TypeId} {t : TV} (hb : h[b]? = some (row us T)) (hl : o + t.size ≤ us.length) : (t.put h b o).size = h.size :=
  (putl_get t.cells h b o us T hb (by rw [TV.cells_length]; exact hl)).2.1

/-! ### Numbers -/

theorem wrap_i64 {n : Int} (h0 : -9223372036854775808 ≤ n) (h1 : n ≤ 9223372036854775807) : IntKind.wrap .i64 n = n := IntWalk.i64_in n ⟨h0, h1⟩

theorem mn_eq (a b : Int) : mn a b = min a b := by unfold mn; omega
theorem mx_eq (a b : Int) : mx a b = max a b := by unfold mx; omega

theorem byte_i64 {n : Int} (h : (Lit.int .i64 n).wf = true) : -9223372036854775808 ≤ n ∧ n ≤ 9223372036854775807 := by
  simp only [Lit.wf, Bool.and_eq_true, decide_eq_true_eq] at h
  exact h

/-- A slice of integers. -/
structure Ints (k : IntKind) (h : Heap) (s : Sl) (zs : List Int) : Prop where
  len : zs.length = s.len
  nil : s.a = none → zs = []
  get : ∀ l, s.a = some l → ∀ i (hi : i < zs.length), at1 h l.b (l.o + i) (.int k zs[i])
  fit : ∀ n ∈ zs, (Lit.int k n).wf = true
  low : ∀ l, s.a = some l → zs ≠ [] → l.b < h.size

theorem Ints.ext {k : IntKind} {h h' : Heap} {s : Sl} {zs : List Int} (hz : Ints k h s zs) (e : Ext h h') : Ints k h' s zs :=
  ⟨hz.len, hz.nil, fun l hl i hi => at1_ext e (hz.get l hl i hi), hz.fit, fun l hl hn => Nat.lt_of_lt_of_le (hz.low l hl hn) e.size⟩

theorem Ints.read {k : IntKind} {h : Heap} {s : Sl} {zs : List Int} (hz : Ints k h s zs) {i : Int} (h0 : 0 ≤ i) (h1 : i < s.len) {K : Loc → Prop}
    (hk : ∀ l, s.a = some l → (∀ n, (Lit.int k n).wf = true → at1 h l.b (l.o + i.toNat * 1) (.int k n) → zs[i.toNat]? = some n → K l)) : Nn s.a K := by
  have hl := hz.len
  cases ha : s.a with
  | none => have := hz.nil ha; subst this; simp at hl; omega
  | some l =>
    have hi : i.toNat < zs.length := by omega
    refine hk l ha zs[i.toNat] (hz.fit _ (List.getElem_mem _)) ?_ (by simp [hi])
    rw [Nat.mul_one]
    exact hz.get l ha _ hi

/-! ### From a heap to worlds -/

theorem below_of {s : Bool} {w w' : World} (hs : EnvS s w w') (e : Ext w.heap w'.heap) : Go.RowKit.Below w.heap.size w w' := ⟨hs.os, hs.tape, hs.output, e.size, e.same⟩

theorem CallsH.fin {P : Program} {f : FuncId} {args : List Value} {w : World} (hc : CallsH P f args w.heap (fun v h' => v = .bool true ∧ Ext w.heap h')) :
    Calls P f args.toArray w fun e w' => e = .returned (.bool true) ∧ Go.RowKit.Below w.heap.size w w' :=
  (hc w rfl).mono fun _ _ ⟨se, _, he, hv, ex⟩ => ⟨by rw [he, hv], below_of se ex⟩

theorem cel_of_cell {w : World} {x : Addr} {v : Value} (hs : x.spot = none) {i : Nat} (h : w.cell? (x.add i) = some v) : cel w.heap x.block (x.off + i) = some v := by
  have e : x.add i = ⟨x.block, x.off + i, none⟩ := by
    unfold Addr.add
    cases x
    simp only at hs
    subst hs
    split
    · subst i; rfl
    · rfl
  rw [e] at h
  unfold World.cell? at h
  unfold cel
  split at h
  · simp_all
  · cases h

/-- A slice of integers that came in. -/
theorem ints_of {w : World} {k : IntKind} {a : Option Addr} {len cap : Nat} {zs : List Int} (hs : ∀ x, a = some x → x.spot = none)
    (h : (a = none ∧ len = 0 ∧ cap = 0 ∧ zs = []) ∨ ∃ x, a = some x ∧ len ≤ cap ∧ cap ≤ maxLen ∧ zs.length = cap ∧ (∀ i, i < zs.length → w.cell? (x.add i) = some (.int k (zs.getD i 0))) ∧ ∀ n ∈ zs, (Lit.int k n).wf = true) :
    ∃ s : Sl, Value.slice a len cap = slVal s ∧ s.len = len ∧ s.cap = cap ∧ Ints k w.heap s (zs.take len) := by
  rcases h with ⟨rfl, rfl, rfl, rfl⟩ | ⟨x, rfl, hl, _, hz, hc, hw⟩
  · exact ⟨⟨none, 0, 0⟩, rfl, rfl, rfl, ⟨rfl, fun _ => rfl, fun _ h => by (cases h), fun _ h => by (cases h), fun _ h => by (cases h)⟩⟩
  · have hx := hs x rfl
    have hg : ∀ i (hi : i < (zs.take len).length), at1 w.heap x.block (x.off + i) (.int k (zs.take len)[i]) := fun i hi => by
      have h1 : i < zs.length := by simp at hi; omega
      have := cel_of_cell hx (hc i h1)
      unfold at1
      rw [this]
      simp [h1]
    refine ⟨⟨some ⟨x.block, x.off⟩, len, cap⟩, ?_, rfl, rfl, ⟨by simp [hz, hl], fun h => by (cases h), ?_, fun n hn => hw n (List.mem_of_mem_take hn), ?_⟩⟩
    · cases x
      simp only at hx
      subst hx
      rfl
    · rintro l ⟨rfl⟩ i hi
      exact hg i hi
    · rintro l ⟨rfl⟩ hn
      exact cel_lt (hg 0 (List.length_pos_iff.2 hn))

theorem okWide_spot {P : Program} {w : World} {r : Reach} {base : Nat} {t e : TypeId} (ht : P.underlying t = some (.slice e)) {a : Addr} {len cap : Nat} (h : Value.okWide P w r base t (.slice (some a) len cap)) : a.spot = none := by
  unfold Value.okWide at h
  rw [ht] at h
  simp only at h
  unfold Cell.okWide at h
  rw [ht] at h
  simp only at h
  unfold Cell.ok at h
  rw [ht] at h
  exact h.2.2.2.1

end Go.Vc
end

section
/- Slices in memory: what stands in them, and what append makes of them. -/
namespace Go.Vc
open Go

theorem TVs.cells_append : ∀ a b : List TV, TVs.cells (a ++ b) = TVs.cells a ++ TVs.cells b
  | [], b => rfl
  | x :: a, b => by simp only [List.cons_append, TVs.cells, TVs.cells_append a b, List.append_assoc]

theorem TVs.cells_uniform {sz : Nat} : ∀ ts : List TV, (∀ t ∈ ts, t.size = sz) → (TVs.cells ts).length = ts.length * sz
  | [], _ => by simp [TVs.cells]
  | x :: a, h => by
    simp only [TVs.cells, List.length_append, List.length_cons, TV.cells_length, h x (List.mem_cons_self ..), TVs.cells_uniform a (fun t ht => h t (List.mem_cons_of_mem _ ht)), Nat.succ_mul]
    omega

theorem TVs.cells_get {sz : Nat} : ∀ (ts : List TV) (i j : Nat) (t : TV), (∀ t ∈ ts, t.size = sz) → ts[i]? = some t → j < sz → (TVs.cells ts)[i * sz + j]? = t.cells[j]?
  | [], i, j, t, _, ht, _ => by simp at ht
  | x :: a, 0, j, t, h, ht, hj => by
    simp only [List.getElem?_cons_zero, Option.some.injEq] at ht
    subst ht
    have := h x (List.mem_cons_self ..)
    simp only [TVs.cells, Nat.zero_mul, Nat.zero_add]
    rw [List.getElem?_append_left (by rw [TV.cells_length]; omega)]
  | x :: a, i + 1, j, t, h, ht, hj => by
    simp only [List.getElem?_cons_succ] at ht
    have hx := h x (List.mem_cons_self ..)
    simp only [TVs.cells]
    rw [List.getElem?_append_right (by rw [TV.cells_length, hx, Nat.succ_mul]; omega), TV.cells_length, hx]
    have : (i + 1) * sz + j - sz = i * sz + j := by rw [Nat.succ_mul]; omega
    rw [this]
    exact TVs.cells_get a i j t (fun t ht => h t (List.mem_cons_of_mem _ ht)) ht hj

/-- What stands in a slice. -/
structure Elems (sz : Nat) (h : Heap) (s : Sl) (ts : List TV) : Prop where
  len : ts.length = s.len
  nil : s.a = none → ts = []
  get : ∀ l, s.a = some l → ∀ (i : Nat) (t : TV), ts[i]? = some t → t.at h l.b (l.o + i * sz)

theorem Elems.ext {sz : Nat} {h h' : Heap} {s : Sl} {ts : List TV} (he : Elems sz h s ts) (e : Ext h h') : Elems sz h' s ts :=
  ⟨he.len, he.nil, fun l hl i t ht => TV.at_ext e (he.get l hl i t ht)⟩

theorem TV.at_only {S : Nat → Prop} {h h' : Heap} (e : Only S h h') {b o : Nat} {t : TV} (hb : ¬ S b) (ha : t.at h b o) : t.at h' b o := by
  rw [TV.at_iff] at ha ⊢
  intro j hj
  have h1 := ha j hj
  have hl : j < t.cells.length := by rw [TV.cells_length]; exact hj
  rw [List.getElem?_eq_getElem hl] at h1 ⊢
  have := e.same b (cel_lt h1) hb
  unfold cel at h1 ⊢
  rw [this]
  exact h1

theorem at1_only {S : Nat → Prop} {h h' : Heap} (e : Only S h h') {b o : Nat} {v : Value} (hb : ¬ S b) (ha : at1 h b o v) : at1 h' b o v := by
  have := e.same b (cel_lt ha) hb
  unfold at1 cel at *
  rw [this]
  exact ha

theorem Elems.only {sz : Nat} {S : Nat → Prop} {h h' : Heap} {s : Sl} {ts : List TV} (he : Elems sz h s ts) (e : Only S h h') (hs : ∀ l, s.a = some l → ¬ S l.b) : Elems sz h' s ts :=
  ⟨he.len, he.nil, fun l hl i t ht => TV.at_only e (hs l hl) (he.get l hl i t ht)⟩

theorem Elems.read {sz : Nat} {h : Heap} {s : Sl} {ts : List TV} (he : Elems sz h s ts) {i : Int} (h0 : 0 ≤ i) (h1 : i < s.len) {K : Loc → Prop}
    (hk : ∀ l t, s.a = some l → ts[i.toNat]? = some t → t.at h l.b (l.o + i.toNat * sz) → K l) : 0 ≤ i ∧ i < s.len ∧ Nn s.a K := by
  refine ⟨h0, h1, ?_⟩
  have hl := he.len
  have hi : i.toNat < ts.length := by omega
  cases ha : s.a with
  | none => have := he.nil ha; subst this; simp at hi
  | some l => exact hk l ts[i.toNat] ha (by simp [hi]) (he.get l ha _ _ (by simp [hi]))

theorem Elems.nil_ (sz : Nat) (h : Heap) : Elems sz h Sl.nil [] := ⟨rfl, fun _ => rfl, fun l hl => by cases hl⟩

/-- A slice that has its row for itself. -/
structure Own (T : TypeId) (sz : Nat) (h : Heap) (s : Sl) (ts : List TV) : Prop where
  size : ∀ t ∈ ts, t.size = sz
  len : ts.length = s.len
  cap : s.len ≤ s.cap
  row : (s = Sl.nil) ∨ ∃ b rest, s.a = some ⟨b, 0⟩ ∧ h[b]? = some (Go.Vc.row (TVs.cells ts ++ rest) T) ∧ rest.length = (s.cap - s.len) * sz

theorem Own.nil (T : TypeId) (sz : Nat) (h : Heap) : Own T sz h Sl.nil [] := ⟨(fun t ht => by cases ht), rfl, Nat.le_refl _, .inl rfl⟩

theorem Own.lt {T : TypeId} {sz : Nat} {h : Heap} {s : Sl} {ts : List TV} (o : Own T sz h s ts) : ∀ l, s.a = some l → l.b < h.size := fun l hl => by
  rcases o.row with rfl | ⟨b, rest, ha, hb, _⟩
  · cases hl
  · rw [ha] at hl; cases hl; exact row_lt hb

theorem Own.elems {T : TypeId} {sz : Nat} {h : Heap} {s : Sl} {ts : List TV} (o : Own T sz h s ts) : Elems sz h s ts := by
  refine ⟨o.len, fun hn => ?_, fun l hl i t ht => ?_⟩
  · rcases o.row with rfl | ⟨b, rest, ha, _⟩
    · exact List.eq_nil_of_length_eq_zero o.len
    · rw [ha] at hn; cases hn
  · rcases o.row with rfl | ⟨b, rest, ha, hb, _⟩
    · cases hl
    · rw [ha] at hl
      cases hl
      rw [TV.at_iff]
      intro j hj
      have hsz := o.size t (List.mem_of_getElem? ht)
      have hcel := TVs.cells_get ts i j t o.size ht (by omega)
      have hlen := TVs.cells_uniform ts o.size
      have hi : i < ts.length := (List.getElem?_eq_some_iff.1 ht).1
      have hlt : i * sz + j < (TVs.cells ts).length := by
        rw [hlen]
        have : (i + 1) * sz ≤ ts.length * sz := Nat.mul_le_mul_right _ hi
        rw [Nat.succ_mul] at this
        omega
      unfold cel
      rw [hb]
      simp only [Go.Vc.row, Nat.zero_add]
      rw [List.getElem?_toArray, List.getElem?_append_left hlt, hcel]

theorem Own.only {T : TypeId} {sz : Nat} {S : Nat → Prop} {h h' : Heap} {s : Sl} {ts : List TV} (o : Own T sz h s ts) (e : Only S h h') (hs : ∀ l, s.a = some l → ¬ S l.b) : Own T sz h' s ts := by
  refine ⟨o.size, o.len, o.cap, ?_⟩
  rcases o.row with h1 | ⟨b, rest, ha, hb, hr⟩
  · exact .inl h1
  · exact .inr ⟨b, rest, ha, by rw [e.same b (row_lt hb) (hs _ ha), hb], hr⟩

theorem Own.ext {T : TypeId} {sz : Nat} {h h' : Heap} {s : Sl} {ts : List TV} (o : Own T sz h s ts) (e : Ext h h') : Own T sz h' s ts :=
  o.only (S := fun _ => False) (Only.of_ext e) (fun _ _ h => h)

/-- A row made just now. -/
theorem Own.new {T : TypeId} {sz : Nat} (h : Heap) (ts : List TV) (hs : ∀ t ∈ ts, t.size = sz) : Own T sz (h.push (Go.Vc.row (TVs.cells ts) T)) ⟨some ⟨h.size, 0⟩, ts.length, ts.length⟩ ts :=
  ⟨hs, rfl, Nat.le_refl _, .inr ⟨h.size, [], rfl, by simp, by simp⟩⟩

theorem zeros_length {z : TV} {n : Nat} : (zeros z n).length = n * z.size := by
  induction n with
  | zero => simp [zeros]
  | succ n ih => simp only [zeros, List.length_append, TV.cells_length, ih, Nat.succ_mul]; omega

/-- One element more. -/
theorem append1 {C : Ctx} {T : TypeId} {sz : Nat} {h : Heap} {s : Sl} {ts : List TV} {x : TV} {K : Sl → Heap → Prop} (hsz : (C.ti T).size = sz) (hz : (C.ti T).z.size = sz) (hpos : 0 < (C.ti T).bytes)
    (hb : (s.len + 1) * (C.ti T).bytes ≤ 70368744177664) (o : Own T sz h s ts) (hx : x.size = sz) (hp : x.plain = true)
    (hk : ∀ s' h', Own T sz h' s' (ts ++ [x]) → Only (fun b => ∃ l, s.a = some l ∧ l.b = b) h h' → (∀ l, s'.a = some l → (∃ l', s.a = some l' ∧ l'.b = l.b) ∨ h.size ≤ l.b) → K s' h') :
    ∃ new, slAt (h.push (row (TVs.cells [x]) T)) (Sl.mk (some (Loc.mk h.size 0)) 1 1) sz new ∧ (∀ v ∈ new, isOne v = true) ∧ vcAppend C T s 1 new (h.push (row (TVs.cells [x]) T)) K := by
  have hcx : TVs.cells [x] = x.cells := by simp [TVs.cells]
  have hlx : x.cells.length = sz := by rw [TV.cells_length, hx]
  refine ⟨x.cells, ⟨by simp [hlx], .inr ⟨_, rfl, fun j hj => ?_⟩⟩, TV.plain_cells x hp, ?_⟩
  · unfold cel
    simp [row, hcx]
  have e1 : Ext h (h.push (row (TVs.cells [x]) T)) := Ext.push h _
  have o1 := o.ext e1
  have hsize : ∀ t ∈ ts ++ [x], t.size = sz := fun t ht => by
    rcases List.mem_append.1 ht with h1 | h1
    · exact o.size t h1
    · simp only [List.mem_singleton] at h1; rw [h1]; exact hx
  have hlen := TVs.cells_uniform ts o.size
  have hcells : TVs.cells (ts ++ [x]) = TVs.cells ts ++ x.cells := by rw [TVs.cells_append, hcx]
  refine ⟨TVs.cells ts, ?_, hb, hpos, ?_, ?_, ?_⟩
  · rw [hsz]
    refine ⟨by rw [hlen, o.len], ?_⟩
    rcases o1.row with rfl | ⟨b, rest, ha, hbk, _⟩
    · exact .inl ⟨rfl, rfl⟩
    · refine .inr ⟨_, ha, fun j hj => ?_⟩
      unfold cel
      rw [hbk]
      simp only [row, Nat.zero_add]
      rw [List.getElem?_toArray, List.getElem?_append_left hj]
  · intro hroom
    rcases o1.row with rfl | ⟨b, rest, ha, hbk, hr⟩
    · simp [Sl.nil] at hroom
    · refine ⟨.inr (by rw [ha]; rfl), fun l hl => ?_⟩
      rw [ha] at hl
      cases hl
      rw [hsz]
      simp only [Nat.zero_add]
      have hrl : x.cells.length ≤ rest.length := by
        rw [hlx, hr]
        exact Nat.le_mul_of_pos_left _ (by omega)
      refine ⟨wok_row hbk (by simp only [List.length_append, hlen, ← o.len]; omega), ?_⟩
      obtain ⟨g1, g2, g3⟩ := putl_get x.cells (h.push (row (TVs.cells [x]) T)) b (s.len * sz) _ T hbk (by simp only [List.length_append, hlen, ← o.len]; omega)
      refine hk _ _ ⟨hsize, by simp [o.len], by simp only; omega, .inr ⟨b, rest.drop sz, rfl, ?_, by simp only [List.length_drop, hr]; rw [← Nat.sub_sub, Nat.sub_mul (s.cap - s.len), Nat.one_mul]⟩⟩ ?_ ?_
      · rw [g1, hcells, ← o.len]
        congr 1
        congr 1
        rw [← hlen]
        simp [hlx]
      · refine ⟨by rw [g2]; exact e1.size, fun b' hb' hn => ?_⟩
        rw [g3 b' (fun hx => hn ⟨_, ha, hx.symm⟩), e1.same b' hb']
      · intro l hl
        cases hl
        exact .inl ⟨_, ha, rfl⟩
  · intro hroom hn
    rcases o1.row with rfl | ⟨b, rest, ha, _⟩
    · simp [Sl.nil] at hroom
    · rw [ha] at hn; cases hn
  · intro hroom c hc
    have hh : (h.push (row (TVs.cells [x]) T)).size = h.size + 1 := by simp
    refine hk _ _ ⟨hsize, by simp [o.len], hc, .inr ⟨_, zeros (C.ti T).z (c - (s.len + 1)), rfl, ?_, ?_⟩⟩ ?_ ?_
    · rw [push_get, hcells]
    · rw [zeros_length, hz]
    · refine Only.of_ext (e1.trans (Ext.push _ _))
    · intro l hl
      cases hl
      right
      simp only
      omega

end Go.Vc
end

section
/- Variables in memory: a block that holds one value. -/
namespace Go.Vc
open Go

/-- A block of its own holds a value. -/
def Var (T : TypeId) (h : Heap) (b : Nat) (t : TV) : Prop := h[b]? = some (row t.cells T)

theorem Var.lt {T : TypeId} {h : Heap} {b : Nat} {t : TV} (v : Var T h b t) : b < h.size := row_lt v
theorem Var.only {T : TypeId} {S : Nat → Prop} {h h' : Heap} {b : Nat} {t : TV} (v : Var T h b t) (o : Only S h h') (hs : ¬ S b) : Var T h' b t := (o.same b v.lt hs).trans v
theorem Var.ext {T : TypeId} {h h' : Heap} {b : Nat} {t : TV} (v : Var T h b t) (e : Ext h h') : Var T h' b t := (e.same b v.lt).trans v
theorem Var.at {T : TypeId} {h : Heap} {b : Nat} {t : TV} (v : Var T h b t) : t.at h b 0 := by
  rw [TV.at_iff]
  intro j hj
  unfold cel
  rw [v]
  simp [row]
theorem Var.at1 {T : TypeId} {h : Heap} {b o : Nat} {t : TV} {x : Value} (v : Var T h b t) (hx : t.cells[o]? = some x) : Go.Vc.at1 h b o x := at1_row v hx
theorem Var.bytes {T : TypeId} {h : Heap} {b n : Nat} {x : Bs n} (v : Var T h b (.bytes n x)) : atBytes h b 0 n x := v.at
theorem Var.wok {T : TypeId} {h : Heap} {b o n : Nat} {t : TV} (v : Var T h b t) (hn : o + n ≤ t.size) : Go.Vc.wok h b o n := wok_row v (by rw [TV.cells_length]; exact hn)

theorem newTV_spec (h : Heap) (t : TV) (T : TypeId) : ∃ h1, newTV h t T = h1 ∧ Var T h1 h.size t ∧ Ext h h1 ∧ h1.size = h.size + 1 :=
  ⟨_, rfl, newTV_get h t T, newTV_ext h t T, newTV_size h t T⟩

theorem put_spec {T : TypeId} {h : Heap} {b : Nat} {t0 : TV} (v : Var T h b t0) (t : TV) (hs : t.size = t0.size) : ∃ h1, t.put h b 0 = h1 ∧ Var T h1 b t ∧ Only (· = b) h h1 ∧ h1.size = h.size := by
  have hl : 0 + t.size ≤ t0.cells.length := by rw [TV.cells_length, hs]; omega
  refine ⟨_, rfl, ?_, put_only v hl, put_size v hl⟩
  have := put_row (t := t) v hl
  unfold Var
  rw [this]
  congr 1
  congr 1
  rw [List.take_zero, List.nil_append, Nat.zero_add, List.drop_eq_nil_of_le (by rw [TV.cells_length, hs]; exact Nat.le_refl _), List.append_nil]

/-- A new variable, written at once. -/
theorem newput_spec (h : Heap) (t0 t : TV) (T : TypeId) (hs : t.size = t0.size) : wok (newTV h t0 T) h.size 0 t.size ∧ ∃ h1, t.put (newTV h t0 T) h.size 0 = h1 ∧ Var T h1 h.size t ∧ Ext h h1 ∧ h1.size = h.size + 1 := by
  obtain ⟨h1, e1, v1, x1, s1⟩ := newTV_spec h t0 T
  rw [e1]
  refine ⟨v1.wok (by omega), ?_⟩
  obtain ⟨h2, e2, v2, o2, s2⟩ := put_spec v1 t hs
  exact ⟨h2, e2, v2, Only.cut x1 o2 (fun i hi => by omega), by omega⟩

theorem wrap_shift (a q : Int) : IntKind.wrap .i64 (a + 18446744073709551616 * q) = IntKind.wrap .i64 a := by
  have : (a + 18446744073709551616 * q) % 2 ^ IntKind.i64.bits = a % 2 ^ IntKind.i64.bits := by
    show (a + 18446744073709551616 * q) % 2 ^ 64 = a % 2 ^ 64
    omega
  unfold IntKind.wrap
  rw [this]

theorem wrap_off (a : Int) : ∃ q, IntKind.wrap .i64 a = a + 18446744073709551616 * q := by
  have e : a % 2 ^ 64 = a + 18446744073709551616 * (-(a / 18446744073709551616)) := by omega
  unfold IntKind.wrap
  show ∃ q, (if (true && decide (a % 2 ^ 64 ≥ 2 ^ 63)) = true then a % 2 ^ 64 - 2 ^ 64 else a % 2 ^ 64) = _
  split
  · exact ⟨-(a / 18446744073709551616) - 1, by omega⟩
  · exact ⟨_, e⟩

theorem wrap_add (a b : Int) : IntKind.wrap .i64 (IntKind.wrap .i64 a + b) = IntKind.wrap .i64 (a + b) := by
  obtain ⟨q, e⟩ := wrap_off a
  rw [e, ← wrap_shift (a + b) q]
  congr 1
  omega

theorem wrap_add2 (a b : Int) : IntKind.wrap .i64 (a + IntKind.wrap .i64 b) = IntKind.wrap .i64 (a + b) := by
  rw [Int.add_comm, wrap_add, Int.add_comm]

theorem wrap_wrap (a : Int) : IntKind.wrap .i64 (IntKind.wrap .i64 a) = IntKind.wrap .i64 a := by
  have := wrap_add a 0
  simpa using this

theorem ex_bytes {h : Heap} {b o n : Nat} {x : Bs n} (hc : atBytes h b o n x) {P : Bs n → Prop} (hp : P x) : ∃ y, atBytes h b o n y ∧ P y := ⟨x, hc, hp⟩
theorem ex_slice2 {h : Heap} {b o b' o' : Nat} {s s' : Sl} (hc : at1 h b o (slVal s)) (hc' : at1 h b' o' (slVal s')) {P : Sl → Sl → Prop} (hp : P s s') : ∃ n m, (at1 h b o (slVal n) ∧ at1 h b' o' (slVal m)) ∧ P n m := ⟨s, s', ⟨hc, hc'⟩, hp⟩

end Go.Vc
end

section
/- Slices in memory, continued: all of another slice is appended; a copy with one element more. -/
namespace Go.Vc
open Go

theorem Elems.cells {sz : Nat} {h : Heap} {s : Sl} {us : List TV} (e : Elems sz h s us) (hs : ∀ u ∈ us, u.size = sz) (hp : 0 < sz) : slAt h s sz (TVs.cells us) := by
  have hl := TVs.cells_uniform us hs
  refine ⟨by rw [hl, e.len], ?_⟩
  cases ha : s.a with
  | none =>
    left
    have := e.nil ha
    have hlen := e.len
    rw [this] at hlen
    exact ⟨hlen.symm, rfl⟩
  | some l =>
    right
    refine ⟨l, rfl, fun j hj => ?_⟩
    rw [hl] at hj
    have hi : j / sz < us.length := by rw [Nat.div_lt_iff_lt_mul hp]; exact hj
    have hget : us[j / sz]? = some us[j / sz] := List.getElem?_eq_getElem hi
    have hm : j % sz < sz := Nat.mod_lt _ hp
    have hd : j / sz * sz + j % sz = j := by rw [Nat.mul_comm]; exact Nat.div_add_mod j sz
    have h1 := e.get l ha (j / sz) _ hget
    rw [TV.at_iff] at h1
    have h2 := h1 (j % sz) (by rw [hs _ (List.getElem_mem hi)]; exact hm)
    have h3 := TVs.cells_get us (j / sz) (j % sz) _ hs hget hm
    rw [hd] at h3
    rw [h3, ← h2, Nat.add_assoc, hd]

theorem TVs.plain_cells_of {us : List TV} (hp : ∀ u ∈ us, u.plain = true) : ∀ v ∈ TVs.cells us, isOne v = true := by
  induction us with
  | nil => intro v hv; cases hv
  | cons x xs ih =>
    intro v hv
    simp only [TVs.cells, List.mem_append] at hv
    rcases hv with h1 | h1
    · exact TV.plain_cells x (hp x (List.mem_cons_self ..)) v h1
    · exact ih (fun u hu => hp u (List.mem_cons_of_mem _ hu)) v h1

/-- All elements of another slice are appended. -/
theorem appendN {C : Ctx} {T : TypeId} {sz : Nat} {h : Heap} {t s : Sl} {ts us : List TV} {K : Sl → Heap → Prop} (hsz : (C.ti T).size = sz) (hz : (C.ti T).z.size = sz) (hpos : 0 < (C.ti T).bytes) (h0 : 0 < sz)
    (hb : (t.len + s.len) * (C.ti T).bytes ≤ 70368744177664) (o : Own T sz h t ts) (e : Elems sz h s us) (hs : ∀ u ∈ us, u.size = sz) (hp : ∀ u ∈ us, u.plain = true)
    (hk : ∀ t' h', Own T sz h' t' (ts ++ us) → (t.len = t.cap → Ext h h') → Only (fun b => ∃ l, t.a = some l ∧ l.b = b) h h' → (∀ l, t'.a = some l → (∃ l', t.a = some l' ∧ l'.b = l.b) ∨ h.size ≤ l.b) → K t' h') :
    ∃ new, slAt h s sz new ∧ (∀ v ∈ new, isOne v = true) ∧ vcAppend C T t s.len new h K := by
  have hlu := TVs.cells_uniform us hs
  refine ⟨TVs.cells us, e.cells hs h0, TVs.plain_cells_of hp, ?_⟩
  have hsize : ∀ x ∈ ts ++ us, x.size = sz := fun x hx => by
    rcases List.mem_append.1 hx with h1 | h1
    · exact o.size x h1
    · exact hs x h1
  have hlen := TVs.cells_uniform ts o.size
  have elen := e.len
  have olen := o.len
  have ocap := o.cap
  refine ⟨TVs.cells ts, ?_, hb, hpos, ?_, ?_, ?_⟩
  · rw [hsz]
    exact o.elems.cells o.size h0
  · intro hroom
    rcases o.row with rfl | ⟨b, rest, ha, hbk, hr⟩
    · simp only [Sl.nil] at hroom ⊢
      exact ⟨.inl (by omega), fun l hl => by cases hl⟩
    · refine ⟨.inr (by rw [ha]; rfl), fun l hl => ?_⟩
      rw [ha] at hl
      cases hl
      rw [hsz]
      simp only [Nat.zero_add]
      have hcl : s.len * sz ≤ rest.length := by
        rw [hr]
        exact Nat.mul_le_mul_right _ (by omega)
      have hfit : t.len * sz + (TVs.cells us).length ≤ (TVs.cells ts ++ rest).length := by
        simp only [List.length_append, hlen, ← o.len, hlu, elen]
        omega
      refine ⟨wok_row hbk hfit, ?_⟩
      obtain ⟨g1, g2, g3⟩ := putl_get (TVs.cells us) h b (t.len * sz) _ T hbk hfit
      have hcc : TVs.cells (ts ++ us) = TVs.cells ts ++ TVs.cells us := TVs.cells_append _ _
      have hrow : (putl h b (t.len * sz) (TVs.cells us))[b]? = some (Go.Vc.row (TVs.cells (ts ++ us) ++ rest.drop (s.len * sz)) T) := by
        rw [g1, hcc, ← o.len, ← hlen]
        congr 2
        simp [hlu, elen]
      have hrl : (rest.drop (s.len * sz)).length = (t.cap - (t.len + s.len)) * sz := by
        simp only [List.length_drop, hr]
        rw [← Nat.sub_sub, Nat.sub_mul (t.cap - t.len)]
      refine hk _ _ ⟨hsize, by simp [olen, elen], by simp only; omega, .inr ⟨b, rest.drop (s.len * sz), rfl, hrow, hrl⟩⟩ ?_ ?_ ?_
      · intro hfull
        have hs0 : s.len = 0 := by omega
        refine ⟨by rw [g2]; exact Nat.le_refl _, fun b' hb' => ?_⟩
        by_cases hbb : b' = b
        · subst hbb
          have hu0 : us = [] := List.eq_nil_of_length_eq_zero (by omega)
          rw [hrow, hbk, hu0, hs0]
          simp
        · exact g3 b' hbb
      · refine ⟨by rw [g2]; exact Nat.le_refl _, fun b' hb' hn => ?_⟩
        exact g3 b' (fun hx => hn ⟨_, ha, hx.symm⟩)
      · intro l hl
        cases hl
        exact .inl ⟨_, ha, rfl⟩
  · intro hroom hn
    rcases o.row with rfl | ⟨b, rest, ha, _⟩
    · simp only [Sl.nil] at hroom
      have hs0 : s.len = 0 := by omega
      have hu0 : us = [] := List.eq_nil_of_length_eq_zero (by omega)
      have ht0 : ts = [] := List.eq_nil_of_length_eq_zero (by simpa [Sl.nil] using olen)
      rw [hs0]
      refine hk _ _ ?_ (fun _ => Ext.refl _) (Only.refl _ _) (fun l hl => by cases hl)
      rw [hu0, ht0]
      exact Own.nil T sz h
    · rw [ha] at hn; cases hn
  · intro hroom c hc
    refine hk _ _ ⟨hsize, by simp [olen, elen], hc, .inr ⟨_, zeros (C.ti T).z (c - (t.len + s.len)), rfl, ?_, ?_⟩⟩ ?_ ?_ ?_
    · rw [push_get, TVs.cells_append]
    · rw [zeros_length, hz]
    · intro _; exact Ext.push _ _
    · exact Only.of_ext (Ext.push _ _)
    · intro l hl
      cases hl
      right
      exact Nat.le_refl _

/-- A copy with one element more, in all three orders. -/
theorem append_copy {C : Ctx} {T : TypeId} {sz : Nat} {H : Heap} {s : Sl} {us : List TV} {x : TV} {K1 K2 K3 : Sl → Heap → Sl → Heap → Prop} (hsz : (C.ti T).size = sz) (hz : (C.ti T).z.size = sz) (hpos : 0 < (C.ti T).bytes) (h0 : 0 < sz)
    (hb : (s.len + 1) * (C.ti T).bytes ≤ 70368744177664) (e : Elems sz H s us) (hs : ∀ u ∈ us, u.size = sz) (hp : ∀ u ∈ us, u.plain = true) (hx : x.size = sz) (hxp : x.plain = true)
    (hk : ∀ s20 h s21 h7, Own T sz h7 s21 (us ++ [x]) → Ext H h7 → (∀ l, s21.a = some l → H.size ≤ l.b) → K1 s20 h s21 h7 ∧ K2 s20 h s21 h7 ∧ K3 s20 h s21 h7) :
    (Ext H (H.push (row (TVs.cells []) T)) ∧
     (∃ new, slAt (H.push (row (TVs.cells []) T)) s sz new ∧ (∀ v ∈ new, isOne v = true) ∧
       vcAppend C T (Sl.mk (some (Loc.mk H.size 0)) 0 0) s.len new (H.push (row (TVs.cells []) T)) fun s20 h => Ext (H.push (row (TVs.cells []) T)) h ∧ Ext h (h.push (row (TVs.cells [x]) T)) ∧
         ∃ new, slAt (h.push (row (TVs.cells [x]) T)) (Sl.mk (some (Loc.mk h.size 0)) 1 1) sz new ∧ (∀ v ∈ new, isOne v = true) ∧ vcAppend C T s20 1 new (h.push (row (TVs.cells [x]) T)) fun s21 h7 => K1 s20 h s21 h7) ∧
     Ext (H.push (row (TVs.cells []) T)) ((H.push (row (TVs.cells []) T)).push (row (TVs.cells [x]) T)) ∧
     ∃ new, slAt ((H.push (row (TVs.cells []) T)).push (row (TVs.cells [x]) T)) s sz new ∧ (∀ v ∈ new, isOne v = true) ∧
       vcAppend C T (Sl.mk (some (Loc.mk H.size 0)) 0 0) s.len new ((H.push (row (TVs.cells []) T)).push (row (TVs.cells [x]) T)) fun s20 h => Ext ((H.push (row (TVs.cells []) T)).push (row (TVs.cells [x]) T)) h ∧
         ∃ new, slAt h (Sl.mk (some (Loc.mk (H.push (row (TVs.cells []) T)).size 0)) 1 1) sz new ∧ (∀ v ∈ new, isOne v = true) ∧ vcAppend C T s20 1 new h fun s21 h7 => K2 s20 h s21 h7) ∧
    Ext H (H.push (row (TVs.cells [x]) T)) ∧ Ext (H.push (row (TVs.cells [x]) T)) ((H.push (row (TVs.cells [x]) T)).push (row (TVs.cells []) T)) ∧
    ∃ new, slAt ((H.push (row (TVs.cells [x]) T)).push (row (TVs.cells []) T)) s sz new ∧ (∀ v ∈ new, isOne v = true) ∧
       vcAppend C T (Sl.mk (some (Loc.mk (H.push (row (TVs.cells [x]) T)).size 0)) 0 0) s.len new ((H.push (row (TVs.cells [x]) T)).push (row (TVs.cells []) T)) fun s20 h => Ext ((H.push (row (TVs.cells [x]) T)).push (row (TVs.cells []) T)) h ∧
         ∃ new, slAt h (Sl.mk (some (Loc.mk H.size 0)) 1 1) sz new ∧ (∀ v ∈ new, isOne v = true) ∧ vcAppend C T s20 1 new h fun s21 h7 => K3 s20 h s21 h7 := by
  have lb : (0 + s.len) * (C.ti T).bytes ≤ 70368744177664 := Nat.le_trans (Nat.mul_le_mul_right _ (by omega)) hb
  have one : ∀ t ∈ [x], t.size = sz := fun t ht => by rw [List.mem_singleton.1 ht]; exact hx
  have onep : ∀ t ∈ [x], t.plain = true := fun t ht => by rw [List.mem_singleton.1 ht]; exact hxp
  have e1 := Ext.push H (row (TVs.cells []) T)
  have f1 := Ext.push H (row (TVs.cells [x]) T)
  refine ⟨⟨e1, ?_, Ext.push _ _, ?_⟩, f1, Ext.push _ _, ?_⟩
  · have o0 := Own.new (T := T) (sz := sz) H [] (by simp)
    refine appendN hsz hz hpos h0 lb o0 (e.ext e1) hs hp fun t' h' o' x' _ b' => ?_
    have x'' := x' rfl
    have hlen := o'.len
    simp only [List.nil_append] at hlen
    have elen := e.len
    refine ⟨x'', Ext.push _ _, ?_⟩
    have := x''.size
    have := e1.size
    have hbt : ∀ l, t'.a = some l → H.size ≤ l.b := fun l hl => by
      rcases b' l hl with ⟨l', hl', he⟩ | hx
      · cases hl'; rw [← he]; exact Nat.le_refl _
      · omega
    refine append1 hsz hz hpos (by rw [← hlen, elen]; exact hb) o' hx hxp fun s' h7 o7 w7 b7 => (hk t' h' s' h7 (by simpa using o7) (Only.cut (e1.trans x'') w7 ?_) ?_).1
    · rintro b ⟨l, hl, rfl⟩
      exact hbt l hl
    · intro l hl
      rcases b7 l hl with ⟨l', hl', he⟩ | hx
      · rw [← he]; exact hbt l' hl'
      · omega
  · have o0 := (Own.new (T := T) (sz := sz) H [] (by simp)).ext (Ext.push _ (row (TVs.cells [x]) T))
    have e2 := Ext.push (H.push (row (TVs.cells []) T)) (row (TVs.cells [x]) T)
    have ox := Own.new (T := T) (sz := sz) (H.push (row (TVs.cells []) T)) [x] one
    refine appendN hsz hz hpos h0 lb o0 ((e.ext e1).ext e2) hs hp fun t' h' o' x' _ b' => ?_
    have x'' := x' rfl
    have hlen := o'.len
    simp only [List.nil_append] at hlen
    have elen := e.len
    refine ⟨x'', ?_⟩
    have := x''.size
    have := e1.size
    have := e2.size
    have hbt : ∀ l, t'.a = some l → H.size ≤ l.b := fun l hl => by
      rcases b' l hl with ⟨l', hl', he⟩ | hx
      · cases hl'; rw [← he]; exact Nat.le_refl _
      · omega
    refine appendN (s := Sl.mk (some (Loc.mk (H.push (row (TVs.cells []) T)).size 0)) 1 1) hsz hz hpos h0 (by rw [← hlen, elen]; exact hb) o' (ox.elems.ext x'') one onep fun s' h7 o7 _ w7 b7 => (hk t' h' s' h7 (by simpa using o7) (Only.cut ((e1.trans e2).trans x'') w7 ?_) ?_).2.1
    · rintro b ⟨l, hl, rfl⟩
      exact hbt l hl
    · intro l hl
      rcases b7 l hl with ⟨l', hl', he⟩ | hx
      · rw [← he]; exact hbt l' hl'
      · omega
  · have o0 := Own.new (T := T) (sz := sz) (H.push (row (TVs.cells [x]) T)) [] (by simp)
    have e2 := Ext.push (H.push (row (TVs.cells [x]) T)) (row (TVs.cells []) T)
    have ox := (Own.new (T := T) (sz := sz) H [x] one).ext e2
    refine appendN hsz hz hpos h0 lb o0 ((e.ext f1).ext e2) hs hp fun t' h' o' x' _ b' => ?_
    have x'' := x' rfl
    have hlen := o'.len
    simp only [List.nil_append] at hlen
    have elen := e.len
    refine ⟨x'', ?_⟩
    have := x''.size
    have := f1.size
    have := e2.size
    have hbt : ∀ l, t'.a = some l → H.size ≤ l.b := fun l hl => by
      rcases b' l hl with ⟨l', hl', he⟩ | hx
      · cases hl'; rw [← he]; exact f1.size
      · omega
    refine appendN (s := Sl.mk (some (Loc.mk H.size 0)) 1 1) hsz hz hpos h0 (by rw [← hlen, elen]; exact hb) o' (ox.elems.ext x'') one onep fun s' h7 o7 _ w7 b7 => (hk t' h' s' h7 (by simpa using o7) (Only.cut ((f1.trans e2).trans x'') w7 ?_) ?_).2.2
    · rintro b ⟨l, hl, rfl⟩
      exact hbt l hl
    · intro l hl
      rcases b7 l hl with ⟨l', hl', he⟩ | hx
      · rw [← he]; exact hbt l' hl'
      · omega

end Go.Vc
end

section
/- Fields and elements of one cell that are written. -/
namespace Go.Vc
open Go

theorem cells_ones : ∀ (ts : List TV) (i : Nat) (t : TV), (∀ t ∈ ts, t.size = 1) → t.size = 1 → i < ts.length → (TVs.cells ts).take i ++ t.cells ++ (TVs.cells ts).drop (i + 1) = TVs.cells (ts.set i t)
  | [], i, t, _, _, hi => by simp at hi
  | x :: xs, 0, t, h, ht, _ => by
    have hx : x.cells.length = 1 := by rw [TV.cells_length]; exact h x (List.mem_cons_self ..)
    simp only [TVs.cells, List.set_cons_zero, List.take_zero, List.nil_append, Nat.zero_add]
    rw [← hx, List.drop_left]
  | x :: xs, i + 1, t, h, ht, hi => by
    have hx : x.cells.length = 1 := by rw [TV.cells_length]; exact h x (List.mem_cons_self ..)
    obtain ⟨v, hv⟩ := List.length_eq_one_iff.1 hx
    have ih := cells_ones xs i t (fun t ht => h t (List.mem_cons_of_mem _ ht)) ht (by simpa using hi)
    simp only [TVs.cells, List.set_cons_succ, hv, List.cons_append, List.nil_append, List.take_succ_cons, List.drop_succ_cons]
    rw [← ih]

/-- A field of one cell is written. -/
theorem put_field {T : TypeId} {h : Heap} {b i : Nat} {ts : List TV} (v : Var T h b (.agg ts)) (h1 : ∀ t ∈ ts, t.size = 1) (hi : i < ts.length) {t : TV} (ht : t.size = 1) :
    wok h b i 1 ∧ ∃ h1, t.put h b i = h1 ∧ Var T h1 b (.agg (ts.set i t)) ∧ Only (· = b) h h1 ∧ h1.size = h.size := by
  have hlen : (TVs.cells ts).length = ts.length := by rw [TVs.cells_uniform (sz := 1) ts h1, Nat.mul_one]
  have hl : i + t.size ≤ (TV.agg ts).cells.length := by simp only [TV.cells, hlen, ht]; omega
  refine ⟨wok_row v (by rw [← ht]; exact hl), _, rfl, ?_, put_only v hl, put_size v hl⟩
  have := put_row (t := t) v hl
  unfold Var
  rw [this]
  simp only [TV.cells, ht]
  rw [cells_ones ts i t h1 ht hi]

/-- A block in which a slice's row lies. -/
def In (A : Sl) (i : Nat) : Prop := ∃ l, A.a = some l ∧ l.b = i

/-- An element of one cell is written. -/
theorem Own.set {T : TypeId} {h : Heap} {s : Sl} {ts : List TV} (o : Own T 1 h s ts) {i : Nat} {t : TV} (hi : i < ts.length) (ht : t.size = 1) :
    ∃ l, s.a = some l ∧ wok h l.b (l.o + i * 1) 1 ∧ ∃ h1, t.put h l.b (l.o + i * 1) = h1 ∧ Own T 1 h1 s (ts.set i t) ∧ Only (In s) h h1 ∧ h1.size = h.size := by
  have hlen : (TVs.cells ts).length = ts.length := by rw [TVs.cells_uniform (sz := 1) ts o.size, Nat.mul_one]
  rcases o.row with rfl | ⟨b, rest, ha, hb, hr⟩
  · have := o.len
    simp [Sl.nil] at this
    rw [this] at hi
    simp at hi
  · have hl : i + t.size ≤ (TVs.cells ts ++ rest).length := by rw [List.length_append, hlen, ht]; omega
    refine ⟨⟨b, 0⟩, ha, ?_, _, rfl, ?_, ?_, ?_⟩
    · simp only [Nat.zero_add, Nat.mul_one]
      exact wok_row hb (by rw [← ht]; exact hl)
    · simp only [Nat.zero_add, Nat.mul_one]
      have := put_row (t := t) hb hl
      refine ⟨fun u hu => ?_, by rw [List.length_set]; exact o.len, o.cap, .inr ⟨b, rest, ha, ?_, hr⟩⟩
      · rcases List.mem_or_eq_of_mem_set hu with h1 | rfl
        · exact o.size u h1
        · exact ht
      · rw [this, ht, ← cells_ones ts i t o.size ht hi]
        congr 2
        rw [List.take_append_of_le_length (by omega), List.drop_append_of_le_length (by omega)]
        simp
    · simp only [Nat.zero_add, Nat.mul_one]
      exact (put_only hb hl).mono fun j hj => ⟨⟨b, 0⟩, ha, hj.symm⟩
    · simp only [Nat.zero_add, Nat.mul_one]
      exact put_size hb hl

end Go.Vc
end

section
/- Values that are packed with their types: the methods of a pointer; functions that are entered; heaps that have names; structs that are read. -/
namespace Go.Vc
open Go

theorem Ctx.Ok.entP {C : Ctx} (hC : C.Ok) {f : FuncId} (h : C.ent.getD f false = true) : EntP C.P f := by
  obtain ⟨fn, hfn, hbody, hname⟩ := hC.ent f h
  intro args w
  have hname' : ¬ fn.name = "runtime.NumGoroutine" := by simpa using hname
  have hb3 : ¬ fn.body = none := by intro hx; rw [hx] at hbody; cases hbody
  simp [callFunc, hfn, hname', hb3]

/-- A method whose receiver is the pointer itself. -/
theorem methodAt_ptr {P : Program} {h : Heap} {t e : TypeId} {i : TypeInfo} {m : Go.Method} {name : String} {f : FuncId} {l : Loc} (hi : P.info? t = some i) (hf : i.methods.find? (·.name == name) = some m)
    (hp : m.path = #[]) (hm : m.func = some (f, true)) (hu : P.underlying t = some (.pointer e)) (hs : 0 < P.types.size) (he : EntP P f) : MethodAt P h t (TV.ptr (some l)).val name f (TV.ptr (some l)).val := by
  refine ⟨he, fun w _ => ?_⟩
  obtain ⟨n, hn⟩ : ∃ n, P.types.size + Made.depth = n + 1 := ⟨P.types.size + Made.depth - 1, by omega⟩
  rw [hn]
  unfold method
  simp only [Sem.run_bind, run_typeInfo w hi, Result.andThen_ok, hf, hp, follow, Sem.run_pure, hm, receiverAt, run_underlying hu, Place.get]

theorem nilChk (ts : Array TypeId) (ty : TypeId) (a : Addr) (s m : ByteArray) : Builtin.ssaWrapNilChk_ ts ty #[.pointer (some a), .string s, .string m] = pure (.pointer (some a)) := rfl

/-- A method whose receiver is what the pointer points at. -/
theorem methodAt_val {C : Ctx} (hC : C.Ok) {h : Heap} {t e : TypeId} {i : TypeInfo} {m : Go.Method} {name : String} {f : FuncId} {l : Loc} {tv : TV} (hi : C.P.info? t = some i) (hf : i.methods.find? (·.name == name) = some m)
    (hp : m.path = #[]) (hm : m.func = some (f, false)) (hu : C.P.underlying t = some (.pointer e)) (hs : 0 < C.P.types.size) (he : EntP C.P f)
    (hn : notTuple (C.ti e).d = true) (hh : tv.has (C.ti e).sh = true) (ha : tv.at h l.b l.o) : MethodAt C.P h t (TV.ptr (some l)).val name f tv.val := by
  refine ⟨he, fun w hw => ?_⟩
  obtain ⟨n, hn'⟩ : ∃ n, C.P.types.size + Made.depth = n + 1 := ⟨C.P.types.size + Made.depth - 1, by omega⟩
  rw [hn']
  have hl := load_run hC hn hh (w := w) (l := l) (by rw [hw]; exact ha)
  unfold Instr.loadAt at hl
  simp only [Instr.sureAddr, Sem.run_bind, Sem.run_pure, Result.andThen_ok] at hl
  unfold method
  simp only [Sem.run_bind, run_typeInfo w hi, Result.andThen_ok, hf, hp, follow, Sem.run_pure, hm, receiverAt, run_underlying hu, Place.get, TV.val, Option.map_some, strVal, nilChk, asAddr]
  rw [if_pos (by rfl : (#[] : Array FieldStep).isEmpty = true)]
  simp only [Sem.run_bind, Sem.run_pure, Result.andThen_ok, hl]

/-- The function behind a method of a name that is the type's own, and whether it takes the pointer. -/
def methF (P : Program) (t : TypeId) (name : String) : Option (FuncId × Bool) := match P.info? t with
  | some i => match i.methods.find? (·.name == name) with
    | some m => match m.path.isEmpty with
      | true => m.func
      | false => none
    | none => none
  | none => none

theorem methF_iff {P : Program} {t : TypeId} {name : String} {r : FuncId × Bool} (h : methF P t name = some r) : ∃ i m, P.info? t = some i ∧ i.methods.find? (·.name == name) = some m ∧ m.path = #[] ∧ m.func = some r := by
  unfold methF at h
  split at h
  · rename_i i hi
    split at h
    · rename_i m hm
      split at h
      · rename_i hp
        exact ⟨i, m, hi, hm, Array.isEmpty_iff.1 hp, h⟩
      · cases h
    · cases h
  · cases h

theorem meth_ptr {C : Ctx} (hC : C.Ok) {h : Heap} {t e : TypeId} {name : String} {f : FuncId} {l : Loc} (hm : methF C.P t name = some (f, true)) (hd : (C.ti t).d = some (.pointer e)) (hs : 0 < C.P.types.size) (he : C.ent.getD f false = true) :
    MethodAt C.P h t (TV.ptr (some l)).val name f (TV.ptr (some l)).val := by
  obtain ⟨i, m, h1, h2, h3, h4⟩ := methF_iff hm
  exact methodAt_ptr h1 h2 h3 h4 (hC.d hd) hs (hC.entP he)

theorem meth_val {C : Ctx} (hC : C.Ok) {h : Heap} {t e : TypeId} {name : String} {f : FuncId} {l : Loc} {tv : TV} (hm : methF C.P t name = some (f, false)) (hd : (C.ti t).d = some (.pointer e)) (hs : 0 < C.P.types.size) (he : C.ent.getD f false = true)
    (hn : notTuple (C.ti e).d = true) (hh : tv.has (C.ti e).sh = true) (ha : tv.at h l.b l.o) : MethodAt C.P h t (TV.ptr (some l)).val name f tv.val := by
  obtain ⟨i, m, h1, h2, h3, h4⟩ := methF_iff hm
  exact methodAt_val hC h1 h2 h3 h4 (hC.d hd) hs (hC.entP he) hn hh ha

/-! ### Heaps that have names -/

theorem newTV_in {h : Heap} {t : TV} {T : TypeId} {K : Heap → Prop} (hk : ∀ h1, Var T h1 h.size t → Ext h h1 → h1.size = h.size + 1 → K h1) : Bind (newTV h t T) K := by
  obtain ⟨h1, e1, v1, x1, s1⟩ := newTV_spec h t T
  rw [e1]
  exact hk h1 v1 x1 s1

theorem put_in {T : TypeId} {h : Heap} {b : Nat} {t0 t : TV} {K : Heap → Prop} (v : Var T h b t0) (hs : t.size = t0.size) (hk : ∀ h1, Var T h1 b t → Only (· = b) h h1 → h1.size = h.size → K h1) : wok h b 0 t0.size ∧ Bind (t.put h b 0) K := by
  obtain ⟨h1, e1, v1, o1, s1⟩ := put_spec v t hs
  refine ⟨v.wok (by omega), ?_⟩
  rw [e1]
  exact hk h1 v1 o1 s1

/-- A field of one cell of a struct is written; `pre` is what stands ahead of it. -/
theorem cells_field : ∀ (ts : List TV) (i o : Nat) (t t0 : TV), ts[i]? = some t0 → t.size = t0.size → TVs.size (ts.take i) = o → (TVs.cells ts).take o ++ t.cells ++ (TVs.cells ts).drop (o + t.size) = TVs.cells (ts.set i t)
  | [], i, o, t, t0, h, _, _ => by simp at h
  | x :: xs, 0, o, t, t0, h, hs, ho => by
    simp only [List.getElem?_cons_zero, Option.some.injEq] at h
    subst h
    simp only [List.take_zero, TVs.size] at ho
    subst ho
    simp only [TVs.cells, List.set_cons_zero, List.take_zero, List.nil_append, Nat.zero_add]
    rw [hs, ← TV.cells_length x, List.drop_left]
  | x :: xs, i + 1, o, t, t0, h, hs, ho => by
    simp only [List.getElem?_cons_succ] at h
    simp only [List.take_succ_cons, TVs.size] at ho
    have ih := cells_field xs i (o - x.size) t t0 h hs (by omega)
    have hx := TV.cells_length x
    simp only [TVs.cells, List.set_cons_succ]
    rw [← ih]
    have e1 : (x.cells ++ TVs.cells xs).take o = x.cells ++ (TVs.cells xs).take (o - x.size) := by
      rw [List.take_append, List.take_of_length_le (by omega), hx]
    have e2 : (x.cells ++ TVs.cells xs).drop (o + t.size) = (TVs.cells xs).drop (o - x.size + t.size) := by
      rw [List.drop_append, List.drop_of_length_le (by omega), hx, List.nil_append]
      congr 1
      omega
    rw [e1, e2]
    simp only [List.append_assoc]

theorem TVs.size_take_le : ∀ (ts : List TV) (i : Nat) (t0 : TV), ts[i]? = some t0 → TVs.size (ts.take i) + t0.size ≤ TVs.size ts
  | [], i, t0, h => by simp at h
  | x :: xs, 0, t0, h => by
    simp only [List.getElem?_cons_zero, Option.some.injEq] at h
    subst h
    simp only [List.take_zero, TVs.size]
    omega
  | x :: xs, i + 1, t0, h => by
    simp only [List.getElem?_cons_succ] at h
    have := TVs.size_take_le xs i t0 h
    simp only [List.take_succ_cons, TVs.size]
    omega

/-- A field of a struct is written. -/
theorem field_in {T : TypeId} {h : Heap} {b i o n : Nat} {ts : List TV} {t t0 : TV} {K : Heap → Prop} (v : Var T h b (.agg ts)) (hi : ts[i]? = some t0) (hs : t.size = t0.size) (hn : n = t0.size) (ho : TVs.size (ts.take i) = o)
    (hk : ∀ h1, Var T h1 b (.agg (ts.set i t)) → Only (· = b) h h1 → h1.size = h.size → K h1) : wok h b o n ∧ Bind (t.put h b o) K := by
  have hle := TVs.size_take_le ts i t0 hi
  have hl : o + t.size ≤ (TV.agg ts).cells.length := by rw [TV.cells_length]; simp only [TV.size]; omega
  refine ⟨wok_row v (by rw [hn, ← hs]; exact hl), ?_⟩
  refine hk _ ?_ (put_only v hl) (put_size v hl)
  have := put_row (t := t) v hl
  unfold Var
  rw [this]
  simp only [TV.cells]
  rw [cells_field ts i o t t0 hi hs ho]

/-- Elements of one size: one of them is another. -/
theorem cells_elem {sz : Nat} (ts : List TV) (i : Nat) (t : TV) (h : ∀ t ∈ ts, t.size = sz) (ht : t.size = sz) (hi : i < ts.length) : (TVs.cells ts).take (i * sz) ++ t.cells ++ (TVs.cells ts).drop (i * sz + t.size) = TVs.cells (ts.set i t) := by
  refine cells_field ts i (i * sz) t ts[i] (by simp [hi]) (by rw [ht, h _ (List.getElem_mem _)]) ?_
  have : ∀ (l : List TV), (∀ t ∈ l, t.size = sz) → TVs.size l = l.length * sz := by
    intro l hl
    rw [← TVs.cells_length, TVs.cells_uniform l hl]
  rw [this _ (fun t ht => h t (List.mem_of_mem_take ht)), List.length_take, Nat.min_eq_left (by omega)]

/-- An element is written. -/
theorem Own.put_in {T : TypeId} {sz n : Nat} {h : Heap} {s : Sl} {ts : List TV} {K : Heap → Prop} {t : TV} {i : Int} (o : Own T sz h s ts) (i0 : 0 ≤ i) (hi : i < ts.length) (ht : t.size = sz) (hn : n = sz)
    (hk : ∀ h1, Own T sz h1 s (ts.set i.toNat t) → Only (In s) h h1 → h1.size = h.size → K h1) :
    0 ≤ i ∧ i < (s.len : Int) ∧ Nn s.a fun l => wok h l.b (l.o + i.toNat * sz) n ∧ Bind (t.put h l.b (l.o + i.toNat * sz)) K := by
  have hle := o.len
  have hlen := TVs.cells_uniform ts o.size
  refine ⟨i0, by omega, ?_⟩
  rcases o.row with rfl | ⟨b, rest, ha, hb, hr⟩
  · simp [Sl.nil] at hle
    rw [hle] at hi
    simp at hi
    omega
  · have hmul : i.toNat * sz + sz ≤ ts.length * sz := by
      have := Nat.mul_le_mul_right sz (show i.toNat + 1 ≤ ts.length by omega)
      rwa [Nat.succ_mul] at this
    have hl : i.toNat * sz + t.size ≤ (TVs.cells ts ++ rest).length := by rw [List.length_append, hlen, ht]; omega
    rw [ha]
    show wok h b (0 + i.toNat * sz) n ∧ Bind (t.put h b (0 + i.toNat * sz)) K
    rw [Nat.zero_add]
    refine ⟨wok_row hb (by rw [hn]; rw [ht] at hl; exact hl), hk _ ?_ ((put_only hb hl).mono fun j hj => ⟨⟨b, 0⟩, ha, hj.symm⟩) (put_size hb hl)⟩
    have := put_row (t := t) hb hl
    refine ⟨fun u hu => ?_, by rw [List.length_set]; exact o.len, o.cap, .inr ⟨b, rest, ha, ?_, hr⟩⟩
    · rcases List.mem_or_eq_of_mem_set hu with h1 | rfl
      · exact o.size u h1
      · exact ht
    · rw [this, ← cells_elem ts i.toNat t o.size ht (by omega)]
      congr 2
      rw [List.take_append_of_le_length (by omega), List.drop_append_of_le_length (by omega)]
      simp

end Go.Vc
end

section
/- The context of this seat's program. -/
namespace Go.Proofs.YtennbinbffdimaaGreat
open Go Go.Vc

noncomputable def ctx : Ctx := Ctx.of Tryz.prog 436 378

theorem ctx_ok : ctx.Ok := Ctx.ok_of (by kernel_rfl) (by kernel_rfl) (by kernel_rfl) (by kernel_rfl)

/-- The same, for functions in which a call writes behind what is read ahead of it. -/
noncomputable def ctxL : Ctx := { ctx with loose := true }

theorem ctxL_ok : ctxL.Ok := ⟨ctx_ok.tab, ctx_ok.zero, ctx_ok.size, ctx_ok.ent, ctx_ok.mixed⟩

/-- The same, for what a sort asks. -/
noncomputable def ctxS : Ctx := { ctx with strict := true }

theorem ctxS_ok : ctxS.Ok := ⟨ctx_ok.tab, ctx_ok.zero, ctx_ok.size, ctx_ok.ent, ctx_ok.mixed⟩

theorem via {C : Ctx} {f : FuncId} {fn : Func} {args : List TV} {h : Heap} {R : Value → Heap → Prop} {P : Prop} (hC : C.Ok) (hf : C.P.funcs[f]? = some fn) (e : P = vcFn C fn args h R) (H : P) : CallsX C.strict C.P f (TVs.vals args) h R :=
  vcFn_sound (C := C) hC (fn := fn) hf (e ▸ H)

end Go.Proofs.YtennbinbffdimaaGreat
end

section
/- The conditions of functions, as the generator reckons them out, each with the proof that it is that. -/
namespace Go.Proofs.YtennbinbffdimaaGreat
open Go Go.Vc
set_option maxRecDepth 100000
set_option linter.unusedVariables false

def math_bits_RotateLeft32_vc (x : Int) (k : Int) (h : Heap) (R : Value → Heap → Prop) : Prop := 0 ≤ IntKind.wrap .u64 (↑(BitVec.toNat (BitVec.ofInt (IntKind.bits .u64) (IntKind.wrap .u64 k) &&& BitVec.ofInt (IntKind.bits .u64) 31)) : Int) ∧ 0 ≤ IntKind.wrap .u64 (32 - IntKind.wrap .u64 (↑(BitVec.toNat (BitVec.ofInt (IntKind.bits .u64) (IntKind.wrap .u64 k) &&& BitVec.ofInt (IntKind.bits .u64) 31)) : Int)) ∧ R (TV.val (.int .u32 (IntKind.wrap .u32 (↑(BitVec.toNat (BitVec.ofInt (IntKind.bits .u32) (IntKind.wrap .u32 (x * (2 : Int) ^ min (Int.toNat (IntKind.wrap .u64 (↑(BitVec.toNat (BitVec.ofInt (IntKind.bits .u64) (IntKind.wrap .u64 k) &&& BitVec.ofInt (IntKind.bits .u64) 31)) : Int))) (IntKind.bits .u32))) ||| BitVec.ofInt (IntKind.bits .u32) (Int.fdiv x ((2 : Int) ^ min (Int.toNat (IntKind.wrap .u64 (32 - IntKind.wrap .u64 (↑(BitVec.toNat (BitVec.ofInt (IntKind.bits .u64) (IntKind.wrap .u64 k) &&& BitVec.ofInt (IntKind.bits .u64) 31)) : Int)))) (IntKind.bits .u32))))) : Int)))) h
theorem math_bits_RotateLeft32_calls (x : Int) (k : Int) (h : Heap) (R : Value → Heap → Prop) (H : math_bits_RotateLeft32_vc x k h R) : CallsH Tryz.prog 340 (TVs.vals [.int .u32 x, .int .i64 k]) h R := via ctx_ok Tryz.func340 (by kernel_rfl) H

def sha_turn_vc (x : Int) (n : Int) (h : Heap) (R : Value → Heap → Prop) : Prop := CallsH Tryz.prog 340 (TVs.vals [.int .u32 x, .int .i64 (IntKind.wrap .i64 (0 - n))]) h fun (v : Value) (h : Heap) ↦ ∃ (n : Int), v = TV.val (.int .u32 n) ∧ R (TV.val (.int .u32 n)) h
theorem sha_turn_calls (x : Int) (n : Int) (h : Heap) (R : Value → Heap → Prop) (H : sha_turn_vc x n h R) : CallsH Tryz.prog 327 (TVs.vals [.int .u32 x, .int .i64 n]) h R := via ctx_ok Tryz.func327 (by kernel_rfl) H

def sha_first_vc (h : Heap) (R : Value → Heap → Prop) : Prop := Vc.Bind (newTV h (.words IntKind.u32 8 (Ws.zero 8)) 289) fun h_1 ↦ wok h_1 h.size 0 8 ∧ Vc.Bind (TV.put h_1 h.size 0 (.words IntKind.u32 8 (Ws.set (Ws.set (Ws.set (Ws.set (Ws.set (Ws.set (Ws.set (Ws.set (Ws.zero 8) 0 1779033703) 1 3144134277) 2 1013904242) 3 2773480762) 4 1359893119) 5 2600822924) 6 528734635) 7 1541459225))) fun h_2 ↦ ∃ (w : Ws 8), atWords h_2 h.size 0 IntKind.u32 8 w ∧ R (TV.val (.words IntKind.u32 8 w)) h_2
theorem sha_first_calls (h : Heap) (R : Value → Heap → Prop) (H : sha_first_vc h R) : CallsH Tryz.prog 257 (TVs.vals []) h R := via ctx_ok Tryz.func257 (by kernel_rfl) H

def sha_keys_vc (h : Heap) (R : Value → Heap → Prop) : Prop := Vc.Bind (newTV h (.words IntKind.u32 64 (Ws.zero 64)) 293) fun h_1 ↦ wok h_1 h.size 0 64 ∧ Vc.Bind (TV.put h_1 h.size 0 (.words IntKind.u32 64 (Ws.set (Ws.set (Ws.set (Ws.set (Ws.set (Ws.set (Ws.set (Ws.set (Ws.set (Ws.set (Ws.set (Ws.set (Ws.set (Ws.set (Ws.set (Ws.set (Ws.set (Ws.set (Ws.set (Ws.set (Ws.set (Ws.set (Ws.set (Ws.set (Ws.set (Ws.set (Ws.set (Ws.set (Ws.set (Ws.set (Ws.set (Ws.set (Ws.set (Ws.set (Ws.set (Ws.set (Ws.set (Ws.set (Ws.set (Ws.set (Ws.set (Ws.set (Ws.set (Ws.set (Ws.set (Ws.set (Ws.set (Ws.set (Ws.set (Ws.set (Ws.set (Ws.set (Ws.set (Ws.set (Ws.set (Ws.set (Ws.set (Ws.set (Ws.set (Ws.set (Ws.set (Ws.set (Ws.set (Ws.set (Ws.zero 64) 0 1116352408) 1 1899447441) 2 3049323471) 3 3921009573) 4 961987163) 5 1508970993) 6 2453635748) 7 2870763221) 8 3624381080) 9 310598401) 10 607225278) 11 1426881987) 12 1925078388) 13 2162078206) 14 2614888103) 15 3248222580) 16 3835390401) 17 4022224774) 18 264347078) 19 604807628) 20 770255983) 21 1249150122) 22 1555081692) 23 1996064986) 24 2554220882) 25 2821834349) 26 2952996808) 27 3210313671) 28 3336571891) 29 3584528711) 30 113926993) 31 338241895) 32 666307205) 33 773529912) 34 1294757372) 35 1396182291) 36 1695183700) 37 1986661051) 38 2177026350) 39 2456956037) 40 2730485921) 41 2820302411) 42 3259730800) 43 3345764771) 44 3516065817) 45 3600352804) 46 4094571909) 47 275423344) 48 430227734) 49 506948616) 50 659060556) 51 883997877) 52 958139571) 53 1322822218) 54 1537002063) 55 1747873779) 56 1955562222) 57 2024104815) 58 2227730452) 59 2361852424) 60 2428436474) 61 2756734187) 62 3204031479) 63 3329325298))) fun h_2 ↦ ∃ (w : Ws 64), atWords h_2 h.size 0 IntKind.u32 64 w ∧ R (TV.val (.words IntKind.u32 64 w)) h_2
theorem sha_keys_calls (h : Heap) (R : Value → Heap → Prop) (H : sha_keys_vc h R) : CallsH Tryz.prog 326 (TVs.vals []) h R := via ctx_ok Tryz.func326 (by kernel_rfl) H

def sha_lay_vc (b : Sl) (h : Heap) (R : Value → Heap → Prop) : Prop := Vc.Bind (newTV h (.words IntKind.u32 64 (Ws.zero 64)) 293) fun h_1 ↦ Vc.Bind (newTV h_1 (.words IntKind.u32 64 (Ws.zero 64)) 293) fun h_2 ↦ Go.Vc.Loop (0 : Int) h_2 fun (s : Int) (h_3 : Array Obj) (K : Int → Array Obj → Prop) ↦ If (decide (s < 16)) (0 ≤ IntKind.wrap .i64 (4 * s) ∧ IntKind.wrap .i64 (4 * s) < (↑b.len : Int) ∧ Nn b.a fun l ↦ ∃ (n : Int), at1 h_3 l.b (l.o + Int.toNat (IntKind.wrap .i64 (4 * s)) * 1) (.int .u8 n) ∧ (0 : Int) ≤ 24 ∧ 0 ≤ IntKind.wrap .i64 (IntKind.wrap .i64 (4 * s) + 1) ∧ IntKind.wrap .i64 (IntKind.wrap .i64 (4 * s) + 1) < (↑b.len : Int) ∧ Nn b.a fun l ↦ ∃ (n_1 : Int), at1 h_3 l.b (l.o + Int.toNat (IntKind.wrap .i64 (IntKind.wrap .i64 (4 * s) + 1)) * 1) (.int .u8 n_1) ∧ (0 : Int) ≤ 16 ∧ 0 ≤ IntKind.wrap .i64 (IntKind.wrap .i64 (4 * s) + 2) ∧ IntKind.wrap .i64 (IntKind.wrap .i64 (4 * s) + 2) < (↑b.len : Int) ∧ Nn b.a fun l ↦ ∃ (n_2 : Int), at1 h_3 l.b (l.o + Int.toNat (IntKind.wrap .i64 (IntKind.wrap .i64 (4 * s) + 2)) * 1) (.int .u8 n_2) ∧ (0 : Int) ≤ 8 ∧ 0 ≤ IntKind.wrap .i64 (IntKind.wrap .i64 (4 * s) + 3) ∧ IntKind.wrap .i64 (IntKind.wrap .i64 (4 * s) + 3) < (↑b.len : Int) ∧ Nn b.a fun l ↦ ∃ (n_3 : Int), at1 h_3 l.b (l.o + Int.toNat (IntKind.wrap .i64 (IntKind.wrap .i64 (4 * s) + 3)) * 1) (.int .u8 n_3) ∧ 0 ≤ s ∧ s < (↑64 : Int) ∧ wok h_3 h_1.size (0 + Int.toNat s * 1) 1 ∧ Vc.Bind (TV.put h_3 h_1.size (0 + Int.toNat s * 1) (.int .u32 (IntKind.wrap .u32 (↑(BitVec.toNat (BitVec.ofInt (IntKind.bits .u32) (IntKind.wrap .u32 (↑(BitVec.toNat (BitVec.ofInt (IntKind.bits .u32) (IntKind.wrap .u32 (↑(BitVec.toNat (BitVec.ofInt (IntKind.bits .u32) (IntKind.wrap .u32 (IntKind.wrap .u32 n * (2 : Int) ^ min (Int.toNat 24) (IntKind.bits .u32))) ||| BitVec.ofInt (IntKind.bits .u32) (IntKind.wrap .u32 (IntKind.wrap .u32 n_1 * (2 : Int) ^ min (Int.toNat 16) (IntKind.bits .u32))))) : Int)) ||| BitVec.ofInt (IntKind.bits .u32) (IntKind.wrap .u32 (IntKind.wrap .u32 n_2 * (2 : Int) ^ min (Int.toNat 8) (IntKind.bits .u32))))) : Int)) ||| BitVec.ofInt (IntKind.bits .u32) (IntKind.wrap .u32 n_3))) : Int)))) fun h ↦ K (IntKind.wrap .i64 (s + 1)) h) (Go.Vc.Loop (16 : Int) h_3 fun (s : Int) (h_4 : Array Obj) (K : Int → Array Obj → Prop) ↦ If (decide (s < 64)) (0 ≤ IntKind.wrap .i64 (s - 15) ∧ IntKind.wrap .i64 (s - 15) < (↑64 : Int) ∧ ∃ (n : Int), at1 h_4 h_1.size (0 + Int.toNat (IntKind.wrap .i64 (s - 15)) * 1) (.int .u32 n) ∧ 0 ≤ IntKind.wrap .i64 (s - 2) ∧ IntKind.wrap .i64 (s - 2) < (↑64 : Int) ∧ ∃ (n_1 : Int), at1 h_4 h_1.size (0 + Int.toNat (IntKind.wrap .i64 (s - 2)) * 1) (.int .u32 n_1) ∧ 0 ≤ IntKind.wrap .i64 (s - 16) ∧ IntKind.wrap .i64 (s - 16) < (↑64 : Int) ∧ ∃ (n_2 : Int), at1 h_4 h_1.size (0 + Int.toNat (IntKind.wrap .i64 (s - 16)) * 1) (.int .u32 n_2) ∧ (0 : Int) ≤ 3 ∧ 0 ≤ IntKind.wrap .i64 (s - 7) ∧ IntKind.wrap .i64 (s - 7) < (↑64 : Int) ∧ ∃ (n_3 : Int), at1 h_4 h_1.size (0 + Int.toNat (IntKind.wrap .i64 (s - 7)) * 1) (.int .u32 n_3) ∧ (0 : Int) ≤ 10 ∧ CallsH Tryz.prog 327 (TVs.vals [.int .u32 n, .int .i64 7]) h_4 fun v h ↦ ∃ (n_4 : Int), v = TV.val (.int .u32 n_4) ∧ Ext h_4 h ∧ CallsH Tryz.prog 327 (TVs.vals [.int .u32 n, .int .i64 18]) h fun v h_5 ↦ ∃ (n_5 : Int), v = TV.val (.int .u32 n_5) ∧ Ext h h_5 ∧ CallsH Tryz.prog 327 (TVs.vals [.int .u32 n_1, .int .i64 17]) h_5 fun v h ↦ ∃ (n_6 : Int), v = TV.val (.int .u32 n_6) ∧ Ext h_5 h ∧ CallsH Tryz.prog 327 (TVs.vals [.int .u32 n_1, .int .i64 19]) h fun v h_6 ↦ ∃ (n_7 : Int), v = TV.val (.int .u32 n_7) ∧ Ext h h_6 ∧ 0 ≤ s ∧ s < (↑64 : Int) ∧ wok h_6 h_1.size (0 + Int.toNat s * 1) 1 ∧ Vc.Bind (TV.put h_6 h_1.size (0 + Int.toNat s * 1) (.int .u32 (IntKind.wrap .u32 (IntKind.wrap .u32 (IntKind.wrap .u32 (n_2 + IntKind.wrap .u32 (↑(BitVec.toNat (BitVec.ofInt (IntKind.bits .u32) (IntKind.wrap .u32 (↑(BitVec.toNat (BitVec.ofInt (IntKind.bits .u32) n_4 ^^^ BitVec.ofInt (IntKind.bits .u32) n_5)) : Int)) ^^^ BitVec.ofInt (IntKind.bits .u32) (Int.fdiv n ((2 : Int) ^ min (Int.toNat 3) (IntKind.bits .u32))))) : Int)) + n_3) + IntKind.wrap .u32 (↑(BitVec.toNat (BitVec.ofInt (IntKind.bits .u32) (IntKind.wrap .u32 (↑(BitVec.toNat (BitVec.ofInt (IntKind.bits .u32) n_6 ^^^ BitVec.ofInt (IntKind.bits .u32) n_7)) : Int)) ^^^ BitVec.ofInt (IntKind.bits .u32) (Int.fdiv n_1 ((2 : Int) ^ min (Int.toNat 10) (IntKind.bits .u32))))) : Int))))) fun h ↦ K (IntKind.wrap .i64 (s + 1)) h) (∃ (w : Ws 64), atWords h_4 h_1.size 0 IntKind.u32 64 w ∧ wok h_4 h.size 0 64 ∧ Vc.Bind (TV.put h_4 h.size 0 (.words IntKind.u32 64 w)) fun h_5 ↦ ∃ (w : Ws 64), atWords h_5 h.size 0 IntKind.u32 64 w ∧ R (TV.val (.words IntKind.u32 64 w)) h_5))
theorem sha_lay_calls (b : Sl) (h : Heap) (R : Value → Heap → Prop) (H : sha_lay_vc b h R) : CallsH Tryz.prog 325 (TVs.vals [.slice b]) h R := via ctx_ok Tryz.func325 (by kernel_rfl) H

def sha_state_take_vc (s_ : Option Go.Vc.Loc) (b : Sl) (h : Heap) (R : Value → Heap → Prop) : Prop := Join (fun (s : Option Go.Vc.Loc × Option Go.Vc.Loc × Option Go.Vc.Loc) (h : Array Obj) ↦ Go.Vc.Loop (0 : Int) h fun (s_1 : Int) (h : Array Obj) (K : Int → Array Obj → Prop) ↦ If (decide (s_1 < 64)) ((0 : Int) ≤ 0 ∧ 0 < (↑8 : Int) ∧ Nn s.snd.snd fun l ↦ ∃ (n : Int), at1 h l.b (l.o + Int.toNat 0 * 1) (.int .u32 n) ∧ (0 : Int) ≤ 4 ∧ 4 < (↑8 : Int) ∧ Nn s.snd.snd fun l ↦ ∃ (n_1 : Int), at1 h l.b (l.o + Int.toNat 4 * 1) (.int .u32 n_1) ∧ (0 : Int) ≤ 7 ∧ 7 < (↑8 : Int) ∧ Nn s.snd.snd fun l ↦ ∃ (n_2 : Int), at1 h l.b (l.o + Int.toNat 7 * 1) (.int .u32 n_2) ∧ (0 : Int) ≤ 5 ∧ 5 < (↑8 : Int) ∧ Nn s.snd.snd fun l ↦ ∃ (n_3 : Int), at1 h l.b (l.o + Int.toNat 5 * 1) (.int .u32 n_3) ∧ (0 : Int) ≤ 6 ∧ 6 < (↑8 : Int) ∧ Nn s.snd.snd fun l ↦ ∃ (n_4 : Int), at1 h l.b (l.o + Int.toNat 6 * 1) (.int .u32 n_4) ∧ 0 ≤ s_1 ∧ s_1 < (↑64 : Int) ∧ Nn s.snd.fst fun l ↦ ∃ (n_5 : Int), at1 h l.b (l.o + Int.toNat s_1 * 1) (.int .u32 n_5) ∧ 0 ≤ s_1 ∧ s_1 < (↑64 : Int) ∧ Nn s.fst fun l ↦ ∃ (n_6 : Int), at1 h l.b (l.o + Int.toNat s_1 * 1) (.int .u32 n_6) ∧ CallsH Tryz.prog 327 (TVs.vals [.int .u32 n_1, .int .i64 6]) h fun v h_1 ↦ ∃ (n_7 : Int), v = TV.val (.int .u32 n_7) ∧ Ext h h_1 ∧ CallsH Tryz.prog 327 (TVs.vals [.int .u32 n_1, .int .i64 11]) h_1 fun v h ↦ ∃ (n_8 : Int), v = TV.val (.int .u32 n_8) ∧ Ext h_1 h ∧ CallsH Tryz.prog 327 (TVs.vals [.int .u32 n_1, .int .i64 25]) h fun v h_2 ↦ ∃ (n_9 : Int), v = TV.val (.int .u32 n_9) ∧ Ext h h_2 ∧ (0 : Int) ≤ 1 ∧ 1 < (↑8 : Int) ∧ Nn s.snd.snd fun l ↦ ∃ (n_10 : Int), at1 h_2 l.b (l.o + Int.toNat 1 * 1) (.int .u32 n_10) ∧ (0 : Int) ≤ 2 ∧ 2 < (↑8 : Int) ∧ Nn s.snd.snd fun l ↦ ∃ (n_11 : Int), at1 h_2 l.b (l.o + Int.toNat 2 * 1) (.int .u32 n_11) ∧ (0 : Int) ≤ 1 ∧ 1 < (↑8 : Int) ∧ Nn s.snd.snd fun l ↦ ∃ (n_12 : Int), at1 h_2 l.b (l.o + Int.toNat 1 * 1) (.int .u32 n_12) ∧ (0 : Int) ≤ 2 ∧ 2 < (↑8 : Int) ∧ Nn s.snd.snd fun l ↦ ∃ (n_13 : Int), at1 h_2 l.b (l.o + Int.toNat 2 * 1) (.int .u32 n_13) ∧ CallsH Tryz.prog 327 (TVs.vals [.int .u32 n, .int .i64 2]) h_2 fun v h ↦ ∃ (n_14 : Int), v = TV.val (.int .u32 n_14) ∧ Ext h_2 h ∧ CallsH Tryz.prog 327 (TVs.vals [.int .u32 n, .int .i64 13]) h fun v h_3 ↦ ∃ (n_15 : Int), v = TV.val (.int .u32 n_15) ∧ Ext h h_3 ∧ CallsH Tryz.prog 327 (TVs.vals [.int .u32 n, .int .i64 22]) h_3 fun v h ↦ ∃ (n_16 : Int), v = TV.val (.int .u32 n_16) ∧ Ext h_3 h ∧ Nn s.snd.snd fun l ↦ (0 : Int) ≤ 1 ∧ 1 ≤ (↑8 : Int) ∧ Nn s.snd.snd fun l_1 ↦ (0 : Int) ≤ 7 ∧ 7 ≤ (↑8 : Int) ∧ ∃ (new : List Value), slAt h (Sl.mk (cutSl (Sl.mk (some l_1) 8 8) 0 (Int.toNat 7) 1).a (Nat.min (cutSl (Sl.mk (some l_1) 8 8) 0 (Int.toNat 7) 1).len (cutSl (Sl.mk (some l) 8 8) (Int.toNat 1) 8 1).len) (Nat.min (cutSl (Sl.mk (some l_1) 8 8) 0 (Int.toNat 7) 1).len (cutSl (Sl.mk (some l) 8 8) (Int.toNat 1) 8 1).len)) 1 new ∧ (∀ (v : Value), v ∈ new → isOne v = true) ∧ ((cutSl (Sl.mk (some l) 8 8) (Int.toNat 1) 8 1).a = none → (0 : Int) ≤ 4 ∧ 4 < (↑8 : Int) ∧ Nn s.snd.snd fun l ↦ ∃ (n_17 : Int), at1 h l.b (l.o + Int.toNat 4 * 1) (.int .u32 n_17) ∧ (0 : Int) ≤ 4 ∧ 4 < (↑8 : Int) ∧ Nn s.snd.snd fun l ↦ wok h l.b (l.o + Int.toNat 4 * 1) 1 ∧ Vc.Bind (TV.put h l.b (l.o + Int.toNat 4 * 1) (.int .u32 (IntKind.wrap .u32 (n_17 + IntKind.wrap .u32 (IntKind.wrap .u32 (IntKind.wrap .u32 (IntKind.wrap .u32 (n_2 + IntKind.wrap .u32 (↑(BitVec.toNat (BitVec.ofInt (IntKind.bits .u32) (IntKind.wrap .u32 (↑(BitVec.toNat (BitVec.ofInt (IntKind.bits .u32) n_7 ^^^ BitVec.ofInt (IntKind.bits .u32) n_8)) : Int)) ^^^ BitVec.ofInt (IntKind.bits .u32) n_9)) : Int)) + IntKind.wrap .u32 (↑(BitVec.toNat (BitVec.ofInt (IntKind.bits .u32) (IntKind.wrap .u32 (↑(BitVec.toNat (BitVec.ofInt (IntKind.bits .u32) n_1 &&& BitVec.ofInt (IntKind.bits .u32) n_3)) : Int)) ^^^ BitVec.ofInt (IntKind.bits .u32) (IntKind.wrap .u32 (↑(BitVec.toNat (BitVec.ofInt (IntKind.bits .u32) (IntKind.wrap .u32 (↑(BitVec.toNat (BitVec.ofInt (IntKind.bits .u32) (if IntKind.signed IntKind.u32 = true then (-1) else IntKind.max IntKind.u32) ^^^ BitVec.ofInt (IntKind.bits .u32) n_1)) : Int)) &&& BitVec.ofInt (IntKind.bits .u32) n_4)) : Int)))) : Int)) + n_5) + n_6))))) fun h ↦ (0 : Int) ≤ 0 ∧ 0 < (↑8 : Int) ∧ Nn s.snd.snd fun l ↦ wok h l.b (l.o + Int.toNat 0 * 1) 1 ∧ Vc.Bind (TV.put h l.b (l.o + Int.toNat 0 * 1) (.int .u32 (IntKind.wrap .u32 (IntKind.wrap .u32 (IntKind.wrap .u32 (IntKind.wrap .u32 (IntKind.wrap .u32 (n_2 + IntKind.wrap .u32 (↑(BitVec.toNat (BitVec.ofInt (IntKind.bits .u32) (IntKind.wrap .u32 (↑(BitVec.toNat (BitVec.ofInt (IntKind.bits .u32) n_7 ^^^ BitVec.ofInt (IntKind.bits .u32) n_8)) : Int)) ^^^ BitVec.ofInt (IntKind.bits .u32) n_9)) : Int)) + IntKind.wrap .u32 (↑(BitVec.toNat (BitVec.ofInt (IntKind.bits .u32) (IntKind.wrap .u32 (↑(BitVec.toNat (BitVec.ofInt (IntKind.bits .u32) n_1 &&& BitVec.ofInt (IntKind.bits .u32) n_3)) : Int)) ^^^ BitVec.ofInt (IntKind.bits .u32) (IntKind.wrap .u32 (↑(BitVec.toNat (BitVec.ofInt (IntKind.bits .u32) (IntKind.wrap .u32 (↑(BitVec.toNat (BitVec.ofInt (IntKind.bits .u32) (if IntKind.signed IntKind.u32 = true then (-1) else IntKind.max IntKind.u32) ^^^ BitVec.ofInt (IntKind.bits .u32) n_1)) : Int)) &&& BitVec.ofInt (IntKind.bits .u32) n_4)) : Int)))) : Int)) + n_5) + n_6) + IntKind.wrap .u32 (IntKind.wrap .u32 (↑(BitVec.toNat (BitVec.ofInt (IntKind.bits .u32) (IntKind.wrap .u32 (↑(BitVec.toNat (BitVec.ofInt (IntKind.bits .u32) n_14 ^^^ BitVec.ofInt (IntKind.bits .u32) n_15)) : Int)) ^^^ BitVec.ofInt (IntKind.bits .u32) n_16)) : Int) + IntKind.wrap .u32 (↑(BitVec.toNat (BitVec.ofInt (IntKind.bits .u32) (IntKind.wrap .u32 (↑(BitVec.toNat (BitVec.ofInt (IntKind.bits .u32) (IntKind.wrap .u32 (↑(BitVec.toNat (BitVec.ofInt (IntKind.bits .u32) n &&& BitVec.ofInt (IntKind.bits .u32) n_10)) : Int)) ^^^ BitVec.ofInt (IntKind.bits .u32) (IntKind.wrap .u32 (↑(BitVec.toNat (BitVec.ofInt (IntKind.bits .u32) n &&& BitVec.ofInt (IntKind.bits .u32) n_11)) : Int)))) : Int)) ^^^ BitVec.ofInt (IntKind.bits .u32) (IntKind.wrap .u32 (↑(BitVec.toNat (BitVec.ofInt (IntKind.bits .u32) n_12 &&& BitVec.ofInt (IntKind.bits .u32) n_13)) : Int)))) : Int)))))) fun h ↦ K (IntKind.wrap .i64 (s_1 + 1)) h) ∧ ∀ (l_2 : Go.Vc.Loc), (cutSl (Sl.mk (some l) 8 8) (Int.toNat 1) 8 1).a = some l_2 → wok h l_2.b l_2.o (List.length new) ∧ Vc.Bind (putl h l_2.b l_2.o new) fun h ↦ (0 : Int) ≤ 4 ∧ 4 < (↑8 : Int) ∧ Nn s.snd.snd fun l ↦ ∃ (n_17 : Int), at1 h l.b (l.o + Int.toNat 4 * 1) (.int .u32 n_17) ∧ (0 : Int) ≤ 4 ∧ 4 < (↑8 : Int) ∧ Nn s.snd.snd fun l ↦ wok h l.b (l.o + Int.toNat 4 * 1) 1 ∧ Vc.Bind (TV.put h l.b (l.o + Int.toNat 4 * 1) (.int .u32 (IntKind.wrap .u32 (n_17 + IntKind.wrap .u32 (IntKind.wrap .u32 (IntKind.wrap .u32 (IntKind.wrap .u32 (n_2 + IntKind.wrap .u32 (↑(BitVec.toNat (BitVec.ofInt (IntKind.bits .u32) (IntKind.wrap .u32 (↑(BitVec.toNat (BitVec.ofInt (IntKind.bits .u32) n_7 ^^^ BitVec.ofInt (IntKind.bits .u32) n_8)) : Int)) ^^^ BitVec.ofInt (IntKind.bits .u32) n_9)) : Int)) + IntKind.wrap .u32 (↑(BitVec.toNat (BitVec.ofInt (IntKind.bits .u32) (IntKind.wrap .u32 (↑(BitVec.toNat (BitVec.ofInt (IntKind.bits .u32) n_1 &&& BitVec.ofInt (IntKind.bits .u32) n_3)) : Int)) ^^^ BitVec.ofInt (IntKind.bits .u32) (IntKind.wrap .u32 (↑(BitVec.toNat (BitVec.ofInt (IntKind.bits .u32) (IntKind.wrap .u32 (↑(BitVec.toNat (BitVec.ofInt (IntKind.bits .u32) (if IntKind.signed IntKind.u32 = true then (-1) else IntKind.max IntKind.u32) ^^^ BitVec.ofInt (IntKind.bits .u32) n_1)) : Int)) &&& BitVec.ofInt (IntKind.bits .u32) n_4)) : Int)))) : Int)) + n_5) + n_6))))) fun h ↦ (0 : Int) ≤ 0 ∧ 0 < (↑8 : Int) ∧ Nn s.snd.snd fun l ↦ wok h l.b (l.o + Int.toNat 0 * 1) 1 ∧ Vc.Bind (TV.put h l.b (l.o + Int.toNat 0 * 1) (.int .u32 (IntKind.wrap .u32 (IntKind.wrap .u32 (IntKind.wrap .u32 (IntKind.wrap .u32 (IntKind.wrap .u32 (n_2 + IntKind.wrap .u32 (↑(BitVec.toNat (BitVec.ofInt (IntKind.bits .u32) (IntKind.wrap .u32 (↑(BitVec.toNat (BitVec.ofInt (IntKind.bits .u32) n_7 ^^^ BitVec.ofInt (IntKind.bits .u32) n_8)) : Int)) ^^^ BitVec.ofInt (IntKind.bits .u32) n_9)) : Int)) + IntKind.wrap .u32 (↑(BitVec.toNat (BitVec.ofInt (IntKind.bits .u32) (IntKind.wrap .u32 (↑(BitVec.toNat (BitVec.ofInt (IntKind.bits .u32) n_1 &&& BitVec.ofInt (IntKind.bits .u32) n_3)) : Int)) ^^^ BitVec.ofInt (IntKind.bits .u32) (IntKind.wrap .u32 (↑(BitVec.toNat (BitVec.ofInt (IntKind.bits .u32) (IntKind.wrap .u32 (↑(BitVec.toNat (BitVec.ofInt (IntKind.bits .u32) (if IntKind.signed IntKind.u32 = true then (-1) else IntKind.max IntKind.u32) ^^^ BitVec.ofInt (IntKind.bits .u32) n_1)) : Int)) &&& BitVec.ofInt (IntKind.bits .u32) n_4)) : Int)))) : Int)) + n_5) + n_6) + IntKind.wrap .u32 (IntKind.wrap .u32 (↑(BitVec.toNat (BitVec.ofInt (IntKind.bits .u32) (IntKind.wrap .u32 (↑(BitVec.toNat (BitVec.ofInt (IntKind.bits .u32) n_14 ^^^ BitVec.ofInt (IntKind.bits .u32) n_15)) : Int)) ^^^ BitVec.ofInt (IntKind.bits .u32) n_16)) : Int) + IntKind.wrap .u32 (↑(BitVec.toNat (BitVec.ofInt (IntKind.bits .u32) (IntKind.wrap .u32 (↑(BitVec.toNat (BitVec.ofInt (IntKind.bits .u32) (IntKind.wrap .u32 (↑(BitVec.toNat (BitVec.ofInt (IntKind.bits .u32) n &&& BitVec.ofInt (IntKind.bits .u32) n_10)) : Int)) ^^^ BitVec.ofInt (IntKind.bits .u32) (IntKind.wrap .u32 (↑(BitVec.toNat (BitVec.ofInt (IntKind.bits .u32) n &&& BitVec.ofInt (IntKind.bits .u32) n_11)) : Int)))) : Int)) ^^^ BitVec.ofInt (IntKind.bits .u32) (IntKind.wrap .u32 (↑(BitVec.toNat (BitVec.ofInt (IntKind.bits .u32) n_12 &&& BitVec.ofInt (IntKind.bits .u32) n_13)) : Int)))) : Int)))))) fun h ↦ K (IntKind.wrap .i64 (s_1 + 1)) h) (Go.Vc.Loop (0 : Int) h fun (s_2 : Int) (h : Array Obj) (K : Int → Array Obj → Prop) ↦ If (decide (s_2 < 8)) (Nn s_ fun l ↦ 0 ≤ s_2 ∧ s_2 < (↑8 : Int) ∧ ∃ (n : Int), at1 h l.b (l.o + Int.toNat s_2 * 1) (.int .u32 n) ∧ 0 ≤ s_2 ∧ s_2 < (↑8 : Int) ∧ Nn s.snd.snd fun l ↦ ∃ (n_1 : Int), at1 h l.b (l.o + Int.toNat s_2 * 1) (.int .u32 n_1) ∧ Nn s_ fun l ↦ 0 ≤ s_2 ∧ s_2 < (↑8 : Int) ∧ wok h l.b (l.o + Int.toNat s_2 * 1) 1 ∧ Vc.Bind (TV.put h l.b (l.o + Int.toNat s_2 * 1) (.int .u32 (IntKind.wrap .u32 (n + n_1)))) fun h ↦ K (IntKind.wrap .i64 (s_2 + 1)) h) (R (TV.val (.tup [])) h))) fun (J : Option Go.Vc.Loc × Option Go.Vc.Loc × Option Go.Vc.Loc → Array Obj → Prop) ↦ Nn s_ fun l ↦ ∃ (w : Ws 8), atWords h l.b l.o IntKind.u32 8 w ∧ (CallsH Tryz.prog 325 (TVs.vals [.slice b]) h fun (v : Value) (h_1 : Heap) ↦ ∃ (w_1 : Ws 64), v = TV.val (.words IntKind.u32 64 w_1) ∧ Ext h h_1 ∧ (CallsH Tryz.prog 326 (TVs.vals []) h_1 fun (v : Value) (h_2 : Heap) ↦ ∃ (w_2 : Ws 64), v = TV.val (.words IntKind.u32 64 w_2) ∧ Ext h h_2 ∧ (Vc.Bind (newTV h_2 (.words IntKind.u32 64 (Ws.zero 64)) 293) fun h_3 ↦ Ext h h_3 ∧ (Vc.Bind (newTV h_3 (.words IntKind.u32 64 (Ws.zero 64)) 293) fun h_4 ↦ Ext h h_4 ∧ Vc.Bind (newTV h_4 (.words IntKind.u32 8 (Ws.zero 8)) 289) fun h_5 ↦ Ext h h_5 ∧ wok h_5 h_2.size 0 64 ∧ Vc.Bind (TV.put h_5 h_2.size 0 (.words IntKind.u32 64 w_1)) fun h_6 ↦ Ext h h_6 ∧ wok h_6 h_3.size 0 64 ∧ Vc.Bind (TV.put h_6 h_3.size 0 (.words IntKind.u32 64 w_2)) fun h_7 ↦ Ext h h_7 ∧ wok h_7 h_4.size 0 8 ∧ Vc.Bind (TV.put h_7 h_4.size 0 (.words IntKind.u32 8 w)) fun h ↦ J (some (Loc.mk h_2.size 0), some (Loc.mk h_3.size 0), some (Loc.mk h_4.size 0)) h) ∧ Vc.Bind (newTV h_3 (.words IntKind.u32 8 (Ws.zero 8)) 289) fun h_4 ↦ Ext h h_4 ∧ Vc.Bind (newTV h_4 (.words IntKind.u32 64 (Ws.zero 64)) 293) fun h_5 ↦ Ext h h_5 ∧ wok h_5 h_2.size 0 64 ∧ Vc.Bind (TV.put h_5 h_2.size 0 (.words IntKind.u32 64 w_1)) fun h_6 ↦ Ext h h_6 ∧ wok h_6 h_4.size 0 64 ∧ Vc.Bind (TV.put h_6 h_4.size 0 (.words IntKind.u32 64 w_2)) fun h_7 ↦ Ext h h_7 ∧ wok h_7 h_3.size 0 8 ∧ Vc.Bind (TV.put h_7 h_3.size 0 (.words IntKind.u32 8 w)) fun h ↦ J (some (Loc.mk h_2.size 0), some (Loc.mk h_4.size 0), some (Loc.mk h_3.size 0)) h) ∧ (Vc.Bind (newTV h_2 (.words IntKind.u32 64 (Ws.zero 64)) 293) fun h_3 ↦ Ext h h_3 ∧ (Vc.Bind (newTV h_3 (.words IntKind.u32 64 (Ws.zero 64)) 293) fun h_4 ↦ Ext h h_4 ∧ Vc.Bind (newTV h_4 (.words IntKind.u32 8 (Ws.zero 8)) 289) fun h_5 ↦ Ext h h_5 ∧ wok h_5 h_3.size 0 64 ∧ Vc.Bind (TV.put h_5 h_3.size 0 (.words IntKind.u32 64 w_1)) fun h_6 ↦ Ext h h_6 ∧ wok h_6 h_2.size 0 64 ∧ Vc.Bind (TV.put h_6 h_2.size 0 (.words IntKind.u32 64 w_2)) fun h_7 ↦ Ext h h_7 ∧ wok h_7 h_4.size 0 8 ∧ Vc.Bind (TV.put h_7 h_4.size 0 (.words IntKind.u32 8 w)) fun h ↦ J (some (Loc.mk h_3.size 0), some (Loc.mk h_2.size 0), some (Loc.mk h_4.size 0)) h) ∧ Vc.Bind (newTV h_3 (.words IntKind.u32 8 (Ws.zero 8)) 289) fun h_4 ↦ Ext h h_4 ∧ Vc.Bind (newTV h_4 (.words IntKind.u32 64 (Ws.zero 64)) 293) fun h_5 ↦ Ext h h_5 ∧ wok h_5 h_4.size 0 64 ∧ Vc.Bind (TV.put h_5 h_4.size 0 (.words IntKind.u32 64 w_1)) fun h_6 ↦ Ext h h_6 ∧ wok h_6 h_2.size 0 64 ∧ Vc.Bind (TV.put h_6 h_2.size 0 (.words IntKind.u32 64 w_2)) fun h_7 ↦ Ext h h_7 ∧ wok h_7 h_3.size 0 8 ∧ Vc.Bind (TV.put h_7 h_3.size 0 (.words IntKind.u32 8 w)) fun h ↦ J (some (Loc.mk h_4.size 0), some (Loc.mk h_2.size 0), some (Loc.mk h_3.size 0)) h) ∧ Vc.Bind (newTV h_2 (.words IntKind.u32 8 (Ws.zero 8)) 289) fun h_3 ↦ Ext h h_3 ∧ (Vc.Bind (newTV h_3 (.words IntKind.u32 64 (Ws.zero 64)) 293) fun h_4 ↦ Ext h h_4 ∧ Vc.Bind (newTV h_4 (.words IntKind.u32 64 (Ws.zero 64)) 293) fun h_5 ↦ Ext h h_5 ∧ wok h_5 h_3.size 0 64 ∧ Vc.Bind (TV.put h_5 h_3.size 0 (.words IntKind.u32 64 w_1)) fun h_6 ↦ Ext h h_6 ∧ wok h_6 h_4.size 0 64 ∧ Vc.Bind (TV.put h_6 h_4.size 0 (.words IntKind.u32 64 w_2)) fun h_7 ↦ Ext h h_7 ∧ wok h_7 h_2.size 0 8 ∧ Vc.Bind (TV.put h_7 h_2.size 0 (.words IntKind.u32 8 w)) fun h ↦ J (some (Loc.mk h_3.size 0), some (Loc.mk h_4.size 0), some (Loc.mk h_2.size 0)) h) ∧ Vc.Bind (newTV h_3 (.words IntKind.u32 64 (Ws.zero 64)) 293) fun h_4 ↦ Ext h h_4 ∧ Vc.Bind (newTV h_4 (.words IntKind.u32 64 (Ws.zero 64)) 293) fun h_5 ↦ Ext h h_5 ∧ wok h_5 h_4.size 0 64 ∧ Vc.Bind (TV.put h_5 h_4.size 0 (.words IntKind.u32 64 w_1)) fun h_6 ↦ Ext h h_6 ∧ wok h_6 h_3.size 0 64 ∧ Vc.Bind (TV.put h_6 h_3.size 0 (.words IntKind.u32 64 w_2)) fun h_7 ↦ Ext h h_7 ∧ wok h_7 h_2.size 0 8 ∧ Vc.Bind (TV.put h_7 h_2.size 0 (.words IntKind.u32 8 w)) fun h ↦ J (some (Loc.mk h_4.size 0), some (Loc.mk h_3.size 0), some (Loc.mk h_2.size 0)) h) ∧ (Vc.Bind (newTV h_1 (.words IntKind.u32 64 (Ws.zero 64)) 293) fun h_2 ↦ Ext h h_2 ∧ (CallsH Tryz.prog 326 (TVs.vals []) h_2 fun v h_3 ↦ ∃ (w_2 : Ws 64), v = TV.val (.words IntKind.u32 64 w_2) ∧ Ext h h_3 ∧ (Vc.Bind (newTV h_3 (.words IntKind.u32 64 (Ws.zero 64)) 293) fun h_4 ↦ Ext h h_4 ∧ Vc.Bind (newTV h_4 (.words IntKind.u32 8 (Ws.zero 8)) 289) fun h_5 ↦ Ext h h_5 ∧ wok h_5 h_1.size 0 64 ∧ Vc.Bind (TV.put h_5 h_1.size 0 (.words IntKind.u32 64 w_1)) fun h_6 ↦ Ext h h_6 ∧ wok h_6 h_3.size 0 64 ∧ Vc.Bind (TV.put h_6 h_3.size 0 (.words IntKind.u32 64 w_2)) fun h_7 ↦ Ext h h_7 ∧ wok h_7 h_4.size 0 8 ∧ Vc.Bind (TV.put h_7 h_4.size 0 (.words IntKind.u32 8 w)) fun h ↦ J (some (Loc.mk h_1.size 0), some (Loc.mk h_3.size 0), some (Loc.mk h_4.size 0)) h) ∧ Vc.Bind (newTV h_3 (.words IntKind.u32 8 (Ws.zero 8)) 289) fun h_4 ↦ Ext h h_4 ∧ Vc.Bind (newTV h_4 (.words IntKind.u32 64 (Ws.zero 64)) 293) fun h_5 ↦ Ext h h_5 ∧ wok h_5 h_1.size 0 64 ∧ Vc.Bind (TV.put h_5 h_1.size 0 (.words IntKind.u32 64 w_1)) fun h_6 ↦ Ext h h_6 ∧ wok h_6 h_4.size 0 64 ∧ Vc.Bind (TV.put h_6 h_4.size 0 (.words IntKind.u32 64 w_2)) fun h_7 ↦ Ext h h_7 ∧ wok h_7 h_3.size 0 8 ∧ Vc.Bind (TV.put h_7 h_3.size 0 (.words IntKind.u32 8 w)) fun h ↦ J (some (Loc.mk h_1.size 0), some (Loc.mk h_4.size 0), some (Loc.mk h_3.size 0)) h) ∧ (Vc.Bind (newTV h_2 (.words IntKind.u32 64 (Ws.zero 64)) 293) fun h_3 ↦ Ext h h_3 ∧ (CallsH Tryz.prog 326 (TVs.vals []) h_3 fun v h_4 ↦ ∃ (w_2 : Ws 64), v = TV.val (.words IntKind.u32 64 w_2) ∧ Ext h h_4 ∧ Vc.Bind (newTV h_4 (.words IntKind.u32 8 (Ws.zero 8)) 289) fun h_5 ↦ Ext h h_5 ∧ wok h_5 h_1.size 0 64 ∧ Vc.Bind (TV.put h_5 h_1.size 0 (.words IntKind.u32 64 w_1)) fun h_6 ↦ Ext h h_6 ∧ wok h_6 h_2.size 0 64 ∧ Vc.Bind (TV.put h_6 h_2.size 0 (.words IntKind.u32 64 w_2)) fun h_7 ↦ Ext h h_7 ∧ wok h_7 h_4.size 0 8 ∧ Vc.Bind (TV.put h_7 h_4.size 0 (.words IntKind.u32 8 w)) fun h ↦ J (some (Loc.mk h_1.size 0), some (Loc.mk h_2.size 0), some (Loc.mk h_4.size 0)) h) ∧ Vc.Bind (newTV h_3 (.words IntKind.u32 8 (Ws.zero 8)) 289) fun h_4 ↦ Ext h h_4 ∧ CallsH Tryz.prog 326 (TVs.vals []) h_4 fun v h_5 ↦ ∃ (w_2 : Ws 64), v = TV.val (.words IntKind.u32 64 w_2) ∧ Ext h h_5 ∧ wok h_5 h_1.size 0 64 ∧ Vc.Bind (TV.put h_5 h_1.size 0 (.words IntKind.u32 64 w_1)) fun h_6 ↦ Ext h h_6 ∧ wok h_6 h_2.size 0 64 ∧ Vc.Bind (TV.put h_6 h_2.size 0 (.words IntKind.u32 64 w_2)) fun h_7 ↦ Ext h h_7 ∧ wok h_7 h_3.size 0 8 ∧ Vc.Bind (TV.put h_7 h_3.size 0 (.words IntKind.u32 8 w)) fun h ↦ J (some (Loc.mk h_1.size 0), some (Loc.mk h_2.size 0), some (Loc.mk h_3.size 0)) h) ∧ Vc.Bind (newTV h_2 (.words IntKind.u32 8 (Ws.zero 8)) 289) fun h_3 ↦ Ext h h_3 ∧ (CallsH Tryz.prog 326 (TVs.vals []) h_3 fun v h_4 ↦ ∃ (w_2 : Ws 64), v = TV.val (.words IntKind.u32 64 w_2) ∧ Ext h h_4 ∧ Vc.Bind (newTV h_4 (.words IntKind.u32 64 (Ws.zero 64)) 293) fun h_5 ↦ Ext h h_5 ∧ wok h_5 h_1.size 0 64 ∧ Vc.Bind (TV.put h_5 h_1.size 0 (.words IntKind.u32 64 w_1)) fun h_6 ↦ Ext h h_6 ∧ wok h_6 h_4.size 0 64 ∧ Vc.Bind (TV.put h_6 h_4.size 0 (.words IntKind.u32 64 w_2)) fun h_7 ↦ Ext h h_7 ∧ wok h_7 h_2.size 0 8 ∧ Vc.Bind (TV.put h_7 h_2.size 0 (.words IntKind.u32 8 w)) fun h ↦ J (some (Loc.mk h_1.size 0), some (Loc.mk h_4.size 0), some (Loc.mk h_2.size 0)) h) ∧ Vc.Bind (newTV h_3 (.words IntKind.u32 64 (Ws.zero 64)) 293) fun h_4 ↦ Ext h h_4 ∧ CallsH Tryz.prog 326 (TVs.vals []) h_4 fun v h_5 ↦ ∃ (w_2 : Ws 64), v = TV.val (.words IntKind.u32 64 w_2) ∧ Ext h h_5 ∧ wok h_5 h_1.size 0 64 ∧ Vc.Bind (TV.put h_5 h_1.size 0 (.words IntKind.u32 64 w_1)) fun h_6 ↦ Ext h h_6 ∧ wok h_6 h_3.size 0 64 ∧ Vc.Bind (TV.put h_6 h_3.size 0 (.words IntKind.u32 64 w_2)) fun h_7 ↦ Ext h h_7 ∧ wok h_7 h_2.size 0 8 ∧ Vc.Bind (TV.put h_7 h_2.size 0 (.words IntKind.u32 8 w)) fun h ↦ J (some (Loc.mk h_1.size 0), some (Loc.mk h_3.size 0), some (Loc.mk h_2.size 0)) h) ∧ (Vc.Bind (newTV h_1 (.words IntKind.u32 64 (Ws.zero 64)) 293) fun h_2 ↦ Ext h h_2 ∧ (CallsH Tryz.prog 326 (TVs.vals []) h_2 fun v h_3 ↦ ∃ (w_2 : Ws 64), v = TV.val (.words IntKind.u32 64 w_2) ∧ Ext h h_3 ∧ (Vc.Bind (newTV h_3 (.words IntKind.u32 64 (Ws.zero 64)) 293) fun h_4 ↦ Ext h h_4 ∧ Vc.Bind (newTV h_4 (.words IntKind.u32 8 (Ws.zero 8)) 289) fun h_5 ↦ Ext h h_5 ∧ wok h_5 h_3.size 0 64 ∧ Vc.Bind (TV.put h_5 h_3.size 0 (.words IntKind.u32 64 w_1)) fun h_6 ↦ Ext h h_6 ∧ wok h_6 h_1.size 0 64 ∧ Vc.Bind (TV.put h_6 h_1.size 0 (.words IntKind.u32 64 w_2)) fun h_7 ↦ Ext h h_7 ∧ wok h_7 h_4.size 0 8 ∧ Vc.Bind (TV.put h_7 h_4.size 0 (.words IntKind.u32 8 w)) fun h ↦ J (some (Loc.mk h_3.size 0), some (Loc.mk h_1.size 0), some (Loc.mk h_4.size 0)) h) ∧ Vc.Bind (newTV h_3 (.words IntKind.u32 8 (Ws.zero 8)) 289) fun h_4 ↦ Ext h h_4 ∧ Vc.Bind (newTV h_4 (.words IntKind.u32 64 (Ws.zero 64)) 293) fun h_5 ↦ Ext h h_5 ∧ wok h_5 h_4.size 0 64 ∧ Vc.Bind (TV.put h_5 h_4.size 0 (.words IntKind.u32 64 w_1)) fun h_6 ↦ Ext h h_6 ∧ wok h_6 h_1.size 0 64 ∧ Vc.Bind (TV.put h_6 h_1.size 0 (.words IntKind.u32 64 w_2)) fun h_7 ↦ Ext h h_7 ∧ wok h_7 h_3.size 0 8 ∧ Vc.Bind (TV.put h_7 h_3.size 0 (.words IntKind.u32 8 w)) fun h ↦ J (some (Loc.mk h_4.size 0), some (Loc.mk h_1.size 0), some (Loc.mk h_3.size 0)) h) ∧ (Vc.Bind (newTV h_2 (.words IntKind.u32 64 (Ws.zero 64)) 293) fun h_3 ↦ Ext h h_3 ∧ (CallsH Tryz.prog 326 (TVs.vals []) h_3 fun v h_4 ↦ ∃ (w_2 : Ws 64), v = TV.val (.words IntKind.u32 64 w_2) ∧ Ext h h_4 ∧ Vc.Bind (newTV h_4 (.words IntKind.u32 8 (Ws.zero 8)) 289) fun h_5 ↦ Ext h h_5 ∧ wok h_5 h_2.size 0 64 ∧ Vc.Bind (TV.put h_5 h_2.size 0 (.words IntKind.u32 64 w_1)) fun h_6 ↦ Ext h h_6 ∧ wok h_6 h_1.size 0 64 ∧ Vc.Bind (TV.put h_6 h_1.size 0 (.words IntKind.u32 64 w_2)) fun h_7 ↦ Ext h h_7 ∧ wok h_7 h_4.size 0 8 ∧ Vc.Bind (TV.put h_7 h_4.size 0 (.words IntKind.u32 8 w)) fun h ↦ J (some (Loc.mk h_2.size 0), some (Loc.mk h_1.size 0), some (Loc.mk h_4.size 0)) h) ∧ Vc.Bind (newTV h_3 (.words IntKind.u32 8 (Ws.zero 8)) 289) fun h_4 ↦ Ext h h_4 ∧ CallsH Tryz.prog 326 (TVs.vals []) h_4 fun v h_5 ↦ ∃ (w_2 : Ws 64), v = TV.val (.words IntKind.u32 64 w_2) ∧ Ext h h_5 ∧ wok h_5 h_2.size 0 64 ∧ Vc.Bind (TV.put h_5 h_2.size 0 (.words IntKind.u32 64 w_1)) fun h_6 ↦ Ext h h_6 ∧ wok h_6 h_1.size 0 64 ∧ Vc.Bind (TV.put h_6 h_1.size 0 (.words IntKind.u32 64 w_2)) fun h_7 ↦ Ext h h_7 ∧ wok h_7 h_3.size 0 8 ∧ Vc.Bind (TV.put h_7 h_3.size 0 (.words IntKind.u32 8 w)) fun h ↦ J (some (Loc.mk h_2.size 0), some (Loc.mk h_1.size 0), some (Loc.mk h_3.size 0)) h) ∧ Vc.Bind (newTV h_2 (.words IntKind.u32 8 (Ws.zero 8)) 289) fun h_3 ↦ Ext h h_3 ∧ (CallsH Tryz.prog 326 (TVs.vals []) h_3 fun v h_4 ↦ ∃ (w_2 : Ws 64), v = TV.val (.words IntKind.u32 64 w_2) ∧ Ext h h_4 ∧ Vc.Bind (newTV h_4 (.words IntKind.u32 64 (Ws.zero 64)) 293) fun h_5 ↦ Ext h h_5 ∧ wok h_5 h_4.size 0 64 ∧ Vc.Bind (TV.put h_5 h_4.size 0 (.words IntKind.u32 64 w_1)) fun h_6 ↦ Ext h h_6 ∧ wok h_6 h_1.size 0 64 ∧ Vc.Bind (TV.put h_6 h_1.size 0 (.words IntKind.u32 64 w_2)) fun h_7 ↦ Ext h h_7 ∧ wok h_7 h_2.size 0 8 ∧ Vc.Bind (TV.put h_7 h_2.size 0 (.words IntKind.u32 8 w)) fun h ↦ J (some (Loc.mk h_4.size 0), some (Loc.mk h_1.size 0), some (Loc.mk h_2.size 0)) h) ∧ Vc.Bind (newTV h_3 (.words IntKind.u32 64 (Ws.zero 64)) 293) fun h_4 ↦ Ext h h_4 ∧ CallsH Tryz.prog 326 (TVs.vals []) h_4 fun v h_5 ↦ ∃ (w_2 : Ws 64), v = TV.val (.words IntKind.u32 64 w_2) ∧ Ext h h_5 ∧ wok h_5 h_3.size 0 64 ∧ Vc.Bind (TV.put h_5 h_3.size 0 (.words IntKind.u32 64 w_1)) fun h_6 ↦ Ext h h_6 ∧ wok h_6 h_1.size 0 64 ∧ Vc.Bind (TV.put h_6 h_1.size 0 (.words IntKind.u32 64 w_2)) fun h_7 ↦ Ext h h_7 ∧ wok h_7 h_2.size 0 8 ∧ Vc.Bind (TV.put h_7 h_2.size 0 (.words IntKind.u32 8 w)) fun h ↦ J (some (Loc.mk h_3.size 0), some (Loc.mk h_1.size 0), some (Loc.mk h_2.size 0)) h) ∧ Vc.Bind (newTV h_1 (.words IntKind.u32 8 (Ws.zero 8)) 289) fun h_2 ↦ Ext h h_2 ∧ (CallsH Tryz.prog 326 (TVs.vals []) h_2 fun v h_3 ↦ ∃ (w_2 : Ws 64), v = TV.val (.words IntKind.u32 64 w_2) ∧ Ext h h_3 ∧ (Vc.Bind (newTV h_3 (.words IntKind.u32 64 (Ws.zero 64)) 293) fun h_4 ↦ Ext h h_4 ∧ Vc.Bind (newTV h_4 (.words IntKind.u32 64 (Ws.zero 64)) 293) fun h_5 ↦ Ext h h_5 ∧ wok h_5 h_3.size 0 64 ∧ Vc.Bind (TV.put h_5 h_3.size 0 (.words IntKind.u32 64 w_1)) fun h_6 ↦ Ext h h_6 ∧ wok h_6 h_4.size 0 64 ∧ Vc.Bind (TV.put h_6 h_4.size 0 (.words IntKind.u32 64 w_2)) fun h_7 ↦ Ext h h_7 ∧ wok h_7 h_1.size 0 8 ∧ Vc.Bind (TV.put h_7 h_1.size 0 (.words IntKind.u32 8 w)) fun h ↦ J (some (Loc.mk h_3.size 0), some (Loc.mk h_4.size 0), some (Loc.mk h_1.size 0)) h) ∧ Vc.Bind (newTV h_3 (.words IntKind.u32 64 (Ws.zero 64)) 293) fun h_4 ↦ Ext h h_4 ∧ Vc.Bind (newTV h_4 (.words IntKind.u32 64 (Ws.zero 64)) 293) fun h_5 ↦ Ext h h_5 ∧ wok h_5 h_4.size 0 64 ∧ Vc.Bind (TV.put h_5 h_4.size 0 (.words IntKind.u32 64 w_1)) fun h_6 ↦ Ext h h_6 ∧ wok h_6 h_3.size 0 64 ∧ Vc.Bind (TV.put h_6 h_3.size 0 (.words IntKind.u32 64 w_2)) fun h_7 ↦ Ext h h_7 ∧ wok h_7 h_1.size 0 8 ∧ Vc.Bind (TV.put h_7 h_1.size 0 (.words IntKind.u32 8 w)) fun h ↦ J (some (Loc.mk h_4.size 0), some (Loc.mk h_3.size 0), some (Loc.mk h_1.size 0)) h) ∧ (Vc.Bind (newTV h_2 (.words IntKind.u32 64 (Ws.zero 64)) 293) fun h_3 ↦ Ext h h_3 ∧ (CallsH Tryz.prog 326 (TVs.vals []) h_3 fun v h_4 ↦ ∃ (w_2 : Ws 64), v = TV.val (.words IntKind.u32 64 w_2) ∧ Ext h h_4 ∧ Vc.Bind (newTV h_4 (.words IntKind.u32 64 (Ws.zero 64)) 293) fun h_5 ↦ Ext h h_5 ∧ wok h_5 h_2.size 0 64 ∧ Vc.Bind (TV.put h_5 h_2.size 0 (.words IntKind.u32 64 w_1)) fun h_6 ↦ Ext h h_6 ∧ wok h_6 h_4.size 0 64 ∧ Vc.Bind (TV.put h_6 h_4.size 0 (.words IntKind.u32 64 w_2)) fun h_7 ↦ Ext h h_7 ∧ wok h_7 h_1.size 0 8 ∧ Vc.Bind (TV.put h_7 h_1.size 0 (.words IntKind.u32 8 w)) fun h ↦ J (some (Loc.mk h_2.size 0), some (Loc.mk h_4.size 0), some (Loc.mk h_1.size 0)) h) ∧ Vc.Bind (newTV h_3 (.words IntKind.u32 64 (Ws.zero 64)) 293) fun h_4 ↦ Ext h h_4 ∧ CallsH Tryz.prog 326 (TVs.vals []) h_4 fun v h_5 ↦ ∃ (w_2 : Ws 64), v = TV.val (.words IntKind.u32 64 w_2) ∧ Ext h h_5 ∧ wok h_5 h_2.size 0 64 ∧ Vc.Bind (TV.put h_5 h_2.size 0 (.words IntKind.u32 64 w_1)) fun h_6 ↦ Ext h h_6 ∧ wok h_6 h_3.size 0 64 ∧ Vc.Bind (TV.put h_6 h_3.size 0 (.words IntKind.u32 64 w_2)) fun h_7 ↦ Ext h h_7 ∧ wok h_7 h_1.size 0 8 ∧ Vc.Bind (TV.put h_7 h_1.size 0 (.words IntKind.u32 8 w)) fun h ↦ J (some (Loc.mk h_2.size 0), some (Loc.mk h_3.size 0), some (Loc.mk h_1.size 0)) h) ∧ Vc.Bind (newTV h_2 (.words IntKind.u32 64 (Ws.zero 64)) 293) fun h_3 ↦ Ext h h_3 ∧ (CallsH Tryz.prog 326 (TVs.vals []) h_3 fun v h_4 ↦ ∃ (w_2 : Ws 64), v = TV.val (.words IntKind.u32 64 w_2) ∧ Ext h h_4 ∧ Vc.Bind (newTV h_4 (.words IntKind.u32 64 (Ws.zero 64)) 293) fun h_5 ↦ Ext h h_5 ∧ wok h_5 h_4.size 0 64 ∧ Vc.Bind (TV.put h_5 h_4.size 0 (.words IntKind.u32 64 w_1)) fun h_6 ↦ Ext h h_6 ∧ wok h_6 h_2.size 0 64 ∧ Vc.Bind (TV.put h_6 h_2.size 0 (.words IntKind.u32 64 w_2)) fun h_7 ↦ Ext h h_7 ∧ wok h_7 h_1.size 0 8 ∧ Vc.Bind (TV.put h_7 h_1.size 0 (.words IntKind.u32 8 w)) fun h ↦ J (some (Loc.mk h_4.size 0), some (Loc.mk h_2.size 0), some (Loc.mk h_1.size 0)) h) ∧ Vc.Bind (newTV h_3 (.words IntKind.u32 64 (Ws.zero 64)) 293) fun h_4 ↦ Ext h h_4 ∧ CallsH Tryz.prog 326 (TVs.vals []) h_4 fun v h_5 ↦ ∃ (w_2 : Ws 64), v = TV.val (.words IntKind.u32 64 w_2) ∧ Ext h h_5 ∧ wok h_5 h_3.size 0 64 ∧ Vc.Bind (TV.put h_5 h_3.size 0 (.words IntKind.u32 64 w_1)) fun h_6 ↦ Ext h h_6 ∧ wok h_6 h_2.size 0 64 ∧ Vc.Bind (TV.put h_6 h_2.size 0 (.words IntKind.u32 64 w_2)) fun h_7 ↦ Ext h h_7 ∧ wok h_7 h_1.size 0 8 ∧ Vc.Bind (TV.put h_7 h_1.size 0 (.words IntKind.u32 8 w)) fun h ↦ J (some (Loc.mk h_3.size 0), some (Loc.mk h_2.size 0), some (Loc.mk h_1.size 0)) h) ∧ (Vc.Bind (newTV h (.words IntKind.u32 64 (Ws.zero 64)) 293) fun h_1 ↦ Ext h h_1 ∧ (CallsH Tryz.prog 325 (TVs.vals [.slice b]) h_1 fun v h_2 ↦ ∃ (w_1 : Ws 64), v = TV.val (.words IntKind.u32 64 w_1) ∧ Ext h h_2 ∧ (CallsH Tryz.prog 326 (TVs.vals []) h_2 fun v h_3 ↦ ∃ (w_2 : Ws 64), v = TV.val (.words IntKind.u32 64 w_2) ∧ Ext h h_3 ∧ (Vc.Bind (newTV h_3 (.words IntKind.u32 64 (Ws.zero 64)) 293) fun h_4 ↦ Ext h h_4 ∧ Vc.Bind (newTV h_4 (.words IntKind.u32 8 (Ws.zero 8)) 289) fun h_5 ↦ Ext h h_5 ∧ wok h_5 h.size 0 64 ∧ Vc.Bind (TV.put h_5 h.size 0 (.words IntKind.u32 64 w_1)) fun h_6 ↦ Ext h h_6 ∧ wok h_6 h_3.size 0 64 ∧ Vc.Bind (TV.put h_6 h_3.size 0 (.words IntKind.u32 64 w_2)) fun h_7 ↦ Ext h h_7 ∧ wok h_7 h_4.size 0 8 ∧ Vc.Bind (TV.put h_7 h_4.size 0 (.words IntKind.u32 8 w)) fun h_8 ↦ J (some (Loc.mk h.size 0), some (Loc.mk h_3.size 0), some (Loc.mk h_4.size 0)) h_8) ∧ Vc.Bind (newTV h_3 (.words IntKind.u32 8 (Ws.zero 8)) 289) fun h_4 ↦ Ext h h_4 ∧ Vc.Bind (newTV h_4 (.words IntKind.u32 64 (Ws.zero 64)) 293) fun h_5 ↦ Ext h h_5 ∧ wok h_5 h.size 0 64 ∧ Vc.Bind (TV.put h_5 h.size 0 (.words IntKind.u32 64 w_1)) fun h_6 ↦ Ext h h_6 ∧ wok h_6 h_4.size 0 64 ∧ Vc.Bind (TV.put h_6 h_4.size 0 (.words IntKind.u32 64 w_2)) fun h_7 ↦ Ext h h_7 ∧ wok h_7 h_3.size 0 8 ∧ Vc.Bind (TV.put h_7 h_3.size 0 (.words IntKind.u32 8 w)) fun h_8 ↦ J (some (Loc.mk h.size 0), some (Loc.mk h_4.size 0), some (Loc.mk h_3.size 0)) h_8) ∧ (Vc.Bind (newTV h_2 (.words IntKind.u32 64 (Ws.zero 64)) 293) fun h_3 ↦ Ext h h_3 ∧ (CallsH Tryz.prog 326 (TVs.vals []) h_3 fun v h_4 ↦ ∃ (w_2 : Ws 64), v = TV.val (.words IntKind.u32 64 w_2) ∧ Ext h h_4 ∧ Vc.Bind (newTV h_4 (.words IntKind.u32 8 (Ws.zero 8)) 289) fun h_5 ↦ Ext h h_5 ∧ wok h_5 h.size 0 64 ∧ Vc.Bind (TV.put h_5 h.size 0 (.words IntKind.u32 64 w_1)) fun h_6 ↦ Ext h h_6 ∧ wok h_6 h_2.size 0 64 ∧ Vc.Bind (TV.put h_6 h_2.size 0 (.words IntKind.u32 64 w_2)) fun h_7 ↦ Ext h h_7 ∧ wok h_7 h_4.size 0 8 ∧ Vc.Bind (TV.put h_7 h_4.size 0 (.words IntKind.u32 8 w)) fun h_8 ↦ J (some (Loc.mk h.size 0), some (Loc.mk h_2.size 0), some (Loc.mk h_4.size 0)) h_8) ∧ Vc.Bind (newTV h_3 (.words IntKind.u32 8 (Ws.zero 8)) 289) fun h_4 ↦ Ext h h_4 ∧ CallsH Tryz.prog 326 (TVs.vals []) h_4 fun v h_5 ↦ ∃ (w_2 : Ws 64), v = TV.val (.words IntKind.u32 64 w_2) ∧ Ext h h_5 ∧ wok h_5 h.size 0 64 ∧ Vc.Bind (TV.put h_5 h.size 0 (.words IntKind.u32 64 w_1)) fun h_6 ↦ Ext h h_6 ∧ wok h_6 h_2.size 0 64 ∧ Vc.Bind (TV.put h_6 h_2.size 0 (.words IntKind.u32 64 w_2)) fun h_7 ↦ Ext h h_7 ∧ wok h_7 h_3.size 0 8 ∧ Vc.Bind (TV.put h_7 h_3.size 0 (.words IntKind.u32 8 w)) fun h_8 ↦ J (some (Loc.mk h.size 0), some (Loc.mk h_2.size 0), some (Loc.mk h_3.size 0)) h_8) ∧ Vc.Bind (newTV h_2 (.words IntKind.u32 8 (Ws.zero 8)) 289) fun h_3 ↦ Ext h h_3 ∧ (CallsH Tryz.prog 326 (TVs.vals []) h_3 fun v h_4 ↦ ∃ (w_2 : Ws 64), v = TV.val (.words IntKind.u32 64 w_2) ∧ Ext h h_4 ∧ Vc.Bind (newTV h_4 (.words IntKind.u32 64 (Ws.zero 64)) 293) fun h_5 ↦ Ext h h_5 ∧ wok h_5 h.size 0 64 ∧ Vc.Bind (TV.put h_5 h.size 0 (.words IntKind.u32 64 w_1)) fun h_6 ↦ Ext h h_6 ∧ wok h_6 h_4.size 0 64 ∧ Vc.Bind (TV.put h_6 h_4.size 0 (.words IntKind.u32 64 w_2)) fun h_7 ↦ Ext h h_7 ∧ wok h_7 h_2.size 0 8 ∧ Vc.Bind (TV.put h_7 h_2.size 0 (.words IntKind.u32 8 w)) fun h_8 ↦ J (some (Loc.mk h.size 0), some (Loc.mk h_4.size 0), some (Loc.mk h_2.size 0)) h_8) ∧ Vc.Bind (newTV h_3 (.words IntKind.u32 64 (Ws.zero 64)) 293) fun h_4 ↦ Ext h h_4 ∧ CallsH Tryz.prog 326 (TVs.vals []) h_4 fun v h_5 ↦ ∃ (w_2 : Ws 64), v = TV.val (.words IntKind.u32 64 w_2) ∧ Ext h h_5 ∧ wok h_5 h.size 0 64 ∧ Vc.Bind (TV.put h_5 h.size 0 (.words IntKind.u32 64 w_1)) fun h_6 ↦ Ext h h_6 ∧ wok h_6 h_3.size 0 64 ∧ Vc.Bind (TV.put h_6 h_3.size 0 (.words IntKind.u32 64 w_2)) fun h_7 ↦ Ext h h_7 ∧ wok h_7 h_2.size 0 8 ∧ Vc.Bind (TV.put h_7 h_2.size 0 (.words IntKind.u32 8 w)) fun h_8 ↦ J (some (Loc.mk h.size 0), some (Loc.mk h_3.size 0), some (Loc.mk h_2.size 0)) h_8) ∧ (Vc.Bind (newTV h_1 (.words IntKind.u32 64 (Ws.zero 64)) 293) fun h_2 ↦ Ext h h_2 ∧ (CallsH Tryz.prog 325 (TVs.vals [.slice b]) h_2 fun v h_3 ↦ ∃ (w_1 : Ws 64), v = TV.val (.words IntKind.u32 64 w_1) ∧ Ext h h_3 ∧ (CallsH Tryz.prog 326 (TVs.vals []) h_3 fun v h_4 ↦ ∃ (w_2 : Ws 64), v = TV.val (.words IntKind.u32 64 w_2) ∧ Ext h h_4 ∧ Vc.Bind (newTV h_4 (.words IntKind.u32 8 (Ws.zero 8)) 289) fun h_5 ↦ Ext h h_5 ∧ wok h_5 h.size 0 64 ∧ Vc.Bind (TV.put h_5 h.size 0 (.words IntKind.u32 64 w_1)) fun h_6 ↦ Ext h h_6 ∧ wok h_6 h_1.size 0 64 ∧ Vc.Bind (TV.put h_6 h_1.size 0 (.words IntKind.u32 64 w_2)) fun h_7 ↦ Ext h h_7 ∧ wok h_7 h_4.size 0 8 ∧ Vc.Bind (TV.put h_7 h_4.size 0 (.words IntKind.u32 8 w)) fun h_8 ↦ J (some (Loc.mk h.size 0), some (Loc.mk h_1.size 0), some (Loc.mk h_4.size 0)) h_8) ∧ Vc.Bind (newTV h_3 (.words IntKind.u32 8 (Ws.zero 8)) 289) fun h_4 ↦ Ext h h_4 ∧ CallsH Tryz.prog 326 (TVs.vals []) h_4 fun v h_5 ↦ ∃ (w_2 : Ws 64), v = TV.val (.words IntKind.u32 64 w_2) ∧ Ext h h_5 ∧ wok h_5 h.size 0 64 ∧ Vc.Bind (TV.put h_5 h.size 0 (.words IntKind.u32 64 w_1)) fun h_6 ↦ Ext h h_6 ∧ wok h_6 h_1.size 0 64 ∧ Vc.Bind (TV.put h_6 h_1.size 0 (.words IntKind.u32 64 w_2)) fun h_7 ↦ Ext h h_7 ∧ wok h_7 h_3.size 0 8 ∧ Vc.Bind (TV.put h_7 h_3.size 0 (.words IntKind.u32 8 w)) fun h_8 ↦ J (some (Loc.mk h.size 0), some (Loc.mk h_1.size 0), some (Loc.mk h_3.size 0)) h_8) ∧ Vc.Bind (newTV h_2 (.words IntKind.u32 8 (Ws.zero 8)) 289) fun h_3 ↦ Ext h h_3 ∧ CallsH Tryz.prog 325 (TVs.vals [.slice b]) h_3 fun v h_4 ↦ ∃ (w_1 : Ws 64), v = TV.val (.words IntKind.u32 64 w_1) ∧ Ext h h_4 ∧ CallsH Tryz.prog 326 (TVs.vals []) h_4 fun v h_5 ↦ ∃ (w_2 : Ws 64), v = TV.val (.words IntKind.u32 64 w_2) ∧ Ext h h_5 ∧ wok h_5 h.size 0 64 ∧ Vc.Bind (TV.put h_5 h.size 0 (.words IntKind.u32 64 w_1)) fun h_6 ↦ Ext h h_6 ∧ wok h_6 h_1.size 0 64 ∧ Vc.Bind (TV.put h_6 h_1.size 0 (.words IntKind.u32 64 w_2)) fun h_7 ↦ Ext h h_7 ∧ wok h_7 h_2.size 0 8 ∧ Vc.Bind (TV.put h_7 h_2.size 0 (.words IntKind.u32 8 w)) fun h_8 ↦ J (some (Loc.mk h.size 0), some (Loc.mk h_1.size 0), some (Loc.mk h_2.size 0)) h_8) ∧ Vc.Bind (newTV h_1 (.words IntKind.u32 8 (Ws.zero 8)) 289) fun h_2 ↦ Ext h h_2 ∧ (CallsH Tryz.prog 325 (TVs.vals [.slice b]) h_2 fun v h_3 ↦ ∃ (w_1 : Ws 64), v = TV.val (.words IntKind.u32 64 w_1) ∧ Ext h h_3 ∧ (CallsH Tryz.prog 326 (TVs.vals []) h_3 fun v h_4 ↦ ∃ (w_2 : Ws 64), v = TV.val (.words IntKind.u32 64 w_2) ∧ Ext h h_4 ∧ Vc.Bind (newTV h_4 (.words IntKind.u32 64 (Ws.zero 64)) 293) fun h_5 ↦ Ext h h_5 ∧ wok h_5 h.size 0 64 ∧ Vc.Bind (TV.put h_5 h.size 0 (.words IntKind.u32 64 w_1)) fun h_6 ↦ Ext h h_6 ∧ wok h_6 h_4.size 0 64 ∧ Vc.Bind (TV.put h_6 h_4.size 0 (.words IntKind.u32 64 w_2)) fun h_7 ↦ Ext h h_7 ∧ wok h_7 h_1.size 0 8 ∧ Vc.Bind (TV.put h_7 h_1.size 0 (.words IntKind.u32 8 w)) fun h_8 ↦ J (some (Loc.mk h.size 0), some (Loc.mk h_4.size 0), some (Loc.mk h_1.size 0)) h_8) ∧ Vc.Bind (newTV h_3 (.words IntKind.u32 64 (Ws.zero 64)) 293) fun h_4 ↦ Ext h h_4 ∧ CallsH Tryz.prog 326 (TVs.vals []) h_4 fun v h_5 ↦ ∃ (w_2 : Ws 64), v = TV.val (.words IntKind.u32 64 w_2) ∧ Ext h h_5 ∧ wok h_5 h.size 0 64 ∧ Vc.Bind (TV.put h_5 h.size 0 (.words IntKind.u32 64 w_1)) fun h_6 ↦ Ext h h_6 ∧ wok h_6 h_3.size 0 64 ∧ Vc.Bind (TV.put h_6 h_3.size 0 (.words IntKind.u32 64 w_2)) fun h_7 ↦ Ext h h_7 ∧ wok h_7 h_1.size 0 8 ∧ Vc.Bind (TV.put h_7 h_1.size 0 (.words IntKind.u32 8 w)) fun h_8 ↦ J (some (Loc.mk h.size 0), some (Loc.mk h_3.size 0), some (Loc.mk h_1.size 0)) h_8) ∧ Vc.Bind (newTV h_2 (.words IntKind.u32 64 (Ws.zero 64)) 293) fun h_3 ↦ Ext h h_3 ∧ CallsH Tryz.prog 325 (TVs.vals [.slice b]) h_3 fun v h_4 ↦ ∃ (w_1 : Ws 64), v = TV.val (.words IntKind.u32 64 w_1) ∧ Ext h h_4 ∧ CallsH Tryz.prog 326 (TVs.vals []) h_4 fun v h_5 ↦ ∃ (w_2 : Ws 64), v = TV.val (.words IntKind.u32 64 w_2) ∧ Ext h h_5 ∧ wok h_5 h.size 0 64 ∧ Vc.Bind (TV.put h_5 h.size 0 (.words IntKind.u32 64 w_1)) fun h_6 ↦ Ext h h_6 ∧ wok h_6 h_2.size 0 64 ∧ Vc.Bind (TV.put h_6 h_2.size 0 (.words IntKind.u32 64 w_2)) fun h_7 ↦ Ext h h_7 ∧ wok h_7 h_1.size 0 8 ∧ Vc.Bind (TV.put h_7 h_1.size 0 (.words IntKind.u32 8 w)) fun h_8 ↦ J (some (Loc.mk h.size 0), some (Loc.mk h_2.size 0), some (Loc.mk h_1.size 0)) h_8) ∧ (Vc.Bind (newTV h (.words IntKind.u32 64 (Ws.zero 64)) 293) fun h_1 ↦ Ext h h_1 ∧ (CallsH Tryz.prog 325 (TVs.vals [.slice b]) h_1 fun v h_2 ↦ ∃ (w_1 : Ws 64), v = TV.val (.words IntKind.u32 64 w_1) ∧ Ext h h_2 ∧ (CallsH Tryz.prog 326 (TVs.vals []) h_2 fun v h_3 ↦ ∃ (w_2 : Ws 64), v = TV.val (.words IntKind.u32 64 w_2) ∧ Ext h h_3 ∧ (Vc.Bind (newTV h_3 (.words IntKind.u32 64 (Ws.zero 64)) 293) fun h_4 ↦ Ext h h_4 ∧ Vc.Bind (newTV h_4 (.words IntKind.u32 8 (Ws.zero 8)) 289) fun h_5 ↦ Ext h h_5 ∧ wok h_5 h_3.size 0 64 ∧ Vc.Bind (TV.put h_5 h_3.size 0 (.words IntKind.u32 64 w_1)) fun h_6 ↦ Ext h h_6 ∧ wok h_6 h.size 0 64 ∧ Vc.Bind (TV.put h_6 h.size 0 (.words IntKind.u32 64 w_2)) fun h_7 ↦ Ext h h_7 ∧ wok h_7 h_4.size 0 8 ∧ Vc.Bind (TV.put h_7 h_4.size 0 (.words IntKind.u32 8 w)) fun h_8 ↦ J (some (Loc.mk h_3.size 0), some (Loc.mk h.size 0), some (Loc.mk h_4.size 0)) h_8) ∧ Vc.Bind (newTV h_3 (.words IntKind.u32 8 (Ws.zero 8)) 289) fun h_4 ↦ Ext h h_4 ∧ Vc.Bind (newTV h_4 (.words IntKind.u32 64 (Ws.zero 64)) 293) fun h_5 ↦ Ext h h_5 ∧ wok h_5 h_4.size 0 64 ∧ Vc.Bind (TV.put h_5 h_4.size 0 (.words IntKind.u32 64 w_1)) fun h_6 ↦ Ext h h_6 ∧ wok h_6 h.size 0 64 ∧ Vc.Bind (TV.put h_6 h.size 0 (.words IntKind.u32 64 w_2)) fun h_7 ↦ Ext h h_7 ∧ wok h_7 h_3.size 0 8 ∧ Vc.Bind (TV.put h_7 h_3.size 0 (.words IntKind.u32 8 w)) fun h_8 ↦ J (some (Loc.mk h_4.size 0), some (Loc.mk h.size 0), some (Loc.mk h_3.size 0)) h_8) ∧ (Vc.Bind (newTV h_2 (.words IntKind.u32 64 (Ws.zero 64)) 293) fun h_3 ↦ Ext h h_3 ∧ (CallsH Tryz.prog 326 (TVs.vals []) h_3 fun v h_4 ↦ ∃ (w_2 : Ws 64), v = TV.val (.words IntKind.u32 64 w_2) ∧ Ext h h_4 ∧ Vc.Bind (newTV h_4 (.words IntKind.u32 8 (Ws.zero 8)) 289) fun h_5 ↦ Ext h h_5 ∧ wok h_5 h_2.size 0 64 ∧ Vc.Bind (TV.put h_5 h_2.size 0 (.words IntKind.u32 64 w_1)) fun h_6 ↦ Ext h h_6 ∧ wok h_6 h.size 0 64 ∧ Vc.Bind (TV.put h_6 h.size 0 (.words IntKind.u32 64 w_2)) fun h_7 ↦ Ext h h_7 ∧ wok h_7 h_4.size 0 8 ∧ Vc.Bind (TV.put h_7 h_4.size 0 (.words IntKind.u32 8 w)) fun h_8 ↦ J (some (Loc.mk h_2.size 0), some (Loc.mk h.size 0), some (Loc.mk h_4.size 0)) h_8) ∧ Vc.Bind (newTV h_3 (.words IntKind.u32 8 (Ws.zero 8)) 289) fun h_4 ↦ Ext h h_4 ∧ CallsH Tryz.prog 326 (TVs.vals []) h_4 fun v h_5 ↦ ∃ (w_2 : Ws 64), v = TV.val (.words IntKind.u32 64 w_2) ∧ Ext h h_5 ∧ wok h_5 h_2.size 0 64 ∧ Vc.Bind (TV.put h_5 h_2.size 0 (.words IntKind.u32 64 w_1)) fun h_6 ↦ Ext h h_6 ∧ wok h_6 h.size 0 64 ∧ Vc.Bind (TV.put h_6 h.size 0 (.words IntKind.u32 64 w_2)) fun h_7 ↦ Ext h h_7 ∧ wok h_7 h_3.size 0 8 ∧ Vc.Bind (TV.put h_7 h_3.size 0 (.words IntKind.u32 8 w)) fun h_8 ↦ J (some (Loc.mk h_2.size 0), some (Loc.mk h.size 0), some (Loc.mk h_3.size 0)) h_8) ∧ Vc.Bind (newTV h_2 (.words IntKind.u32 8 (Ws.zero 8)) 289) fun h_3 ↦ Ext h h_3 ∧ (CallsH Tryz.prog 326 (TVs.vals []) h_3 fun v h_4 ↦ ∃ (w_2 : Ws 64), v = TV.val (.words IntKind.u32 64 w_2) ∧ Ext h h_4 ∧ Vc.Bind (newTV h_4 (.words IntKind.u32 64 (Ws.zero 64)) 293) fun h_5 ↦ Ext h h_5 ∧ wok h_5 h_4.size 0 64 ∧ Vc.Bind (TV.put h_5 h_4.size 0 (.words IntKind.u32 64 w_1)) fun h_6 ↦ Ext h h_6 ∧ wok h_6 h.size 0 64 ∧ Vc.Bind (TV.put h_6 h.size 0 (.words IntKind.u32 64 w_2)) fun h_7 ↦ Ext h h_7 ∧ wok h_7 h_2.size 0 8 ∧ Vc.Bind (TV.put h_7 h_2.size 0 (.words IntKind.u32 8 w)) fun h_8 ↦ J (some (Loc.mk h_4.size 0), some (Loc.mk h.size 0), some (Loc.mk h_2.size 0)) h_8) ∧ Vc.Bind (newTV h_3 (.words IntKind.u32 64 (Ws.zero 64)) 293) fun h_4 ↦ Ext h h_4 ∧ CallsH Tryz.prog 326 (TVs.vals []) h_4 fun v h_5 ↦ ∃ (w_2 : Ws 64), v = TV.val (.words IntKind.u32 64 w_2) ∧ Ext h h_5 ∧ wok h_5 h_3.size 0 64 ∧ Vc.Bind (TV.put h_5 h_3.size 0 (.words IntKind.u32 64 w_1)) fun h_6 ↦ Ext h h_6 ∧ wok h_6 h.size 0 64 ∧ Vc.Bind (TV.put h_6 h.size 0 (.words IntKind.u32 64 w_2)) fun h_7 ↦ Ext h h_7 ∧ wok h_7 h_2.size 0 8 ∧ Vc.Bind (TV.put h_7 h_2.size 0 (.words IntKind.u32 8 w)) fun h_8 ↦ J (some (Loc.mk h_3.size 0), some (Loc.mk h.size 0), some (Loc.mk h_2.size 0)) h_8) ∧ (Vc.Bind (newTV h_1 (.words IntKind.u32 64 (Ws.zero 64)) 293) fun h_2 ↦ Ext h h_2 ∧ (CallsH Tryz.prog 325 (TVs.vals [.slice b]) h_2 fun v h_3 ↦ ∃ (w_1 : Ws 64), v = TV.val (.words IntKind.u32 64 w_1) ∧ Ext h h_3 ∧ (CallsH Tryz.prog 326 (TVs.vals []) h_3 fun v h_4 ↦ ∃ (w_2 : Ws 64), v = TV.val (.words IntKind.u32 64 w_2) ∧ Ext h h_4 ∧ Vc.Bind (newTV h_4 (.words IntKind.u32 8 (Ws.zero 8)) 289) fun h_5 ↦ Ext h h_5 ∧ wok h_5 h_1.size 0 64 ∧ Vc.Bind (TV.put h_5 h_1.size 0 (.words IntKind.u32 64 w_1)) fun h_6 ↦ Ext h h_6 ∧ wok h_6 h.size 0 64 ∧ Vc.Bind (TV.put h_6 h.size 0 (.words IntKind.u32 64 w_2)) fun h_7 ↦ Ext h h_7 ∧ wok h_7 h_4.size 0 8 ∧ Vc.Bind (TV.put h_7 h_4.size 0 (.words IntKind.u32 8 w)) fun h_8 ↦ J (some (Loc.mk h_1.size 0), some (Loc.mk h.size 0), some (Loc.mk h_4.size 0)) h_8) ∧ Vc.Bind (newTV h_3 (.words IntKind.u32 8 (Ws.zero 8)) 289) fun h_4 ↦ Ext h h_4 ∧ CallsH Tryz.prog 326 (TVs.vals []) h_4 fun v h_5 ↦ ∃ (w_2 : Ws 64), v = TV.val (.words IntKind.u32 64 w_2) ∧ Ext h h_5 ∧ wok h_5 h_1.size 0 64 ∧ Vc.Bind (TV.put h_5 h_1.size 0 (.words IntKind.u32 64 w_1)) fun h_6 ↦ Ext h h_6 ∧ wok h_6 h.size 0 64 ∧ Vc.Bind (TV.put h_6 h.size 0 (.words IntKind.u32 64 w_2)) fun h_7 ↦ Ext h h_7 ∧ wok h_7 h_3.size 0 8 ∧ Vc.Bind (TV.put h_7 h_3.size 0 (.words IntKind.u32 8 w)) fun h_8 ↦ J (some (Loc.mk h_1.size 0), some (Loc.mk h.size 0), some (Loc.mk h_3.size 0)) h_8) ∧ Vc.Bind (newTV h_2 (.words IntKind.u32 8 (Ws.zero 8)) 289) fun h_3 ↦ Ext h h_3 ∧ CallsH Tryz.prog 325 (TVs.vals [.slice b]) h_3 fun v h_4 ↦ ∃ (w_1 : Ws 64), v = TV.val (.words IntKind.u32 64 w_1) ∧ Ext h h_4 ∧ CallsH Tryz.prog 326 (TVs.vals []) h_4 fun v h_5 ↦ ∃ (w_2 : Ws 64), v = TV.val (.words IntKind.u32 64 w_2) ∧ Ext h h_5 ∧ wok h_5 h_1.size 0 64 ∧ Vc.Bind (TV.put h_5 h_1.size 0 (.words IntKind.u32 64 w_1)) fun h_6 ↦ Ext h h_6 ∧ wok h_6 h.size 0 64 ∧ Vc.Bind (TV.put h_6 h.size 0 (.words IntKind.u32 64 w_2)) fun h_7 ↦ Ext h h_7 ∧ wok h_7 h_2.size 0 8 ∧ Vc.Bind (TV.put h_7 h_2.size 0 (.words IntKind.u32 8 w)) fun h_8 ↦ J (some (Loc.mk h_1.size 0), some (Loc.mk h.size 0), some (Loc.mk h_2.size 0)) h_8) ∧ Vc.Bind (newTV h_1 (.words IntKind.u32 8 (Ws.zero 8)) 289) fun h_2 ↦ Ext h h_2 ∧ (CallsH Tryz.prog 325 (TVs.vals [.slice b]) h_2 fun v h_3 ↦ ∃ (w_1 : Ws 64), v = TV.val (.words IntKind.u32 64 w_1) ∧ Ext h h_3 ∧ (CallsH Tryz.prog 326 (TVs.vals []) h_3 fun v h_4 ↦ ∃ (w_2 : Ws 64), v = TV.val (.words IntKind.u32 64 w_2) ∧ Ext h h_4 ∧ Vc.Bind (newTV h_4 (.words IntKind.u32 64 (Ws.zero 64)) 293) fun h_5 ↦ Ext h h_5 ∧ wok h_5 h_4.size 0 64 ∧ Vc.Bind (TV.put h_5 h_4.size 0 (.words IntKind.u32 64 w_1)) fun h_6 ↦ Ext h h_6 ∧ wok h_6 h.size 0 64 ∧ Vc.Bind (TV.put h_6 h.size 0 (.words IntKind.u32 64 w_2)) fun h_7 ↦ Ext h h_7 ∧ wok h_7 h_1.size 0 8 ∧ Vc.Bind (TV.put h_7 h_1.size 0 (.words IntKind.u32 8 w)) fun h_8 ↦ J (some (Loc.mk h_4.size 0), some (Loc.mk h.size 0), some (Loc.mk h_1.size 0)) h_8) ∧ Vc.Bind (newTV h_3 (.words IntKind.u32 64 (Ws.zero 64)) 293) fun h_4 ↦ Ext h h_4 ∧ CallsH Tryz.prog 326 (TVs.vals []) h_4 fun v h_5 ↦ ∃ (w_2 : Ws 64), v = TV.val (.words IntKind.u32 64 w_2) ∧ Ext h h_5 ∧ wok h_5 h_3.size 0 64 ∧ Vc.Bind (TV.put h_5 h_3.size 0 (.words IntKind.u32 64 w_1)) fun h_6 ↦ Ext h h_6 ∧ wok h_6 h.size 0 64 ∧ Vc.Bind (TV.put h_6 h.size 0 (.words IntKind.u32 64 w_2)) fun h_7 ↦ Ext h h_7 ∧ wok h_7 h_1.size 0 8 ∧ Vc.Bind (TV.put h_7 h_1.size 0 (.words IntKind.u32 8 w)) fun h_8 ↦ J (some (Loc.mk h_3.size 0), some (Loc.mk h.size 0), some (Loc.mk h_1.size 0)) h_8) ∧ Vc.Bind (newTV h_2 (.words IntKind.u32 64 (Ws.zero 64)) 293) fun h_3 ↦ Ext h h_3 ∧ CallsH Tryz.prog 325 (TVs.vals [.slice b]) h_3 fun v h_4 ↦ ∃ (w_1 : Ws 64), v = TV.val (.words IntKind.u32 64 w_1) ∧ Ext h h_4 ∧ CallsH Tryz.prog 326 (TVs.vals []) h_4 fun v h_5 ↦ ∃ (w_2 : Ws 64), v = TV.val (.words IntKind.u32 64 w_2) ∧ Ext h h_5 ∧ wok h_5 h_2.size 0 64 ∧ Vc.Bind (TV.put h_5 h_2.size 0 (.words IntKind.u32 64 w_1)) fun h_6 ↦ Ext h h_6 ∧ wok h_6 h.size 0 64 ∧ Vc.Bind (TV.put h_6 h.size 0 (.words IntKind.u32 64 w_2)) fun h_7 ↦ Ext h h_7 ∧ wok h_7 h_1.size 0 8 ∧ Vc.Bind (TV.put h_7 h_1.size 0 (.words IntKind.u32 8 w)) fun h_8 ↦ J (some (Loc.mk h_2.size 0), some (Loc.mk h.size 0), some (Loc.mk h_1.size 0)) h_8) ∧ Vc.Bind (newTV h (.words IntKind.u32 8 (Ws.zero 8)) 289) fun h_1 ↦ Ext h h_1 ∧ (CallsH Tryz.prog 325 (TVs.vals [.slice b]) h_1 fun v h_2 ↦ ∃ (w_1 : Ws 64), v = TV.val (.words IntKind.u32 64 w_1) ∧ Ext h h_2 ∧ (CallsH Tryz.prog 326 (TVs.vals []) h_2 fun v h_3 ↦ ∃ (w_2 : Ws 64), v = TV.val (.words IntKind.u32 64 w_2) ∧ Ext h h_3 ∧ (Vc.Bind (newTV h_3 (.words IntKind.u32 64 (Ws.zero 64)) 293) fun h_4 ↦ Ext h h_4 ∧ Vc.Bind (newTV h_4 (.words IntKind.u32 64 (Ws.zero 64)) 293) fun h_5 ↦ Ext h h_5 ∧ wok h_5 h_3.size 0 64 ∧ Vc.Bind (TV.put h_5 h_3.size 0 (.words IntKind.u32 64 w_1)) fun h_6 ↦ Ext h h_6 ∧ wok h_6 h_4.size 0 64 ∧ Vc.Bind (TV.put h_6 h_4.size 0 (.words IntKind.u32 64 w_2)) fun h_7 ↦ Ext h h_7 ∧ wok h_7 h.size 0 8 ∧ Vc.Bind (TV.put h_7 h.size 0 (.words IntKind.u32 8 w)) fun h_8 ↦ J (some (Loc.mk h_3.size 0), some (Loc.mk h_4.size 0), some (Loc.mk h.size 0)) h_8) ∧ Vc.Bind (newTV h_3 (.words IntKind.u32 64 (Ws.zero 64)) 293) fun h_4 ↦ Ext h h_4 ∧ Vc.Bind (newTV h_4 (.words IntKind.u32 64 (Ws.zero 64)) 293) fun h_5 ↦ Ext h h_5 ∧ wok h_5 h_4.size 0 64 ∧ Vc.Bind (TV.put h_5 h_4.size 0 (.words IntKind.u32 64 w_1)) fun h_6 ↦ Ext h h_6 ∧ wok h_6 h_3.size 0 64 ∧ Vc.Bind (TV.put h_6 h_3.size 0 (.words IntKind.u32 64 w_2)) fun h_7 ↦ Ext h h_7 ∧ wok h_7 h.size 0 8 ∧ Vc.Bind (TV.put h_7 h.size 0 (.words IntKind.u32 8 w)) fun h_8 ↦ J (some (Loc.mk h_4.size 0), some (Loc.mk h_3.size 0), some (Loc.mk h.size 0)) h_8) ∧ (Vc.Bind (newTV h_2 (.words IntKind.u32 64 (Ws.zero 64)) 293) fun h_3 ↦ Ext h h_3 ∧ (CallsH Tryz.prog 326 (TVs.vals []) h_3 fun v h_4 ↦ ∃ (w_2 : Ws 64), v = TV.val (.words IntKind.u32 64 w_2) ∧ Ext h h_4 ∧ Vc.Bind (newTV h_4 (.words IntKind.u32 64 (Ws.zero 64)) 293) fun h_5 ↦ Ext h h_5 ∧ wok h_5 h_2.size 0 64 ∧ Vc.Bind (TV.put h_5 h_2.size 0 (.words IntKind.u32 64 w_1)) fun h_6 ↦ Ext h h_6 ∧ wok h_6 h_4.size 0 64 ∧ Vc.Bind (TV.put h_6 h_4.size 0 (.words IntKind.u32 64 w_2)) fun h_7 ↦ Ext h h_7 ∧ wok h_7 h.size 0 8 ∧ Vc.Bind (TV.put h_7 h.size 0 (.words IntKind.u32 8 w)) fun h_8 ↦ J (some (Loc.mk h_2.size 0), some (Loc.mk h_4.size 0), some (Loc.mk h.size 0)) h_8) ∧ Vc.Bind (newTV h_3 (.words IntKind.u32 64 (Ws.zero 64)) 293) fun h_4 ↦ Ext h h_4 ∧ CallsH Tryz.prog 326 (TVs.vals []) h_4 fun v h_5 ↦ ∃ (w_2 : Ws 64), v = TV.val (.words IntKind.u32 64 w_2) ∧ Ext h h_5 ∧ wok h_5 h_2.size 0 64 ∧ Vc.Bind (TV.put h_5 h_2.size 0 (.words IntKind.u32 64 w_1)) fun h_6 ↦ Ext h h_6 ∧ wok h_6 h_3.size 0 64 ∧ Vc.Bind (TV.put h_6 h_3.size 0 (.words IntKind.u32 64 w_2)) fun h_7 ↦ Ext h h_7 ∧ wok h_7 h.size 0 8 ∧ Vc.Bind (TV.put h_7 h.size 0 (.words IntKind.u32 8 w)) fun h_8 ↦ J (some (Loc.mk h_2.size 0), some (Loc.mk h_3.size 0), some (Loc.mk h.size 0)) h_8) ∧ Vc.Bind (newTV h_2 (.words IntKind.u32 64 (Ws.zero 64)) 293) fun h_3 ↦ Ext h h_3 ∧ (CallsH Tryz.prog 326 (TVs.vals []) h_3 fun v h_4 ↦ ∃ (w_2 : Ws 64), v = TV.val (.words IntKind.u32 64 w_2) ∧ Ext h h_4 ∧ Vc.Bind (newTV h_4 (.words IntKind.u32 64 (Ws.zero 64)) 293) fun h_5 ↦ Ext h h_5 ∧ wok h_5 h_4.size 0 64 ∧ Vc.Bind (TV.put h_5 h_4.size 0 (.words IntKind.u32 64 w_1)) fun h_6 ↦ Ext h h_6 ∧ wok h_6 h_2.size 0 64 ∧ Vc.Bind (TV.put h_6 h_2.size 0 (.words IntKind.u32 64 w_2)) fun h_7 ↦ Ext h h_7 ∧ wok h_7 h.size 0 8 ∧ Vc.Bind (TV.put h_7 h.size 0 (.words IntKind.u32 8 w)) fun h_8 ↦ J (some (Loc.mk h_4.size 0), some (Loc.mk h_2.size 0), some (Loc.mk h.size 0)) h_8) ∧ Vc.Bind (newTV h_3 (.words IntKind.u32 64 (Ws.zero 64)) 293) fun h_4 ↦ Ext h h_4 ∧ CallsH Tryz.prog 326 (TVs.vals []) h_4 fun v h_5 ↦ ∃ (w_2 : Ws 64), v = TV.val (.words IntKind.u32 64 w_2) ∧ Ext h h_5 ∧ wok h_5 h_3.size 0 64 ∧ Vc.Bind (TV.put h_5 h_3.size 0 (.words IntKind.u32 64 w_1)) fun h_6 ↦ Ext h h_6 ∧ wok h_6 h_2.size 0 64 ∧ Vc.Bind (TV.put h_6 h_2.size 0 (.words IntKind.u32 64 w_2)) fun h_7 ↦ Ext h h_7 ∧ wok h_7 h.size 0 8 ∧ Vc.Bind (TV.put h_7 h.size 0 (.words IntKind.u32 8 w)) fun h_8 ↦ J (some (Loc.mk h_3.size 0), some (Loc.mk h_2.size 0), some (Loc.mk h.size 0)) h_8) ∧ (Vc.Bind (newTV h_1 (.words IntKind.u32 64 (Ws.zero 64)) 293) fun h_2 ↦ Ext h h_2 ∧ (CallsH Tryz.prog 325 (TVs.vals [.slice b]) h_2 fun v h_3 ↦ ∃ (w_1 : Ws 64), v = TV.val (.words IntKind.u32 64 w_1) ∧ Ext h h_3 ∧ (CallsH Tryz.prog 326 (TVs.vals []) h_3 fun v h_4 ↦ ∃ (w_2 : Ws 64), v = TV.val (.words IntKind.u32 64 w_2) ∧ Ext h h_4 ∧ Vc.Bind (newTV h_4 (.words IntKind.u32 64 (Ws.zero 64)) 293) fun h_5 ↦ Ext h h_5 ∧ wok h_5 h_1.size 0 64 ∧ Vc.Bind (TV.put h_5 h_1.size 0 (.words IntKind.u32 64 w_1)) fun h_6 ↦ Ext h h_6 ∧ wok h_6 h_4.size 0 64 ∧ Vc.Bind (TV.put h_6 h_4.size 0 (.words IntKind.u32 64 w_2)) fun h_7 ↦ Ext h h_7 ∧ wok h_7 h.size 0 8 ∧ Vc.Bind (TV.put h_7 h.size 0 (.words IntKind.u32 8 w)) fun h_8 ↦ J (some (Loc.mk h_1.size 0), some (Loc.mk h_4.size 0), some (Loc.mk h.size 0)) h_8) ∧ Vc.Bind (newTV h_3 (.words IntKind.u32 64 (Ws.zero 64)) 293) fun h_4 ↦ Ext h h_4 ∧ CallsH Tryz.prog 326 (TVs.vals []) h_4 fun v h_5 ↦ ∃ (w_2 : Ws 64), v = TV.val (.words IntKind.u32 64 w_2) ∧ Ext h h_5 ∧ wok h_5 h_1.size 0 64 ∧ Vc.Bind (TV.put h_5 h_1.size 0 (.words IntKind.u32 64 w_1)) fun h_6 ↦ Ext h h_6 ∧ wok h_6 h_3.size 0 64 ∧ Vc.Bind (TV.put h_6 h_3.size 0 (.words IntKind.u32 64 w_2)) fun h_7 ↦ Ext h h_7 ∧ wok h_7 h.size 0 8 ∧ Vc.Bind (TV.put h_7 h.size 0 (.words IntKind.u32 8 w)) fun h_8 ↦ J (some (Loc.mk h_1.size 0), some (Loc.mk h_3.size 0), some (Loc.mk h.size 0)) h_8) ∧ Vc.Bind (newTV h_2 (.words IntKind.u32 64 (Ws.zero 64)) 293) fun h_3 ↦ Ext h h_3 ∧ CallsH Tryz.prog 325 (TVs.vals [.slice b]) h_3 fun v h_4 ↦ ∃ (w_1 : Ws 64), v = TV.val (.words IntKind.u32 64 w_1) ∧ Ext h h_4 ∧ CallsH Tryz.prog 326 (TVs.vals []) h_4 fun v h_5 ↦ ∃ (w_2 : Ws 64), v = TV.val (.words IntKind.u32 64 w_2) ∧ Ext h h_5 ∧ wok h_5 h_1.size 0 64 ∧ Vc.Bind (TV.put h_5 h_1.size 0 (.words IntKind.u32 64 w_1)) fun h_6 ↦ Ext h h_6 ∧ wok h_6 h_2.size 0 64 ∧ Vc.Bind (TV.put h_6 h_2.size 0 (.words IntKind.u32 64 w_2)) fun h_7 ↦ Ext h h_7 ∧ wok h_7 h.size 0 8 ∧ Vc.Bind (TV.put h_7 h.size 0 (.words IntKind.u32 8 w)) fun h_8 ↦ J (some (Loc.mk h_1.size 0), some (Loc.mk h_2.size 0), some (Loc.mk h.size 0)) h_8) ∧ Vc.Bind (newTV h_1 (.words IntKind.u32 64 (Ws.zero 64)) 293) fun h_2 ↦ Ext h h_2 ∧ (CallsH Tryz.prog 325 (TVs.vals [.slice b]) h_2 fun v h_3 ↦ ∃ (w_1 : Ws 64), v = TV.val (.words IntKind.u32 64 w_1) ∧ Ext h h_3 ∧ (CallsH Tryz.prog 326 (TVs.vals []) h_3 fun v h_4 ↦ ∃ (w_2 : Ws 64), v = TV.val (.words IntKind.u32 64 w_2) ∧ Ext h h_4 ∧ Vc.Bind (newTV h_4 (.words IntKind.u32 64 (Ws.zero 64)) 293) fun h_5 ↦ Ext h h_5 ∧ wok h_5 h_4.size 0 64 ∧ Vc.Bind (TV.put h_5 h_4.size 0 (.words IntKind.u32 64 w_1)) fun h_6 ↦ Ext h h_6 ∧ wok h_6 h_1.size 0 64 ∧ Vc.Bind (TV.put h_6 h_1.size 0 (.words IntKind.u32 64 w_2)) fun h_7 ↦ Ext h h_7 ∧ wok h_7 h.size 0 8 ∧ Vc.Bind (TV.put h_7 h.size 0 (.words IntKind.u32 8 w)) fun h_8 ↦ J (some (Loc.mk h_4.size 0), some (Loc.mk h_1.size 0), some (Loc.mk h.size 0)) h_8) ∧ Vc.Bind (newTV h_3 (.words IntKind.u32 64 (Ws.zero 64)) 293) fun h_4 ↦ Ext h h_4 ∧ CallsH Tryz.prog 326 (TVs.vals []) h_4 fun v h_5 ↦ ∃ (w_2 : Ws 64), v = TV.val (.words IntKind.u32 64 w_2) ∧ Ext h h_5 ∧ wok h_5 h_3.size 0 64 ∧ Vc.Bind (TV.put h_5 h_3.size 0 (.words IntKind.u32 64 w_1)) fun h_6 ↦ Ext h h_6 ∧ wok h_6 h_1.size 0 64 ∧ Vc.Bind (TV.put h_6 h_1.size 0 (.words IntKind.u32 64 w_2)) fun h_7 ↦ Ext h h_7 ∧ wok h_7 h.size 0 8 ∧ Vc.Bind (TV.put h_7 h.size 0 (.words IntKind.u32 8 w)) fun h_8 ↦ J (some (Loc.mk h_3.size 0), some (Loc.mk h_1.size 0), some (Loc.mk h.size 0)) h_8) ∧ Vc.Bind (newTV h_2 (.words IntKind.u32 64 (Ws.zero 64)) 293) fun h_3 ↦ Ext h h_3 ∧ CallsH Tryz.prog 325 (TVs.vals [.slice b]) h_3 fun v h_4 ↦ ∃ (w_1 : Ws 64), v = TV.val (.words IntKind.u32 64 w_1) ∧ Ext h h_4 ∧ CallsH Tryz.prog 326 (TVs.vals []) h_4 fun v h_5 ↦ ∃ (w_2 : Ws 64), v = TV.val (.words IntKind.u32 64 w_2) ∧ Ext h h_5 ∧ wok h_5 h_2.size 0 64 ∧ Vc.Bind (TV.put h_5 h_2.size 0 (.words IntKind.u32 64 w_1)) fun h_6 ↦ Ext h h_6 ∧ wok h_6 h_1.size 0 64 ∧ Vc.Bind (TV.put h_6 h_1.size 0 (.words IntKind.u32 64 w_2)) fun h_7 ↦ Ext h h_7 ∧ wok h_7 h.size 0 8 ∧ Vc.Bind (TV.put h_7 h.size 0 (.words IntKind.u32 8 w)) fun h_8 ↦ J (some (Loc.mk h_2.size 0), some (Loc.mk h_1.size 0), some (Loc.mk h.size 0)) h_8
theorem sha_state_take_calls (s_ : Option Go.Vc.Loc) (b : Sl) (h : Heap) (R : Value → Heap → Prop) (H : sha_state_take_vc s_ b h R) : CallsH Tryz.prog 292 (TVs.vals [.ptr s_, .slice b]) h R := via ctx_ok Tryz.func292 (by kernel_rfl) H

def le_Put_vc (b : Sl) (n : Int) (width : Int) (h : Heap) (R : Value → Heap → Prop) : Prop := Go.Vc.Loop (b, n, 0) h fun (s : Sl × Int × Int) (h : Array Obj) (K : Sl × Int × Int → Array Obj → Prop) ↦ If (decide (s.snd.snd < mn (mx width 0) 8)) (∃ (new : List Value), slAt (Array.push h (row (TVs.cells [.int .u8 (IntKind.wrap .u8 s.snd.fst)]) 5)) (Sl.mk (some (Loc.mk h.size 0)) 1 1) 1 new ∧ (∀ (v : Value), v ∈ new → isOne v = true) ∧ vcAppend YtennbinbffdimaaGreat.ctx 5 s.fst 1 new (Array.push h (row (TVs.cells [.int .u8 (IntKind.wrap .u8 s.snd.fst)]) 5)) fun s_1 h ↦ (0 : Int) ≤ 8 ∧ K (s_1, Int.fdiv s.snd.fst ((2 : Int) ^ min (Int.toNat 8) (IntKind.bits .u64)), IntKind.wrap .i64 (s.snd.snd + 1)) h) (R (TV.val (.slice s.fst)) h)
theorem le_Put_calls (b : Sl) (n : Int) (width : Int) (h : Heap) (R : Value → Heap → Prop) (H : le_Put_vc b n width h R) : CallsH Tryz.prog 260 (TVs.vals [.slice b, .int .u64 n, .int .i64 width]) h R := via ctx_ok Tryz.func260 (by kernel_rfl) H

def sha_Less_vc (a : Bs 32) (b : Bs 32) (h : Heap) (R : Value → Heap → Prop) : Prop := Vc.Bind (newTV h (.bytes 32 a) 52) fun h_1 ↦ Vc.Bind (newTV h_1 (.bytes 32 b) 52) fun h_2 ↦ ∃ (bs : List UInt8), strAt h_2 (cutSl (Sl.mk (some (Loc.mk h.size 0)) 32 32) 0 32 1) bs ∧ ∃ (bs_1 : List UInt8), strAt h_2 (cutSl (Sl.mk (some (Loc.mk h_1.size 0)) 32 32) 0 32 1) bs_1 ∧ R (TV.val (.bool (Op.bytesLess bs bs_1))) h_2
theorem sha_Less_calls (a : Bs 32) (b : Bs 32) (h : Heap) (R : Value → Heap → Prop) (H : sha_Less_vc a b h R) : CallsS Tryz.prog 198 (TVs.vals [.bytes 32 a, .bytes 32 b]) h R := via ctxS_ok Tryz.func198 (by kernel_rfl) H

def tollerref03_right_vc (x : Int) (n : Int) (h : Heap) (R : Value → Heap → Prop) : Prop := 0 ≤ IntKind.wrap .u64 n ∧ 0 ≤ IntKind.wrap .u64 (IntKind.wrap .i64 (32 - n)) ∧ R (TV.val (.int .u32 (IntKind.wrap .u32 (↑(BitVec.toNat (BitVec.ofInt (IntKind.bits .u32) (Int.fdiv x ((2 : Int) ^ min (Int.toNat (IntKind.wrap .u64 n)) (IntKind.bits .u32))) ||| BitVec.ofInt (IntKind.bits .u32) (IntKind.wrap .u32 (x * (2 : Int) ^ min (Int.toNat (IntKind.wrap .u64 (IntKind.wrap .i64 (32 - n)))) (IntKind.bits .u32))))) : Int)))) h
theorem tollerref03_right_calls (x : Int) (n : Int) (h : Heap) (R : Value → Heap → Prop) (H : tollerref03_right_vc x n h R) : CallsH Tryz.prog 276 (TVs.vals [.int .u32 x, .int .i64 n]) h R := via ctx_ok Tryz.func276 (by kernel_rfl) H

def tollerref03_block_vc (h_ : Ws 8) (keys : Ws 64) (s_ : List UInt8) (h : Heap) (R : Value → Heap → Prop) : Prop := Vc.Bind (newTV h (.words IntKind.u32 8 h_) 289) fun h_1 ↦ Vc.Bind (newTV h_1 (.words IntKind.u32 64 keys) 293) fun h_2 ↦ Vc.Bind (newTV h_2 (.words IntKind.u32 8 (Ws.zero 8)) 289) fun h_3 ↦ Vc.Bind (newTV h_3 (.words IntKind.u32 64 (Ws.zero 64)) 293) fun h_4 ↦ Go.Vc.Loop (0 : Int) h_4 fun (s : Int) (h_5 : Array Obj) (K : Int → Array Obj → Prop) ↦ If (decide (s < 64)) (If (decide (s < 16)) (Go.Vc.Loop (0 : Int) h_5 fun (s_1 : Int) (h : Array Obj) (K_1 : Int → Array Obj → Prop) ↦ If (decide (s_1 < 4)) (0 ≤ s ∧ s < (↑64 : Int) ∧ ∃ (n : Int), at1 h h_3.size (0 + Int.toNat s * 1) (.int .u32 n) ∧ 0 ≤ IntKind.wrap .i64 (IntKind.wrap .i64 (4 * s) + s_1) ∧ IntKind.wrap .i64 (IntKind.wrap .i64 (4 * s) + s_1) < (↑(List.length s_) : Int) ∧ 0 ≤ s ∧ s < (↑64 : Int) ∧ wok h h_3.size (0 + Int.toNat s * 1) 1 ∧ Vc.Bind (TV.put h h_3.size (0 + Int.toNat s * 1) (.int .u32 (IntKind.wrap .u32 (IntKind.wrap .u32 (n * 256) + IntKind.wrap .u32 (↑(UInt8.toNat (List.getD s_ (Int.toNat (IntKind.wrap .i64 (IntKind.wrap .i64 (4 * s) + s_1))) (0 : UInt8))) : Int))))) fun h ↦ K_1 (IntKind.wrap .i64 (s_1 + 1)) h) (K (IntKind.wrap .i64 (s + 1)) h)) (0 ≤ IntKind.wrap .i64 (s - 15) ∧ IntKind.wrap .i64 (s - 15) < (↑64 : Int) ∧ ∃ (n : Int), at1 h_5 h_3.size (0 + Int.toNat (IntKind.wrap .i64 (s - 15)) * 1) (.int .u32 n) ∧ 0 ≤ IntKind.wrap .i64 (s - 2) ∧ IntKind.wrap .i64 (s - 2) < (↑64 : Int) ∧ ∃ (n_1 : Int), at1 h_5 h_3.size (0 + Int.toNat (IntKind.wrap .i64 (s - 2)) * 1) (.int .u32 n_1) ∧ 0 ≤ IntKind.wrap .i64 (s - 16) ∧ IntKind.wrap .i64 (s - 16) < (↑64 : Int) ∧ ∃ (n_2 : Int), at1 h_5 h_3.size (0 + Int.toNat (IntKind.wrap .i64 (s - 16)) * 1) (.int .u32 n_2) ∧ 0 ≤ IntKind.wrap .i64 (s - 7) ∧ IntKind.wrap .i64 (s - 7) < (↑64 : Int) ∧ ∃ (n_3 : Int), at1 h_5 h_3.size (0 + Int.toNat (IntKind.wrap .i64 (s - 7)) * 1) (.int .u32 n_3) ∧ (0 : Int) ≤ 3 ∧ (0 : Int) ≤ 10 ∧ CallsH Tryz.prog 276 (TVs.vals [.int .u32 n, .int .i64 7]) h_5 fun v h ↦ ∃ (n_4 : Int), v = TV.val (.int .u32 n_4) ∧ Ext h_5 h ∧ CallsH Tryz.prog 276 (TVs.vals [.int .u32 n, .int .i64 18]) h fun v h_6 ↦ ∃ (n_5 : Int), v = TV.val (.int .u32 n_5) ∧ Ext h h_6 ∧ CallsH Tryz.prog 276 (TVs.vals [.int .u32 n_1, .int .i64 17]) h_6 fun v h ↦ ∃ (n_6 : Int), v = TV.val (.int .u32 n_6) ∧ Ext h_6 h ∧ CallsH Tryz.prog 276 (TVs.vals [.int .u32 n_1, .int .i64 19]) h fun v h_7 ↦ ∃ (n_7 : Int), v = TV.val (.int .u32 n_7) ∧ Ext h h_7 ∧ 0 ≤ s ∧ s < (↑64 : Int) ∧ wok h_7 h_3.size (0 + Int.toNat s * 1) 1 ∧ Vc.Bind (TV.put h_7 h_3.size (0 + Int.toNat s * 1) (.int .u32 (IntKind.wrap .u32 (IntKind.wrap .u32 (IntKind.wrap .u32 (n_2 + n_3) + IntKind.wrap .u32 (↑(BitVec.toNat (BitVec.ofInt (IntKind.bits .u32) (IntKind.wrap .u32 (↑(BitVec.toNat (BitVec.ofInt (IntKind.bits .u32) n_4 ^^^ BitVec.ofInt (IntKind.bits .u32) n_5)) : Int)) ^^^ BitVec.ofInt (IntKind.bits .u32) (Int.fdiv n ((2 : Int) ^ min (Int.toNat 3) (IntKind.bits .u32))))) : Int)) + IntKind.wrap .u32 (↑(BitVec.toNat (BitVec.ofInt (IntKind.bits .u32) (IntKind.wrap .u32 (↑(BitVec.toNat (BitVec.ofInt (IntKind.bits .u32) n_6 ^^^ BitVec.ofInt (IntKind.bits .u32) n_7)) : Int)) ^^^ BitVec.ofInt (IntKind.bits .u32) (Int.fdiv n_1 ((2 : Int) ^ min (Int.toNat 10) (IntKind.bits .u32))))) : Int))))) fun h ↦ K (IntKind.wrap .i64 (s + 1)) h)) ((0 : Int) ≤ 0 ∧ 0 < (↑8 : Int) ∧ ∃ (n : Int), at1 h_5 h.size (0 + Int.toNat 0 * 1) (.int .u32 n) ∧ (0 : Int) ≤ 1 ∧ 1 < (↑8 : Int) ∧ ∃ (n_1 : Int), at1 h_5 h.size (0 + Int.toNat 1 * 1) (.int .u32 n_1) ∧ (0 : Int) ≤ 2 ∧ 2 < (↑8 : Int) ∧ ∃ (n_2 : Int), at1 h_5 h.size (0 + Int.toNat 2 * 1) (.int .u32 n_2) ∧ (0 : Int) ≤ 3 ∧ 3 < (↑8 : Int) ∧ ∃ (n_3 : Int), at1 h_5 h.size (0 + Int.toNat 3 * 1) (.int .u32 n_3) ∧ (0 : Int) ≤ 4 ∧ 4 < (↑8 : Int) ∧ ∃ (n_4 : Int), at1 h_5 h.size (0 + Int.toNat 4 * 1) (.int .u32 n_4) ∧ (0 : Int) ≤ 5 ∧ 5 < (↑8 : Int) ∧ ∃ (n_5 : Int), at1 h_5 h.size (0 + Int.toNat 5 * 1) (.int .u32 n_5) ∧ (0 : Int) ≤ 6 ∧ 6 < (↑8 : Int) ∧ ∃ (n_6 : Int), at1 h_5 h.size (0 + Int.toNat 6 * 1) (.int .u32 n_6) ∧ (0 : Int) ≤ 7 ∧ 7 < (↑8 : Int) ∧ ∃ (n_7 : Int), at1 h_5 h.size (0 + Int.toNat 7 * 1) (.int .u32 n_7) ∧ Go.Vc.Loop (n, n_1, n_2, n_3, n_4, n_5, n_6, n_7, 0) h_5 fun (s_1 : Int × Int × Int × Int × Int × Int × Int × Int × Int) (h_6 : Array Obj) (K : Int × Int × Int × Int × Int × Int × Int × Int × Int → Array Obj → Prop) ↦ If (decide (s_1.snd.snd.snd.snd.snd.snd.snd.snd < 64)) (0 ≤ s_1.snd.snd.snd.snd.snd.snd.snd.snd ∧ s_1.snd.snd.snd.snd.snd.snd.snd.snd < (↑64 : Int) ∧ ∃ (n_8 : Int), at1 h_6 h_1.size (0 + Int.toNat s_1.snd.snd.snd.snd.snd.snd.snd.snd * 1) (.int .u32 n_8) ∧ 0 ≤ s_1.snd.snd.snd.snd.snd.snd.snd.snd ∧ s_1.snd.snd.snd.snd.snd.snd.snd.snd < (↑64 : Int) ∧ ∃ (n_9 : Int), at1 h_6 h_3.size (0 + Int.toNat s_1.snd.snd.snd.snd.snd.snd.snd.snd * 1) (.int .u32 n_9) ∧ CallsH Tryz.prog 276 (TVs.vals [.int .u32 s_1.snd.snd.snd.snd.fst, .int .i64 6]) h_6 fun v h_7 ↦ ∃ (n_10 : Int), v = TV.val (.int .u32 n_10) ∧ Ext h_6 h_7 ∧ CallsH Tryz.prog 276 (TVs.vals [.int .u32 s_1.snd.snd.snd.snd.fst, .int .i64 11]) h_7 fun v h_8 ↦ ∃ (n_11 : Int), v = TV.val (.int .u32 n_11) ∧ Ext h_7 h_8 ∧ CallsH Tryz.prog 276 (TVs.vals [.int .u32 s_1.snd.snd.snd.snd.fst, .int .i64 25]) h_8 fun v h_9 ↦ ∃ (n_12 : Int), v = TV.val (.int .u32 n_12) ∧ Ext h_8 h_9 ∧ CallsH Tryz.prog 276 (TVs.vals [.int .u32 s_1.fst, .int .i64 2]) h_9 fun v h_10 ↦ ∃ (n_13 : Int), v = TV.val (.int .u32 n_13) ∧ CallsH Tryz.prog 276 (TVs.vals [.int .u32 s_1.fst, .int .i64 13]) h_10 fun v h_11 ↦ ∃ (n_14 : Int), v = TV.val (.int .u32 n_14) ∧ CallsH Tryz.prog 276 (TVs.vals [.int .u32 s_1.fst, .int .i64 22]) h_11 fun v h_12 ↦ ∃ (n_15 : Int), v = TV.val (.int .u32 n_15) ∧ K (IntKind.wrap .u32 (IntKind.wrap .u32 (IntKind.wrap .u32 (IntKind.wrap .u32 (IntKind.wrap .u32 (s_1.snd.snd.snd.snd.snd.snd.snd.fst + IntKind.wrap .u32 (↑(BitVec.toNat (BitVec.ofInt (IntKind.bits .u32) (IntKind.wrap .u32 (↑(BitVec.toNat (BitVec.ofInt (IntKind.bits .u32) n_10 ^^^ BitVec.ofInt (IntKind.bits .u32) n_11)) : Int)) ^^^ BitVec.ofInt (IntKind.bits .u32) n_12)) : Int)) + IntKind.wrap .u32 (↑(BitVec.toNat (BitVec.ofInt (IntKind.bits .u32) (IntKind.wrap .u32 (↑(BitVec.toNat (BitVec.ofInt (IntKind.bits .u32) s_1.snd.snd.snd.snd.fst &&& BitVec.ofInt (IntKind.bits .u32) s_1.snd.snd.snd.snd.snd.fst)) : Int)) ^^^ BitVec.ofInt (IntKind.bits .u32) (IntKind.wrap .u32 (↑(BitVec.toNat (BitVec.ofInt (IntKind.bits .u32) (IntKind.wrap .u32 (↑(BitVec.toNat (BitVec.ofInt (IntKind.bits .u32) (if IntKind.signed IntKind.u32 = true then (-1) else IntKind.max IntKind.u32) ^^^ BitVec.ofInt (IntKind.bits .u32) s_1.snd.snd.snd.snd.fst)) : Int)) &&& BitVec.ofInt (IntKind.bits .u32) s_1.snd.snd.snd.snd.snd.snd.fst)) : Int)))) : Int)) + n_8) + n_9) + IntKind.wrap .u32 (IntKind.wrap .u32 (↑(BitVec.toNat (BitVec.ofInt (IntKind.bits .u32) (IntKind.wrap .u32 (↑(BitVec.toNat (BitVec.ofInt (IntKind.bits .u32) n_13 ^^^ BitVec.ofInt (IntKind.bits .u32) n_14)) : Int)) ^^^ BitVec.ofInt (IntKind.bits .u32) n_15)) : Int) + IntKind.wrap .u32 (↑(BitVec.toNat (BitVec.ofInt (IntKind.bits .u32) (IntKind.wrap .u32 (↑(BitVec.toNat (BitVec.ofInt (IntKind.bits .u32) (IntKind.wrap .u32 (↑(BitVec.toNat (BitVec.ofInt (IntKind.bits .u32) s_1.fst &&& BitVec.ofInt (IntKind.bits .u32) s_1.snd.fst)) : Int)) ^^^ BitVec.ofInt (IntKind.bits .u32) (IntKind.wrap .u32 (↑(BitVec.toNat (BitVec.ofInt (IntKind.bits .u32) s_1.fst &&& BitVec.ofInt (IntKind.bits .u32) s_1.snd.snd.fst)) : Int)))) : Int)) ^^^ BitVec.ofInt (IntKind.bits .u32) (IntKind.wrap .u32 (↑(BitVec.toNat (BitVec.ofInt (IntKind.bits .u32) s_1.snd.fst &&& BitVec.ofInt (IntKind.bits .u32) s_1.snd.snd.fst)) : Int)))) : Int))), s_1.fst, s_1.snd.fst, s_1.snd.snd.fst, IntKind.wrap .u32 (s_1.snd.snd.snd.fst + IntKind.wrap .u32 (IntKind.wrap .u32 (IntKind.wrap .u32 (IntKind.wrap .u32 (s_1.snd.snd.snd.snd.snd.snd.snd.fst + IntKind.wrap .u32 (↑(BitVec.toNat (BitVec.ofInt (IntKind.bits .u32) (IntKind.wrap .u32 (↑(BitVec.toNat (BitVec.ofInt (IntKind.bits .u32) n_10 ^^^ BitVec.ofInt (IntKind.bits .u32) n_11)) : Int)) ^^^ BitVec.ofInt (IntKind.bits .u32) n_12)) : Int)) + IntKind.wrap .u32 (↑(BitVec.toNat (BitVec.ofInt (IntKind.bits .u32) (IntKind.wrap .u32 (↑(BitVec.toNat (BitVec.ofInt (IntKind.bits .u32) s_1.snd.snd.snd.snd.fst &&& BitVec.ofInt (IntKind.bits .u32) s_1.snd.snd.snd.snd.snd.fst)) : Int)) ^^^ BitVec.ofInt (IntKind.bits .u32) (IntKind.wrap .u32 (↑(BitVec.toNat (BitVec.ofInt (IntKind.bits .u32) (IntKind.wrap .u32 (↑(BitVec.toNat (BitVec.ofInt (IntKind.bits .u32) (if IntKind.signed IntKind.u32 = true then (-1) else IntKind.max IntKind.u32) ^^^ BitVec.ofInt (IntKind.bits .u32) s_1.snd.snd.snd.snd.fst)) : Int)) &&& BitVec.ofInt (IntKind.bits .u32) s_1.snd.snd.snd.snd.snd.snd.fst)) : Int)))) : Int)) + n_8) + n_9)), s_1.snd.snd.snd.snd.fst, s_1.snd.snd.snd.snd.snd.fst, s_1.snd.snd.snd.snd.snd.snd.fst, IntKind.wrap .i64 (s_1.snd.snd.snd.snd.snd.snd.snd.snd + 1)) h_12) ((0 : Int) ≤ 0 ∧ 0 < (↑8 : Int) ∧ ∃ (n_8 : Int), at1 h_6 h.size (0 + Int.toNat 0 * 1) (.int .u32 n_8) ∧ (0 : Int) ≤ 1 ∧ 1 < (↑8 : Int) ∧ ∃ (n_9 : Int), at1 h_6 h.size (0 + Int.toNat 1 * 1) (.int .u32 n_9) ∧ (0 : Int) ≤ 2 ∧ 2 < (↑8 : Int) ∧ ∃ (n_10 : Int), at1 h_6 h.size (0 + Int.toNat 2 * 1) (.int .u32 n_10) ∧ (0 : Int) ≤ 3 ∧ 3 < (↑8 : Int) ∧ ∃ (n_11 : Int), at1 h_6 h.size (0 + Int.toNat 3 * 1) (.int .u32 n_11) ∧ (0 : Int) ≤ 4 ∧ 4 < (↑8 : Int) ∧ ∃ (n_12 : Int), at1 h_6 h.size (0 + Int.toNat 4 * 1) (.int .u32 n_12) ∧ (0 : Int) ≤ 5 ∧ 5 < (↑8 : Int) ∧ ∃ (n_13 : Int), at1 h_6 h.size (0 + Int.toNat 5 * 1) (.int .u32 n_13) ∧ (0 : Int) ≤ 6 ∧ 6 < (↑8 : Int) ∧ ∃ (n_14 : Int), at1 h_6 h.size (0 + Int.toNat 6 * 1) (.int .u32 n_14) ∧ (0 : Int) ≤ 7 ∧ 7 < (↑8 : Int) ∧ ∃ (n_15 : Int), at1 h_6 h.size (0 + Int.toNat 7 * 1) (.int .u32 n_15) ∧ wok h_6 h_2.size 0 8 ∧ Vc.Bind (TV.put h_6 h_2.size 0 (.words IntKind.u32 8 (Ws.set (Ws.set (Ws.set (Ws.set (Ws.set (Ws.set (Ws.set (Ws.set (Ws.zero 8) 0 (IntKind.wrap .u32 (n_8 + s_1.fst))) 1 (IntKind.wrap .u32 (n_9 + s_1.snd.fst))) 2 (IntKind.wrap .u32 (n_10 + s_1.snd.snd.fst))) 3 (IntKind.wrap .u32 (n_11 + s_1.snd.snd.snd.fst))) 4 (IntKind.wrap .u32 (n_12 + s_1.snd.snd.snd.snd.fst))) 5 (IntKind.wrap .u32 (n_13 + s_1.snd.snd.snd.snd.snd.fst))) 6 (IntKind.wrap .u32 (n_14 + s_1.snd.snd.snd.snd.snd.snd.fst))) 7 (IntKind.wrap .u32 (n_15 + s_1.snd.snd.snd.snd.snd.snd.snd.fst))))) fun h ↦ ∃ (w : Ws 8), atWords h h_2.size 0 IntKind.u32 8 w ∧ R (TV.val (.words IntKind.u32 8 w)) h))
theorem tollerref03_block_calls (h_ : Ws 8) (keys : Ws 64) (s_ : List UInt8) (h : Heap) (R : Value → Heap → Prop) (H : tollerref03_block_vc h_ keys s_ h R) : CallsH Tryz.prog 221 (TVs.vals [.words IntKind.u32 8 h_, .words IntKind.u32 64 keys, .str s_]) h R := via ctx_ok Tryz.func221 (by kernel_rfl) H

def sha_state_add_vc (s_ : Option Go.Vc.Loc) (text : List UInt8) (h : Heap) (R : Value → Heap → Prop) : Prop := Nn s_ fun l ↦ ∃ (n : Int), at1 h l.b (l.o + 9) (.int .u64 n) ∧ Nn s_ fun l ↦ wok h l.b (l.o + 9) 1 ∧ Vc.Bind (TV.put h l.b (l.o + 9) (.int .u64 (IntKind.wrap .u64 (n + IntKind.wrap .u64 (↑(List.length text) : Int))))) fun h ↦ Nn s_ fun l ↦ ∃ (s : Sl), at1 h l.b (l.o + 8) (slVal s) ∧ vcAppend YtennbinbffdimaaGreat.ctx 5 s (List.length text) (List.map (fun (c : UInt8) ↦ .int .u8 (↑(UInt8.toNat c) : Int)) text) h fun s h ↦ Nn s_ fun l ↦ wok h l.b (l.o + 8) 1 ∧ Vc.Bind (TV.put h l.b (l.o + 8) (.slice s)) fun h ↦ Go.Vc.Loop PUnit.unit h fun (s : PUnit) (h : Array Obj) (K : PUnit → Array Obj → Prop) ↦ Nn s_ fun l ↦ ∃ (s : Sl), at1 h l.b (l.o + 8) (slVal s) ∧ If (decide (64 ≤ (↑s.len : Int))) (Nn s_ fun l ↦ ∃ (s : Sl), at1 h l.b (l.o + 8) (slVal s) ∧ (0 : Int) ≤ 64 ∧ 64 ≤ (↑s.cap : Int) ∧ CallsH Tryz.prog 292 (TVs.vals [.ptr s_, .slice (cutSl s 0 (Int.toNat 64) 1)]) h fun v h ↦ v = TV.val (.tup []) ∧ Nn s_ fun l ↦ ∃ (s : Sl), at1 h l.b (l.o + 8) (slVal s) ∧ (0 : Int) ≤ 64 ∧ 64 ≤ (↑s.len : Int) ∧ Nn s_ fun l ↦ wok h l.b (l.o + 8) 1 ∧ Vc.Bind (TV.put h l.b (l.o + 8) (.slice (cutSl s (Int.toNat 64) s.len 1))) fun h ↦ K PUnit.unit h) (R (TV.val (.tup [])) h)
theorem sha_state_add_calls (s_ : Option Go.Vc.Loc) (text : List UInt8) (h : Heap) (R : Value → Heap → Prop) (H : sha_state_add_vc s_ text h R) : CallsH Tryz.prog 258 (TVs.vals [.ptr s_, .str text]) h R := via ctx_ok Tryz.func258 (by kernel_rfl) H

def sha_state_end_vc (s_ : Option Go.Vc.Loc) (h : Heap) (R : Value → Heap → Prop) : Prop := Vc.Bind (newTV h (.bytes 32 (Bs.zero 32)) 52) fun h_1 ↦ Nn s_ fun l ↦ ∃ (n : Int), at1 h_1 l.b (l.o + 9) (.int .u64 n) ∧ Nn s_ fun l ↦ ∃ (s : Sl), at1 h_1 l.b (l.o + 8) (slVal s) ∧ ∃ (new : List Value), slAt (Array.push h_1 (row (TVs.cells [.int .u8 128]) 5)) (Sl.mk (some (Loc.mk h_1.size 0)) 1 1) 1 new ∧ (∀ (v : Value), v ∈ new → isOne v = true) ∧ vcAppend YtennbinbffdimaaGreat.ctx 5 s 1 new (Array.push h_1 (row (TVs.cells [.int .u8 128]) 5)) fun s h_2 ↦ Nn s_ fun l ↦ wok h_2 l.b (l.o + 8) 1 ∧ Vc.Bind (TV.put h_2 l.b (l.o + 8) (.slice s)) fun h_3 ↦ Go.Vc.Loop PUnit.unit h_3 fun (s : PUnit) (h_4 : Array Obj) (K : PUnit → Array Obj → Prop) ↦ Nn s_ fun l ↦ ∃ (s : Sl), at1 h_4 l.b (l.o + 8) (slVal s) ∧ (64 : Int) ≠ 0 ∧ If (!decide (Int.tmod (↑s.len : Int) (64 : Int) = 56)) (Nn s_ fun l ↦ ∃ (s : Sl), at1 h_4 l.b (l.o + 8) (slVal s) ∧ ∃ (new : List Value), slAt (Array.push h_4 (row (TVs.cells [.int .u8 0]) 5)) (Sl.mk (some (Loc.mk h_4.size 0)) 1 1) 1 new ∧ (∀ (v : Value), v ∈ new → isOne v = true) ∧ vcAppend YtennbinbffdimaaGreat.ctx 5 s 1 new (Array.push h_4 (row (TVs.cells [.int .u8 0]) 5)) fun s h ↦ Nn s_ fun l ↦ wok h l.b (l.o + 8) 1 ∧ Vc.Bind (TV.put h l.b (l.o + 8) (.slice s)) fun h ↦ K PUnit.unit h) (Go.Vc.Loop (0 : Int) h_4 fun (s : Int) (h_5 : Array Obj) (K : Int → Array Obj → Prop) ↦ If (decide (s < 8)) (Nn s_ fun l ↦ ∃ (s_1 : Sl), at1 h_5 l.b (l.o + 8) (slVal s_1) ∧ 0 ≤ IntKind.wrap .i64 (56 - IntKind.wrap .i64 (8 * s)) ∧ Ext h_5 (Array.push h_5 (row (TVs.cells [.int .u8 (IntKind.wrap .u8 (Int.fdiv (IntKind.wrap .u64 (n * 8)) ((2 : Int) ^ min (Int.toNat (IntKind.wrap .i64 (56 - IntKind.wrap .i64 (8 * s)))) (IntKind.bits .u64))))]) 5)) ∧ ∃ (new : List Value), slAt (Array.push h_5 (row (TVs.cells [.int .u8 (IntKind.wrap .u8 (Int.fdiv (IntKind.wrap .u64 (n * 8)) ((2 : Int) ^ min (Int.toNat (IntKind.wrap .i64 (56 - IntKind.wrap .i64 (8 * s)))) (IntKind.bits .u64))))]) 5)) (Sl.mk (some (Loc.mk h_5.size 0)) 1 1) 1 new ∧ (∀ (v : Value), v ∈ new → isOne v = true) ∧ vcAppend YtennbinbffdimaaGreat.ctx 5 s_1 1 new (Array.push h_5 (row (TVs.cells [.int .u8 (IntKind.wrap .u8 (Int.fdiv (IntKind.wrap .u64 (n * 8)) ((2 : Int) ^ min (Int.toNat (IntKind.wrap .i64 (56 - IntKind.wrap .i64 (8 * s)))) (IntKind.bits .u64))))]) 5)) fun s_2 h ↦ Nn s_ fun l ↦ wok h l.b (l.o + 8) 1 ∧ Vc.Bind (TV.put h l.b (l.o + 8) (.slice s_2)) fun h ↦ K (IntKind.wrap .i64 (s + 1)) h) (Go.Vc.Loop PUnit.unit h_5 fun (s : PUnit) (h_6 : Array Obj) (K : PUnit → Array Obj → Prop) ↦ Nn s_ fun l ↦ ∃ (s : Sl), at1 h_6 l.b (l.o + 8) (slVal s) ∧ If (decide (0 < (↑s.len : Int))) (Nn s_ fun l ↦ ∃ (s : Sl), at1 h_6 l.b (l.o + 8) (slVal s) ∧ (0 : Int) ≤ 64 ∧ 64 ≤ (↑s.cap : Int) ∧ CallsH Tryz.prog 292 (TVs.vals [.ptr s_, .slice (cutSl s 0 (Int.toNat 64) 1)]) h_6 fun v h ↦ v = TV.val (.tup []) ∧ Nn s_ fun l ↦ ∃ (s : Sl), at1 h l.b (l.o + 8) (slVal s) ∧ (0 : Int) ≤ 64 ∧ 64 ≤ (↑s.len : Int) ∧ Nn s_ fun l ↦ wok h l.b (l.o + 8) 1 ∧ Vc.Bind (TV.put h l.b (l.o + 8) (.slice (cutSl s (Int.toNat 64) s.len 1))) fun h ↦ K PUnit.unit h) (Vc.Bind (newTV h_6 (.bytes 32 (Bs.zero 32)) 52) fun h_7 ↦ Nn s_ fun l ↦ ∃ (w : Ws 8), atWords h_7 l.b l.o IntKind.u32 8 w ∧ Go.Vc.Loop (0 : Int) h_7 fun (s : Int) (h_8 : Array Obj) (K : Int → Array Obj → Prop) ↦ If (decide (s < 8)) (0 ≤ s ∧ s < (↑8 : Int) ∧ (0 : Int) ≤ 24 ∧ (0 : Int) ≤ 16 ∧ (0 : Int) ≤ 8 ∧ 0 ≤ IntKind.wrap .i64 (4 * s) ∧ IntKind.wrap .i64 (4 * s) < (↑32 : Int) ∧ wok h_8 h_6.size (0 + Int.toNat (IntKind.wrap .i64 (4 * s)) * 1) 1 ∧ Vc.Bind (TV.put h_8 h_6.size (0 + Int.toNat (IntKind.wrap .i64 (4 * s)) * 1) (.int .u8 (IntKind.wrap .u8 (Int.fdiv (List.getD w.l (Int.toNat s) 0) ((2 : Int) ^ min (Int.toNat 24) (IntKind.bits .u32)))))) fun h ↦ 0 ≤ IntKind.wrap .i64 (IntKind.wrap .i64 (4 * s) + 1) ∧ IntKind.wrap .i64 (IntKind.wrap .i64 (4 * s) + 1) < (↑32 : Int) ∧ wok h h_6.size (0 + Int.toNat (IntKind.wrap .i64 (IntKind.wrap .i64 (4 * s) + 1)) * 1) 1 ∧ Vc.Bind (TV.put h h_6.size (0 + Int.toNat (IntKind.wrap .i64 (IntKind.wrap .i64 (4 * s) + 1)) * 1) (.int .u8 (IntKind.wrap .u8 (Int.fdiv (List.getD w.l (Int.toNat s) 0) ((2 : Int) ^ min (Int.toNat 16) (IntKind.bits .u32)))))) fun h ↦ 0 ≤ IntKind.wrap .i64 (IntKind.wrap .i64 (4 * s) + 2) ∧ IntKind.wrap .i64 (IntKind.wrap .i64 (4 * s) + 2) < (↑32 : Int) ∧ wok h h_6.size (0 + Int.toNat (IntKind.wrap .i64 (IntKind.wrap .i64 (4 * s) + 2)) * 1) 1 ∧ Vc.Bind (TV.put h h_6.size (0 + Int.toNat (IntKind.wrap .i64 (IntKind.wrap .i64 (4 * s) + 2)) * 1) (.int .u8 (IntKind.wrap .u8 (Int.fdiv (List.getD w.l (Int.toNat s) 0) ((2 : Int) ^ min (Int.toNat 8) (IntKind.bits .u32)))))) fun h ↦ 0 ≤ IntKind.wrap .i64 (IntKind.wrap .i64 (4 * s) + 3) ∧ IntKind.wrap .i64 (IntKind.wrap .i64 (4 * s) + 3) < (↑32 : Int) ∧ wok h h_6.size (0 + Int.toNat (IntKind.wrap .i64 (IntKind.wrap .i64 (4 * s) + 3)) * 1) 1 ∧ Vc.Bind (TV.put h h_6.size (0 + Int.toNat (IntKind.wrap .i64 (IntKind.wrap .i64 (4 * s) + 3)) * 1) (.int .u8 (IntKind.wrap .u8 (List.getD w.l (Int.toNat s) 0)))) fun h ↦ K (IntKind.wrap .i64 (s + 1)) h) (∃ (b : Bs 32), atBytes h_8 h_6.size 0 32 b ∧ wok h_8 h.size 0 32 ∧ Vc.Bind (TV.put h_8 h.size 0 (.bytes 32 b)) fun h_9 ↦ ∃ (b : Bs 32), atBytes h_9 h.size 0 32 b ∧ R (TV.val (.bytes 32 b)) h_9))))
theorem sha_state_end_calls (s_ : Option Go.Vc.Loc) (h : Heap) (R : Value → Heap → Prop) (H : sha_state_end_vc s_ h R) : CallsH Tryz.prog 259 (TVs.vals [.ptr s_]) h R := via ctx_ok Tryz.func259 (by kernel_rfl) H

def sha_Of_vc (list : Sl) (h : Heap) (R : Value → Heap → Prop) : Prop := Vc.Bind (newTV h (.bytes 32 (Bs.zero 32)) 52) fun h_1 ↦ CallsH Tryz.prog 257 (TVs.vals []) h_1 fun v h_2 ↦ ∃ (w : Ws 8), v = TV.val (.words IntKind.u32 8 w) ∧ Vc.Bind (newTV h_2 (.agg [.words IntKind.u32 8 w, .slice Sl.nil, .int .u64 0]) 333) fun h_3 ↦ Go.Vc.Loop (0 : Int) h_3 fun (s : Int) (h_4 : Array Obj) (K : Int → Array Obj → Prop) ↦ If (decide (s < (↑list.len : Int))) (0 ≤ s ∧ s < (↑list.len : Int) ∧ Nn list.a fun l ↦ ∃ (s_1 : List UInt8), at1 h_4 l.b (l.o + Int.toNat s * 1) (Value.string (ByteArray.mk (List.toArray s_1))) ∧ CallsH Tryz.prog 258 (TVs.vals [.ptr (some (Loc.mk h_2.size 0)), .str s_1]) h_4 fun v h ↦ v = TV.val (.tup []) ∧ K (IntKind.wrap .i64 (s + 1)) h) (CallsH Tryz.prog 259 (TVs.vals [.ptr (some (Loc.mk h_2.size 0))]) h_4 fun v h_5 ↦ ∃ (b : Bs 32), v = TV.val (.bytes 32 b) ∧ wok h_5 h.size 0 32 ∧ Vc.Bind (TV.put h_5 h.size 0 (.bytes 32 b)) fun h_6 ↦ ∃ (b : Bs 32), atBytes h_6 h.size 0 32 b ∧ R (TV.val (.bytes 32 b)) h_6)
theorem sha_Of_calls (list : Sl) (h : Heap) (R : Value → Heap → Prop) (H : sha_Of_vc list h R) : CallsH Tryz.prog 201 (TVs.vals [.slice list]) h R := via ctx_ok Tryz.func201 (by kernel_rfl) H

def board_lot_vc (slot : Int) (who : Int) (h : Heap) (R : Value → Heap → Prop) : Prop := Vc.Bind (newTV h (.bytes 32 (Bs.zero 32)) 52) fun h_1 ↦ CallsH Tryz.prog 260 (TVs.vals [.slice Sl.nil, .int .u64 (IntKind.wrap .u64 slot), .int .i64 4]) h_1 fun v h_2 ↦ ∃ (s : Sl), v = TV.val (.slice s) ∧ CallsH Tryz.prog 260 (TVs.vals [.slice s, .int .u64 (IntKind.wrap .u64 who), .int .i64 2]) h_2 fun v h_3 ↦ ∃ (s : Sl), v = TV.val (.slice s) ∧ ∃ (bs : List UInt8), strAt h_3 s bs ∧ CallsH Tryz.prog 201 (TVs.vals [.slice (Sl.mk (some (Loc.mk h_3.size 0)) 2 2)]) (Array.push h_3 (row (TVs.cells [.str (ByteArray.mk #[(98 : UInt8), (111 : UInt8), (97 : UInt8), (114 : UInt8), (100 : UInt8)]).data.toList, .str bs]) 9)) fun v h_4 ↦ ∃ (b : Bs 32), v = TV.val (.bytes 32 b) ∧ wok h_4 h.size 0 32 ∧ Vc.Bind (TV.put h_4 h.size 0 (.bytes 32 b)) fun h_5 ↦ ∃ (b : Bs 32), atBytes h_5 h.size 0 32 b ∧ R (TV.val (.bytes 32 b)) h_5
theorem board_lot_calls (slot : Int) (who : Int) (h : Heap) (R : Value → Heap → Prop) (H : board_lot_vc slot who h R) : CallsH Tryz.prog 314 (TVs.vals [.int .i64 slot, .int .i64 who]) h R := via ctx_ok Tryz.func314 (by kernel_rfl) H

def cmp_isNaN_int__vc (x : Int) (h : Heap) (R : Value → Heap → Prop) : Prop := R (TV.val (.bool !decide (x = x))) h
theorem cmp_isNaN_int__calls (x : Int) (h : Heap) (R : Value → Heap → Prop) (H : cmp_isNaN_int__vc x h R) : CallsS Tryz.prog 334 (TVs.vals [.int .i64 x]) h R := via ctxS_ok Tryz.func334 (by kernel_rfl) H

def cmp_Compare_int__vc (x : Int) (y : Int) (h : Heap) (R : Value → Heap → Prop) : Prop := CallsS Tryz.prog 334 (TVs.vals [.int .i64 x]) h fun (v : Value) (h : Heap) ↦ ∃ (b : Bool), v = TV.val (.bool b) ∧ CallsS Tryz.prog 334 (TVs.vals [.int .i64 y]) h fun (v : Value) (h : Heap) ↦ ∃ (b_1 : Bool), v = TV.val (.bool b_1) ∧ If b (If b_1 (R (TV.val (.int .i64 0)) h) (R (TV.val (.int .i64 (-1))) h)) (If b_1 (R (TV.val (.int .i64 1)) h) (If (decide (x < y)) (R (TV.val (.int .i64 (-1))) h) (If (decide (y < x)) (R (TV.val (.int .i64 1)) h) (R (TV.val (.int .i64 0)) h))))
theorem cmp_Compare_int__calls (x : Int) (y : Int) (h : Heap) (R : Value → Heap → Prop) (H : cmp_Compare_int__vc x y h R) : CallsS Tryz.prog 336 (TVs.vals [.int .i64 x, .int .i64 y]) h R := via ctxS_ok Tryz.func336 (by kernel_rfl) H

def board_before_vc (a_lot : Bs 32) (a_who : Int) (b_lot : Bs 32) (b_who : Int) (h : Heap) (R : Value → Heap → Prop) : Prop := Vc.Bind (newTV h (.agg [.bytes 32 a_lot, .int .i64 a_who]) 385) fun h_1 ↦ Vc.Bind (newTV h_1 (.agg [.bytes 32 b_lot, .int .i64 b_who]) 385) fun h_2 ↦ ∃ (b : Bs 32), atBytes h_2 h.size 0 32 b ∧ ∃ (b_1 : Bs 32), atBytes h_2 h_1.size 0 32 b_1 ∧ CallsS Tryz.prog 198 (TVs.vals [.bytes 32 b, .bytes 32 b_1]) h_2 fun v h_3 ↦ ∃ (b : Bool), v = TV.val (.bool b) ∧ If b (R (TV.val (.int .i64 (-1))) h_3) (∃ (b : Bs 32), atBytes h_3 h_1.size 0 32 b ∧ ∃ (b_2 : Bs 32), atBytes h_3 h.size 0 32 b_2 ∧ CallsS Tryz.prog 198 (TVs.vals [.bytes 32 b, .bytes 32 b_2]) h_3 fun v h_4 ↦ ∃ (b : Bool), v = TV.val (.bool b) ∧ If b (R (TV.val (.int .i64 1)) h_4) (∃ (n : Int), at1 h_4 h.size 32 (.int .i64 n) ∧ ∃ (n_1 : Int), at1 h_4 h_1.size 32 (.int .i64 n_1) ∧ CallsS Tryz.prog 336 (TVs.vals [.int .i64 n, .int .i64 n_1]) h_4 fun v h ↦ ∃ (n : Int), v = TV.val (.int .i64 n) ∧ R (TV.val (.int .i64 n)) h))
theorem board_before_calls (a_lot : Bs 32) (a_who : Int) (b_lot : Bs 32) (b_who : Int) (h : Heap) (R : Value → Heap → Prop) (H : board_before_vc a_lot a_who b_lot b_who h R) : CallsS Tryz.prog 316 (TVs.vals [.agg [.bytes 32 a_lot, .int .i64 a_who], .agg [.bytes 32 b_lot, .int .i64 b_who]]) h R := via ctxS_ok Tryz.func316 (by kernel_rfl) H

def board_Members_vc (c_Validators : Sl) (c_Epoch : Int) (c_Committee : Int) (c_Nodes : Int) (c_Orphans : Int) (c_Early : Int) (c_Quota : Int) (c_Peers : Int) (c_Bytes : Int) (c_Window : Int) (c_Ban : Int) (c_Decay : Int) (slot : Int) (h : Heap) (R : Value → Heap → Prop) : Prop := Vc.Bind (newTV h (.agg [.slice c_Validators, .int .i64 c_Epoch, .int .i64 c_Committee, .int .i64 c_Nodes, .int .i64 c_Orphans, .int .i64 c_Early, .int .i64 c_Quota, .int .i64 c_Peers, .int .i64 c_Bytes, .int .i64 c_Window, .int .i64 c_Ban, .int .i64 c_Decay]) 24) fun h_1 ↦ Join (fun s h_2 ↦ ∃ (s : Sl), at1 h_2 h.size 0 (slVal s) ∧ Go.Vc.Loop (Sl.mk none 0 0, 0) h_2 fun (s_1 : Sl × Int) (h_3 : Array Obj) (K : Sl × Int → Array Obj → Prop) ↦ If (decide (s_1.snd < (↑s.len : Int))) (CallsH Tryz.prog 314 (TVs.vals [.int .i64 slot, .int .i64 s_1.snd]) h_3 fun v h ↦ ∃ (b : Bs 32), v = TV.val (.bytes 32 b) ∧ ∃ (new : List Value), slAt (Array.push h (row (TVs.cells [.agg [.bytes 32 b, .int .i64 s_1.snd]]) 385)) (Sl.mk (some (Loc.mk h.size 0)) 1 1) 33 new ∧ (∀ (v : Value), v ∈ new → isOne v = true) ∧ vcAppend YtennbinbffdimaaGreat.ctx 385 s_1.fst 1 new (Array.push h (row (TVs.cells [.agg [.bytes 32 b, .int .i64 s_1.snd]]) 385)) fun s h ↦ K (s, IntKind.wrap .i64 (s_1.snd + 1)) h) (CallsH Tryz.prog 315 (TVs.vals [.slice s_1.fst, .fn (Fn.func 316) [] []]) h_3 fun v h_4 ↦ v = TV.val (.tup []) ∧ ∃ (n : Int), at1 h_4 h.size 2 (.int .i64 n) ∧ 0 ≤ mn (mx n 0) (↑s_1.fst.len : Int) ∧ mn (mx n 0) (↑s_1.fst.len : Int) ≤ (↑s_1.fst.cap : Int) ∧ Go.Vc.Loop (Sl.mk none 0 0, 0) h_4 fun (s : Sl × Int) (h : Array Obj) (K : Sl × Int → Array Obj → Prop) ↦ If (decide (s.snd < (↑(cutSl s_1.fst 0 (Int.toNat (mn (mx n 0) (↑s_1.fst.len : Int))) 33).len : Int))) (0 ≤ s.snd ∧ s.snd < (↑(cutSl s_1.fst 0 (Int.toNat (mn (mx n 0) (↑s_1.fst.len : Int))) 33).len : Int) ∧ Nn (cutSl s_1.fst 0 (Int.toNat (mn (mx n 0) (↑s_1.fst.len : Int))) 33).a fun l ↦ ∃ (b : Bs 32), ∃ (n : Int), (atBytes h l.b (l.o + Int.toNat s.snd * 33) 32 b ∧ at1 h l.b (l.o + Int.toNat s.snd * 33 + 32) (.int .i64 n)) ∧ Vc.Bind (newTV h (.agg [.bytes 32 (Bs.zero 32), .int .i64 0]) 385) fun h_5 ↦ wok h_5 h.size 0 33 ∧ Vc.Bind (TV.put h_5 h.size 0 (.agg [.bytes 32 b, .int .i64 n])) fun h_6 ↦ ∃ (n : Int), at1 h_6 h.size 32 (.int .i64 n) ∧ ∃ (new : List Value), slAt (Array.push h_6 (row (TVs.cells [.int .i64 n]) 3)) (Sl.mk (some (Loc.mk h_6.size 0)) 1 1) 1 new ∧ (∀ (v : Value), v ∈ new → isOne v = true) ∧ vcAppend YtennbinbffdimaaGreat.ctx 3 s.fst 1 new (Array.push h_6 (row (TVs.cells [.int .i64 n]) 3)) fun s_2 h ↦ K (s_2, IntKind.wrap .i64 (s.snd + 1)) h) (R (TV.val (.slice s.fst)) h))) fun (J : Sl → Array Obj → Prop) ↦ If (decide (slot < 0)) (R (TV.val (.slice Sl.nil)) h_1) (If (decide (1073741824 < slot)) (R (TV.val (.slice Sl.nil)) h_1) (J (Sl.mk none 0 0) h_1))
theorem board_Members_calls (c_Validators : Sl) (c_Epoch : Int) (c_Committee : Int) (c_Nodes : Int) (c_Orphans : Int) (c_Early : Int) (c_Quota : Int) (c_Peers : Int) (c_Bytes : Int) (c_Window : Int) (c_Ban : Int) (c_Decay : Int) (slot : Int) (h : Heap) (R : Value → Heap → Prop) (H : board_Members_vc c_Validators c_Epoch c_Committee c_Nodes c_Orphans c_Early c_Quota c_Peers c_Bytes c_Window c_Ban c_Decay slot h R) : CallsH Tryz.prog 279 (TVs.vals [.agg [.slice c_Validators, .int .i64 c_Epoch, .int .i64 c_Committee, .int .i64 c_Nodes, .int .i64 c_Orphans, .int .i64 c_Early, .int .i64 c_Quota, .int .i64 c_Peers, .int .i64 c_Bytes, .int .i64 c_Window, .int .i64 c_Ban, .int .i64 c_Decay], .int .i64 slot]) h R := via ctx_ok Tryz.func279 (by kernel_rfl) H

def slices_Index___int_int__vc (s_ : Sl) (v_ : Int) (h : Heap) (R : Value → Heap → Prop) : Prop := Go.Vc.Loop (0, 0) h fun (s : Int × Int) (h : Array Obj) (K : Int × Int → Array Obj → Prop) ↦ If (decide (s.snd < (↑s_.len : Int))) (0 ≤ s.snd ∧ s.snd < (↑s_.len : Int) ∧ Nn s_.a fun l ↦ ∃ (n : Int), at1 h l.b (l.o + Int.toNat s.snd * 1) (.int .i64 n) ∧ If (decide (v_ = n)) (R (TV.val (.int .i64 s.snd)) h) (K (s.fst, IntKind.wrap .i64 (s.snd + 1)) h)) (R (TV.val (.int .i64 (-1))) h)
theorem slices_Index___int_int__calls (s_ : Sl) (v_ : Int) (h : Heap) (R : Value → Heap → Prop) (H : slices_Index___int_int__vc s_ v_ h R) : CallsH Tryz.prog 280 (TVs.vals [.slice s_, .int .i64 v_]) h R := via ctx_ok Tryz.func280 (by kernel_rfl) H

def board_Place_vc (c_Validators : Sl) (c_Epoch : Int) (c_Committee : Int) (c_Nodes : Int) (c_Orphans : Int) (c_Early : Int) (c_Quota : Int) (c_Peers : Int) (c_Bytes : Int) (c_Window : Int) (c_Ban : Int) (c_Decay : Int) (slot : Int) (who : Int) (h : Heap) (R : Value → Heap → Prop) : Prop := Vc.Bind (newTV h (.agg [.slice c_Validators, .int .i64 c_Epoch, .int .i64 c_Committee, .int .i64 c_Nodes, .int .i64 c_Orphans, .int .i64 c_Early, .int .i64 c_Quota, .int .i64 c_Peers, .int .i64 c_Bytes, .int .i64 c_Window, .int .i64 c_Ban, .int .i64 c_Decay]) 24) fun h_1 ↦ ∃ (s : Sl), ∃ (n n_1 n_2 n_3 n_4 n_5 n_6 n_7 n_8 n_9 n_10 : Int), (at1 h_1 h.size 0 (slVal s) ∧ at1 h_1 h.size 1 (.int .i64 n) ∧ at1 h_1 h.size 2 (.int .i64 n_1) ∧ at1 h_1 h.size 3 (.int .i64 n_2) ∧ at1 h_1 h.size 4 (.int .i64 n_3) ∧ at1 h_1 h.size 5 (.int .i64 n_4) ∧ at1 h_1 h.size 6 (.int .i64 n_5) ∧ at1 h_1 h.size 7 (.int .i64 n_6) ∧ at1 h_1 h.size 8 (.int .i64 n_7) ∧ at1 h_1 h.size 9 (.int .i64 n_8) ∧ at1 h_1 h.size 10 (.int .i64 n_9) ∧ at1 h_1 h.size 11 (.int .i64 n_10)) ∧ CallsH Tryz.prog 279 (TVs.vals [.agg [.slice s, .int .i64 n, .int .i64 n_1, .int .i64 n_2, .int .i64 n_3, .int .i64 n_4, .int .i64 n_5, .int .i64 n_6, .int .i64 n_7, .int .i64 n_8, .int .i64 n_9, .int .i64 n_10], .int .i64 slot]) h_1 fun v h ↦ ∃ (s : Sl), v = TV.val (.slice s) ∧ CallsH Tryz.prog 280 (TVs.vals [.slice s, .int .i64 who]) h fun v h ↦ ∃ (n : Int), v = TV.val (.int .i64 n) ∧ R (TV.val (.int .i64 n)) h
theorem board_Place_calls (c_Validators : Sl) (c_Epoch : Int) (c_Committee : Int) (c_Nodes : Int) (c_Orphans : Int) (c_Early : Int) (c_Quota : Int) (c_Peers : Int) (c_Bytes : Int) (c_Window : Int) (c_Ban : Int) (c_Decay : Int) (slot : Int) (who : Int) (h : Heap) (R : Value → Heap → Prop) (H : board_Place_vc c_Validators c_Epoch c_Committee c_Nodes c_Orphans c_Early c_Quota c_Peers c_Bytes c_Window c_Ban c_Decay slot who h R) : CallsH Tryz.prog 235 (TVs.vals [.agg [.slice c_Validators, .int .i64 c_Epoch, .int .i64 c_Committee, .int .i64 c_Nodes, .int .i64 c_Orphans, .int .i64 c_Early, .int .i64 c_Quota, .int .i64 c_Peers, .int .i64 c_Bytes, .int .i64 c_Window, .int .i64 c_Ban, .int .i64 c_Decay], .int .i64 slot, .int .i64 who]) h R := via ctx_ok Tryz.func235 (by kernel_rfl) H

def board_Proposer_vc (c_Validators : Sl) (c_Epoch : Int) (c_Committee : Int) (c_Nodes : Int) (c_Orphans : Int) (c_Early : Int) (c_Quota : Int) (c_Peers : Int) (c_Bytes : Int) (c_Window : Int) (c_Ban : Int) (c_Decay : Int) (slot : Int) (h : Heap) (R : Value → Heap → Prop) : Prop := Vc.Bind (newTV h (.agg [.slice c_Validators, .int .i64 c_Epoch, .int .i64 c_Committee, .int .i64 c_Nodes, .int .i64 c_Orphans, .int .i64 c_Early, .int .i64 c_Quota, .int .i64 c_Peers, .int .i64 c_Bytes, .int .i64 c_Window, .int .i64 c_Ban, .int .i64 c_Decay]) 24) fun h_1 ↦ ∃ (s : Sl), ∃ (n n_1 n_2 n_3 n_4 n_5 n_6 n_7 n_8 n_9 n_10 : Int), (at1 h_1 h.size 0 (slVal s) ∧ at1 h_1 h.size 1 (.int .i64 n) ∧ at1 h_1 h.size 2 (.int .i64 n_1) ∧ at1 h_1 h.size 3 (.int .i64 n_2) ∧ at1 h_1 h.size 4 (.int .i64 n_3) ∧ at1 h_1 h.size 5 (.int .i64 n_4) ∧ at1 h_1 h.size 6 (.int .i64 n_5) ∧ at1 h_1 h.size 7 (.int .i64 n_6) ∧ at1 h_1 h.size 8 (.int .i64 n_7) ∧ at1 h_1 h.size 9 (.int .i64 n_8) ∧ at1 h_1 h.size 10 (.int .i64 n_9) ∧ at1 h_1 h.size 11 (.int .i64 n_10)) ∧ CallsH Tryz.prog 279 (TVs.vals [.agg [.slice s, .int .i64 n, .int .i64 n_1, .int .i64 n_2, .int .i64 n_3, .int .i64 n_4, .int .i64 n_5, .int .i64 n_6, .int .i64 n_7, .int .i64 n_8, .int .i64 n_9, .int .i64 n_10], .int .i64 slot]) h_1 fun v h ↦ ∃ (s : Sl), v = TV.val (.slice s) ∧ If (decide (0 < (↑s.len : Int))) ((0 : Int) ≤ 0 ∧ 0 < (↑s.len : Int) ∧ Nn s.a fun l ↦ ∃ (n : Int), at1 h l.b (l.o + Int.toNat 0 * 1) (.int .i64 n) ∧ R (TV.val (.int .i64 n)) h) (R (TV.val (.int .i64 (-1))) h)
theorem board_Proposer_calls (c_Validators : Sl) (c_Epoch : Int) (c_Committee : Int) (c_Nodes : Int) (c_Orphans : Int) (c_Early : Int) (c_Quota : Int) (c_Peers : Int) (c_Bytes : Int) (c_Window : Int) (c_Ban : Int) (c_Decay : Int) (slot : Int) (h : Heap) (R : Value → Heap → Prop) (H : board_Proposer_vc c_Validators c_Epoch c_Committee c_Nodes c_Orphans c_Early c_Quota c_Peers c_Bytes c_Window c_Ban c_Decay slot h R) : CallsH Tryz.prog 234 (TVs.vals [.agg [.slice c_Validators, .int .i64 c_Epoch, .int .i64 c_Committee, .int .i64 c_Nodes, .int .i64 c_Orphans, .int .i64 c_Early, .int .i64 c_Quota, .int .i64 c_Peers, .int .i64 c_Bytes, .int .i64 c_Window, .int .i64 c_Ban, .int .i64 c_Decay], .int .i64 slot]) h R := via ctx_ok Tryz.func234 (by kernel_rfl) H

def board_Pick_vc (c_Validators : Sl) (c_Epoch : Int) (c_Committee : Int) (c_Nodes : Int) (c_Orphans : Int) (c_Early : Int) (c_Quota : Int) (c_Peers : Int) (c_Bytes : Int) (c_Window : Int) (c_Ban : Int) (c_Decay : Int) (slot : Int) (bits : Sl) (h : Heap) (R : Value → Heap → Prop) : Prop := Vc.Bind (newTV h (.agg [.slice c_Validators, .int .i64 c_Epoch, .int .i64 c_Committee, .int .i64 c_Nodes, .int .i64 c_Orphans, .int .i64 c_Early, .int .i64 c_Quota, .int .i64 c_Peers, .int .i64 c_Bytes, .int .i64 c_Window, .int .i64 c_Ban, .int .i64 c_Decay]) 24) fun h_1 ↦ ∃ (s : Sl), ∃ (n n_1 n_2 n_3 n_4 n_5 n_6 n_7 n_8 n_9 n_10 : Int), (at1 h_1 h.size 0 (slVal s) ∧ at1 h_1 h.size 1 (.int .i64 n) ∧ at1 h_1 h.size 2 (.int .i64 n_1) ∧ at1 h_1 h.size 3 (.int .i64 n_2) ∧ at1 h_1 h.size 4 (.int .i64 n_3) ∧ at1 h_1 h.size 5 (.int .i64 n_4) ∧ at1 h_1 h.size 6 (.int .i64 n_5) ∧ at1 h_1 h.size 7 (.int .i64 n_6) ∧ at1 h_1 h.size 8 (.int .i64 n_7) ∧ at1 h_1 h.size 9 (.int .i64 n_8) ∧ at1 h_1 h.size 10 (.int .i64 n_9) ∧ at1 h_1 h.size 11 (.int .i64 n_10)) ∧ CallsH Tryz.prog 279 (TVs.vals [.agg [.slice s, .int .i64 n, .int .i64 n_1, .int .i64 n_2, .int .i64 n_3, .int .i64 n_4, .int .i64 n_5, .int .i64 n_6, .int .i64 n_7, .int .i64 n_8, .int .i64 n_9, .int .i64 n_10], .int .i64 slot]) h_1 fun v h ↦ ∃ (s : Sl), v = TV.val (.slice s) ∧ Join (fun (s_1 : Sl × Bool) (h : Array Obj) ↦ Go.Vc.Loop (Sl.mk none 0 0, 0) h fun (s_2 : Sl × Int) (h : Array Obj) (K : Sl × Int → Array Obj → Prop) ↦ If (decide (s_2.snd < (↑s.len : Int))) (0 ≤ s_2.snd ∧ s_2.snd < (↑s.len : Int) ∧ Nn s.a fun l ↦ ∃ (n : Int), at1 h l.b (l.o + Int.toNat s_2.snd * 1) (.int .i64 n) ∧ 0 ≤ s_2.snd ∧ s_2.snd < (↑bits.len : Int) ∧ Nn bits.a fun l ↦ ∃ (b : Bool), at1 h l.b (l.o + Int.toNat s_2.snd * 1) (Value.bool b) ∧ If b (∃ (new : List Value), slAt (Array.push h (row (TVs.cells [.int .i64 n]) 3)) (Sl.mk (some (Loc.mk h.size 0)) 1 1) 1 new ∧ (∀ (v : Value), v ∈ new → isOne v = true) ∧ vcAppend YtennbinbffdimaaGreat.ctx 3 s_2.fst 1 new (Array.push h (row (TVs.cells [.int .i64 n]) 3)) fun s h ↦ K (s, IntKind.wrap .i64 (s_2.snd + 1)) h) (K (s_2.fst, IntKind.wrap .i64 (s_2.snd + 1)) h)) (R (TV.val (.tup [.slice s_2.fst, .bool true])) h)) fun (J : Sl × Bool → Array Obj → Prop) ↦ If (decide ((↑s.len : Int) = 0)) (R (TV.val (.tup [.slice Sl.nil, .bool false])) h) (If (!decide ((↑bits.len : Int) = (↑s.len : Int))) (R (TV.val (.tup [.slice Sl.nil, .bool false])) h) (J (Sl.mk none 0 0, false) h))
theorem board_Pick_calls (c_Validators : Sl) (c_Epoch : Int) (c_Committee : Int) (c_Nodes : Int) (c_Orphans : Int) (c_Early : Int) (c_Quota : Int) (c_Peers : Int) (c_Bytes : Int) (c_Window : Int) (c_Ban : Int) (c_Decay : Int) (slot : Int) (bits : Sl) (h : Heap) (R : Value → Heap → Prop) (H : board_Pick_vc c_Validators c_Epoch c_Committee c_Nodes c_Orphans c_Early c_Quota c_Peers c_Bytes c_Window c_Ban c_Decay slot bits h R) : CallsH Tryz.prog 233 (TVs.vals [.agg [.slice c_Validators, .int .i64 c_Epoch, .int .i64 c_Committee, .int .i64 c_Nodes, .int .i64 c_Orphans, .int .i64 c_Early, .int .i64 c_Quota, .int .i64 c_Peers, .int .i64 c_Bytes, .int .i64 c_Window, .int .i64 c_Ban, .int .i64 c_Decay], .int .i64 slot, .slice bits]) h R := via ctx_ok Tryz.func233 (by kernel_rfl) H

def tollerref05_Great_vc (c_Validators : Sl) (c_Epoch : Int) (c_Committee : Int) (c_Nodes : Int) (c_Orphans : Int) (c_Early : Int) (c_Quota : Int) (c_Peers : Int) (c_Bytes : Int) (c_Window : Int) (c_Ban : Int) (c_Decay : Int) (h : Heap) (R : Value → Heap → Prop) : Prop := Vc.Bind (newTV h (.agg [.slice c_Validators, .int .i64 c_Epoch, .int .i64 c_Committee, .int .i64 c_Nodes, .int .i64 c_Orphans, .int .i64 c_Early, .int .i64 c_Quota, .int .i64 c_Peers, .int .i64 c_Bytes, .int .i64 c_Window, .int .i64 c_Ban, .int .i64 c_Decay]) 24) fun h_1 ↦ ∃ (s : Sl), at1 h_1 h.size 0 (slVal s) ∧ If (decide (100 < (↑s.len : Int))) (R (TV.val (.bool true)) h_1) (∃ (s : Sl), at1 h_1 h.size 0 (slVal s) ∧ Go.Vc.Loop (false, 0) h_1 fun (s_1 : Bool × Int) (h : Array Obj) (K : Bool × Int → Array Obj → Prop) ↦ If (decide (s_1.snd < (↑s.len : Int))) (0 ≤ s_1.snd ∧ s_1.snd < (↑s.len : Int) ∧ Nn s.a fun l ↦ ∃ (n : Int), ∃ (s : List UInt8), (at1 h l.b (l.o + Int.toNat s_1.snd * 2) (.int .i64 n) ∧ at1 h l.b (l.o + Int.toNat s_1.snd * 2 + 1) (Value.string (ByteArray.mk (List.toArray s)))) ∧ Vc.Bind (newTV h (.agg [.int .i64 0, .str []]) 137) fun h_2 ↦ wok h_2 h.size 0 2 ∧ Vc.Bind (TV.put h_2 h.size 0 (.agg [.int .i64 n, .str s])) fun h_3 ↦ ∃ (s : List UInt8), at1 h_3 h.size 1 (Value.string (ByteArray.mk (List.toArray s))) ∧ If (decide (200 < (↑(List.length s) : Int))) (R (TV.val (.bool true)) h_3) (K (s_1.fst, IntKind.wrap .i64 (s_1.snd + 1)) h_3)) (R (TV.val (.bool false)) h))
theorem tollerref05_Great_calls (c_Validators : Sl) (c_Epoch : Int) (c_Committee : Int) (c_Nodes : Int) (c_Orphans : Int) (c_Early : Int) (c_Quota : Int) (c_Peers : Int) (c_Bytes : Int) (c_Window : Int) (c_Ban : Int) (c_Decay : Int) (h : Heap) (R : Value → Heap → Prop) (H : tollerref05_Great_vc c_Validators c_Epoch c_Committee c_Nodes c_Orphans c_Early c_Quota c_Peers c_Bytes c_Window c_Ban c_Decay h R) : CallsH Tryz.prog 18 (TVs.vals [.agg [.slice c_Validators, .int .i64 c_Epoch, .int .i64 c_Committee, .int .i64 c_Nodes, .int .i64 c_Orphans, .int .i64 c_Early, .int .i64 c_Quota, .int .i64 c_Peers, .int .i64 c_Bytes, .int .i64 c_Window, .int .i64 c_Ban, .int .i64 c_Decay]]) h R := via ctx_ok Tryz.func18 (by kernel_rfl) H

def tollerref05_Total_vc (l_ : Sl) (h : Heap) (R : Value → Heap → Prop) : Prop := Go.Vc.Loop (0, false, 0, 0) h fun (s : Int × Bool × Int × Int) (h : Array Obj) (K : Int × Bool × Int × Int → Array Obj → Prop) ↦ If (decide (s.snd.snd.snd < (↑l_.len : Int))) (0 ≤ s.snd.snd.snd ∧ s.snd.snd.snd < (↑l_.len : Int) ∧ Nn l_.a fun l ↦ ∃ (n : Int), ∃ (s_1 : List UInt8), (at1 h l.b (l.o + Int.toNat s.snd.snd.snd * 2) (.int .i64 n) ∧ at1 h l.b (l.o + Int.toNat s.snd.snd.snd * 2 + 1) (Value.string (ByteArray.mk (List.toArray s_1)))) ∧ Vc.Bind (newTV h (.agg [.int .i64 0, .str []]) 137) fun h_1 ↦ wok h_1 h.size 0 2 ∧ Vc.Bind (TV.put h_1 h.size 0 (.agg [.int .i64 n, .str s_1])) fun h_2 ↦ ∃ (n : Int), at1 h_2 h.size 0 (.int .i64 n) ∧ If (decide (n < 0)) (R (TV.val (.tup [.int .i64 0, .bool false])) h_2) (∃ (s_2 : List UInt8), at1 h_2 h.size 1 (Value.string (ByteArray.mk (List.toArray s_2))) ∧ If (decide ((↑(List.length s_2) : Int) < 1)) (R (TV.val (.tup [.int .i64 0, .bool false])) h_2) (∃ (s_3 : List UInt8), at1 h_2 h.size 1 (Value.string (ByteArray.mk (List.toArray s_3))) ∧ If (decide (32 < (↑(List.length s_3) : Int))) (R (TV.val (.tup [.int .i64 0, .bool false])) h_2) (∃ (n : Int), at1 h_2 h.size 0 (.int .i64 n) ∧ If (decide (4611686018427387904 ≤ IntKind.wrap .u64 (s.snd.snd.fst + IntKind.wrap .u64 n))) (R (TV.val (.tup [.int .i64 0, .bool false])) h_2) (K (s.fst, s.snd.fst, IntKind.wrap .u64 (s.snd.snd.fst + IntKind.wrap .u64 n), IntKind.wrap .i64 (s.snd.snd.snd + 1)) h_2))))) (R (TV.val (.tup [.int .i64 (IntKind.wrap .i64 s.snd.snd.fst), .bool true])) h)
theorem tollerref05_Total_calls (l_ : Sl) (h : Heap) (R : Value → Heap → Prop) (H : tollerref05_Total_vc l_ h R) : CallsH Tryz.prog 163 (TVs.vals [.slice l_]) h R := via ctx_ok Tryz.func163 (by kernel_rfl) H

def tree_Tree_Place_vc (t : Option Go.Vc.Loc) (root : Bs 32) (h : Heap) (R : Value → Heap → Prop) : Prop := Vc.Bind (newTV h (.bytes 32 root) 52) fun h_1 ↦ If (Option.isNone t) (R (TV.val (.int .i64 (-1))) h_1) (Nn t fun l ↦ ∃ (r : Option Nat), at1 h_1 l.b (l.o + 1) (Value.map r) ∧ ∃ (b : Bs 32), atBytes h_1 h.size 0 32 b ∧ MapAt h_1 r fun (es : List (TV × TV × Nat)) (c : Nat) ↦ AllLike YtennbinbffdimaaGreat.ctx (TypeDesc.array 32 5) es ∧ ∃ (n : Int), orE (findE (.bytes 32 b) es) (.int .i64 0) = .int .i64 n ∧ If (hasE (.bytes 32 b) es) (R (TV.val (.int .i64 n)) h_1) (R (TV.val (.int .i64 (-1))) h_1))
theorem tree_Tree_Place_calls (t : Option Go.Vc.Loc) (root : Bs 32) (h : Heap) (R : Value → Heap → Prop) (H : tree_Tree_Place_vc t root h R) : CallsH Tryz.prog 35 (TVs.vals [.ptr t, .bytes 32 root]) h R := via ctx_ok Tryz.func35 (by kernel_rfl) H

def tree_Tree_Len_vc (t : Option Go.Vc.Loc) (h : Heap) (R : Value → Heap → Prop) : Prop := If (Option.isNone t) (R (TV.val (.int .i64 0)) h) (Nn t fun l ↦ ∃ (s : Sl), at1 h l.b l.o (slVal s) ∧ R (TV.val (.int .i64 (↑s.len : Int))) h)
theorem tree_Tree_Len_calls (t : Option Go.Vc.Loc) (h : Heap) (R : Value → Heap → Prop) (H : tree_Tree_Len_vc t h R) : CallsH Tryz.prog 57 (TVs.vals [.ptr t]) h R := via ctx_ok Tryz.func57 (by kernel_rfl) H

def tree_Tree_Node_vc (t : Option Go.Vc.Loc) (i : Int) (h : Heap) (R : Value → Heap → Prop) : Prop := Vc.Bind (newTV h (.agg [.bytes 32 (Bs.zero 32), .int .i64 0, .int .i64 0]) 69) fun h_1 ↦ If (Option.isNone t) (wok h_1 h.size 0 34 ∧ Vc.Bind (TV.put h_1 h.size 0 (.agg [.bytes 32 (Bs.zero 32), .int .i64 0, .int .i64 (-1)])) fun h_2 ↦ ∃ (b : Bs 32), ∃ (n n_1 : Int), (atBytes h_2 h.size 0 32 b ∧ at1 h_2 h.size 32 (.int .i64 n) ∧ at1 h_2 h.size 33 (.int .i64 n_1)) ∧ R (TV.val (.tup [.agg [.bytes 32 b, .int .i64 n, .int .i64 n_1], .bool false])) h_2) (If (decide (i < 0)) (wok h_1 h.size 0 34 ∧ Vc.Bind (TV.put h_1 h.size 0 (.agg [.bytes 32 (Bs.zero 32), .int .i64 0, .int .i64 (-1)])) fun h_2 ↦ ∃ (b : Bs 32), ∃ (n n_1 : Int), (atBytes h_2 h.size 0 32 b ∧ at1 h_2 h.size 32 (.int .i64 n) ∧ at1 h_2 h.size 33 (.int .i64 n_1)) ∧ R (TV.val (.tup [.agg [.bytes 32 b, .int .i64 n, .int .i64 n_1], .bool false])) h_2) (Nn t fun l ↦ ∃ (s : Sl), at1 h_1 l.b l.o (slVal s) ∧ If (decide ((↑s.len : Int) ≤ i)) (wok h_1 h.size 0 34 ∧ Vc.Bind (TV.put h_1 h.size 0 (.agg [.bytes 32 (Bs.zero 32), .int .i64 0, .int .i64 (-1)])) fun h_2 ↦ ∃ (b : Bs 32), ∃ (n n_1 : Int), (atBytes h_2 h.size 0 32 b ∧ at1 h_2 h.size 32 (.int .i64 n) ∧ at1 h_2 h.size 33 (.int .i64 n_1)) ∧ R (TV.val (.tup [.agg [.bytes 32 b, .int .i64 n, .int .i64 n_1], .bool false])) h_2) (Nn t fun l ↦ ∃ (s : Sl), at1 h_1 l.b l.o (slVal s) ∧ 0 ≤ i ∧ i < (↑s.len : Int) ∧ Nn s.a fun l ↦ ∃ (b : Bs 32), ∃ (n n_1 : Int), (atBytes h_1 l.b (l.o + Int.toNat i * 34) 32 b ∧ at1 h_1 l.b (l.o + Int.toNat i * 34 + 32) (.int .i64 n) ∧ at1 h_1 l.b (l.o + Int.toNat i * 34 + 32 + 1) (.int .i64 n_1)) ∧ wok h_1 h.size 0 34 ∧ Vc.Bind (TV.put h_1 h.size 0 (.agg [.bytes 32 b, .int .i64 n, .int .i64 n_1])) fun h_2 ↦ ∃ (b : Bs 32), ∃ (n n_2 : Int), (atBytes h_2 h.size 0 32 b ∧ at1 h_2 h.size 32 (.int .i64 n) ∧ at1 h_2 h.size 33 (.int .i64 n_2)) ∧ R (TV.val (.tup [.agg [.bytes 32 b, .int .i64 n, .int .i64 n_2], .bool true])) h_2)))
theorem tree_Tree_Node_calls (t : Option Go.Vc.Loc) (i : Int) (h : Heap) (R : Value → Heap → Prop) (H : tree_Tree_Node_vc t i h R) : CallsH Tryz.prog 34 (TVs.vals [.ptr t, .int .i64 i]) h R := via ctx_ok Tryz.func34 (by kernel_rfl) H

def tree_New_vc (root : Bs 32) (slot : Int) (most : Int) (h : Heap) (R : Value → Heap → Prop) : Prop := Vc.Bind (newTV h (.bytes 32 root) 52) fun h_1 ↦ Join (fun (s : Option Go.Vc.Loc × Int) (h_2 : Array Obj) ↦ ∃ (b : Bs 32), atBytes h_2 h.size 0 32 b ∧ ∃ (b_1 : Bs 32), atBytes h_2 h.size 0 32 b_1 ∧ (Ext h_2 (Array.push h_2 (row (TVs.cells [.agg [.bytes 32 b, .int .i64 slot, .int .i64 (-1)]]) 69)) ∧ Ext h_2 (Array.push (Array.push h_2 (row (TVs.cells [.agg [.bytes 32 b, .int .i64 slot, .int .i64 (-1)]]) 69)) (mapO [] 0)) ∧ ∃ (es : List (TV × TV × Nat)), ∃ (c : Nat), (Array.push (Array.push h_2 (row (TVs.cells [.agg [.bytes 32 b, .int .i64 slot, .int .i64 (-1)]]) 69)) (mapO [] 0))[Array.size (Array.push h_2 (row (TVs.cells [.agg [.bytes 32 b, .int .i64 slot, .int .i64 (-1)]]) 69))]? = some (mapO es c) ∧ AllLike YtennbinbffdimaaGreat.ctx (TypeDesc.array 32 5) es ∧ Vc.Bind (Array.setIfInBounds (Array.push (Array.push h_2 (row (TVs.cells [.agg [.bytes 32 b, .int .i64 slot, .int .i64 (-1)]]) 69)) (mapO [] 0)) (Array.size (Array.push h_2 (row (TVs.cells [.agg [.bytes 32 b, .int .i64 slot, .int .i64 (-1)]]) 69))) (mapO (putE (.bytes 32 b_1) (.int .i64 0) c es) (clockE (.bytes 32 b_1) c es))) fun h ↦ Ext h_2 h ∧ Vc.Bind (newTV h (.agg [.slice (Sl.mk (some (Loc.mk h_2.size 0)) 1 1), .map (some (Array.size (Array.push h_2 (row (TVs.cells [.agg [.bytes 32 b, .int .i64 slot, .int .i64 (-1)]]) 69)))), .int .i64 most]) 168) fun h_3 ↦ R (TV.val (.tup [.ptr (some (Loc.mk h.size 0)), .int .i64 0])) h_3) ∧ Ext h_2 (Array.push h_2 (mapO [] 0)) ∧ (Ext h_2 (Array.push (Array.push h_2 (mapO [] 0)) (row (TVs.cells [.agg [.bytes 32 b, .int .i64 slot, .int .i64 (-1)]]) 69)) ∧ ∃ (es : List (TV × TV × Nat)), ∃ (c : Nat), (Array.push (Array.push h_2 (mapO [] 0)) (row (TVs.cells [.agg [.bytes 32 b, .int .i64 slot, .int .i64 (-1)]]) 69))[h_2.size]? = some (mapO es c) ∧ AllLike YtennbinbffdimaaGreat.ctx (TypeDesc.array 32 5) es ∧ Vc.Bind (Array.setIfInBounds (Array.push (Array.push h_2 (mapO [] 0)) (row (TVs.cells [.agg [.bytes 32 b, .int .i64 slot, .int .i64 (-1)]]) 69)) h_2.size (mapO (putE (.bytes 32 b_1) (.int .i64 0) c es) (clockE (.bytes 32 b_1) c es))) fun h ↦ Ext h_2 h ∧ Vc.Bind (newTV h (.agg [.slice (Sl.mk (some (Loc.mk (Array.size (Array.push h_2 (mapO [] 0))) 0)) 1 1), .map (some h_2.size), .int .i64 most]) 168) fun h_3 ↦ R (TV.val (.tup [.ptr (some (Loc.mk h.size 0)), .int .i64 0])) h_3) ∧ ∃ (es : List (TV × TV × Nat)), ∃ (c : Nat), (Array.push h_2 (mapO [] 0))[h_2.size]? = some (mapO es c) ∧ AllLike YtennbinbffdimaaGreat.ctx (TypeDesc.array 32 5) es ∧ Vc.Bind (Array.setIfInBounds (Array.push h_2 (mapO [] 0)) h_2.size (mapO (putE (.bytes 32 b_1) (.int .i64 0) c es) (clockE (.bytes 32 b_1) c es))) fun h ↦ Ext h_2 h ∧ Ext h_2 (Array.push h (row (TVs.cells [.agg [.bytes 32 b, .int .i64 slot, .int .i64 (-1)]]) 69)) ∧ Vc.Bind (newTV (Array.push h (row (TVs.cells [.agg [.bytes 32 b, .int .i64 slot, .int .i64 (-1)]]) 69)) (.agg [.slice (Sl.mk (some (Loc.mk h.size 0)) 1 1), .map (some h_2.size), .int .i64 most]) 168) fun h_3 ↦ R (TV.val (.tup [.ptr (some (Loc.mk (Array.size (Array.push h (row (TVs.cells [.agg [.bytes 32 b, .int .i64 slot, .int .i64 (-1)]]) 69))) 0)), .int .i64 0])) h_3) fun (J : Option Go.Vc.Loc × Int → Array Obj → Prop) ↦ If (decide (most < 1)) (R (TV.val (.tup [.ptr none, .int .i64 1])) h_1) (If (decide (256 < most)) (R (TV.val (.tup [.ptr none, .int .i64 1])) h_1) (If (decide (slot < 0)) (R (TV.val (.tup [.ptr none, .int .i64 1])) h_1) (If (decide (1073741824 < slot)) (R (TV.val (.tup [.ptr none, .int .i64 1])) h_1) (J (none, 0) h_1))))
theorem tree_New_calls (root : Bs 32) (slot : Int) (most : Int) (h : Heap) (R : Value → Heap → Prop) (H : tree_New_vc root slot most h R) : CallsH Tryz.prog 141 (TVs.vals [.bytes 32 root, .int .i64 slot, .int .i64 most]) h R := via ctx_ok Tryz.func141 (by kernel_rfl) H

def weigh_Weights_grow_vc (w : Option Go.Vc.Loc) (h : Heap) (R : Value → Heap → Prop) : Prop := Go.Vc.Loop PUnit.unit h fun (s : PUnit) (h : Array Obj) (K : PUnit → Array Obj → Prop) ↦ ∃ (h0 : Array Obj), Vc.Sub h0 h ∧ Nn w fun l ↦ ∃ (s : Sl), at1 h0 l.b (l.o + 1) (slVal s) ∧ Nn w fun l ↦ ∃ (p : Option Go.Vc.Loc), at1 h0 l.b l.o (Value.pointer (Option.map Loc.addr p)) ∧ CallsH Tryz.prog 57 (TVs.vals [.ptr p]) h fun v h ↦ ∃ (n : Int), v = TV.val (.int .i64 n) ∧ Vc.Sub h0 h ∧ If (decide ((↑s.len : Int) < n)) (Join (fun (s : PUnit) (h : Array Obj) ↦ ∃ (h0 : Array Obj), Vc.Sub h0 h ∧ Nn w fun l ↦ ∃ (s : Sl), at1 h0 l.b (l.o + 3) (slVal s) ∧ Nn w fun l ↦ ∃ (s_1 : Sl), at1 h0 l.b (l.o + 4) (slVal s_1) ∧ (Vc.Sub h0 (Array.push h (row (TVs.cells [.int .i64 (-1)]) 3)) ∧ (∃ (new : List Value), slAt (Array.push h (row (TVs.cells [.int .i64 (-1)]) 3)) (Sl.mk (some (Loc.mk h.size 0)) 1 1) 1 new ∧ (∀ (v : Value), v ∈ new → isOne v = true) ∧ vcAppend YtennbinbffdimaaGreat.ctxL 3 s 1 new (Array.push h (row (TVs.cells [.int .i64 (-1)]) 3)) fun s h ↦ Vc.Sub h0 h ∧ Vc.Sub h0 (Array.push h (row (TVs.cells [.int .i64 (-1)]) 3)) ∧ ∃ (new : List Value), slAt (Array.push h (row (TVs.cells [.int .i64 (-1)]) 3)) (Sl.mk (some (Loc.mk h.size 0)) 1 1) 1 new ∧ (∀ (v : Value), v ∈ new → isOne v = true) ∧ vcAppend YtennbinbffdimaaGreat.ctxL 3 s_1 1 new (Array.push h (row (TVs.cells [.int .i64 (-1)]) 3)) fun s_2 h ↦ Nn w fun l ↦ wok h l.b (l.o + 3) 1 ∧ Vc.Bind (TV.put h l.b (l.o + 3) (.slice s)) fun h ↦ Nn w fun l ↦ wok h l.b (l.o + 4) 1 ∧ Vc.Bind (TV.put h l.b (l.o + 4) (.slice s_2)) fun h ↦ K PUnit.unit h) ∧ Vc.Sub h0 (Array.push (Array.push h (row (TVs.cells [.int .i64 (-1)]) 3)) (row (TVs.cells [.int .i64 (-1)]) 3)) ∧ ∃ (new : List Value), slAt (Array.push (Array.push h (row (TVs.cells [.int .i64 (-1)]) 3)) (row (TVs.cells [.int .i64 (-1)]) 3)) (Sl.mk (some (Loc.mk h.size 0)) 1 1) 1 new ∧ (∀ (v : Value), v ∈ new → isOne v = true) ∧ vcAppend YtennbinbffdimaaGreat.ctxL 3 s 1 new (Array.push (Array.push h (row (TVs.cells [.int .i64 (-1)]) 3)) (row (TVs.cells [.int .i64 (-1)]) 3)) fun s h_1 ↦ Vc.Sub h0 h_1 ∧ ∃ (new : List Value), slAt h_1 (Sl.mk (some (Loc.mk (Array.size (Array.push h (row (TVs.cells [.int .i64 (-1)]) 3))) 0)) 1 1) 1 new ∧ (∀ (v : Value), v ∈ new → isOne v = true) ∧ vcAppend YtennbinbffdimaaGreat.ctxL 3 s_1 1 new h_1 fun s_2 h ↦ Nn w fun l ↦ wok h l.b (l.o + 3) 1 ∧ Vc.Bind (TV.put h l.b (l.o + 3) (.slice s)) fun h ↦ Nn w fun l ↦ wok h l.b (l.o + 4) 1 ∧ Vc.Bind (TV.put h l.b (l.o + 4) (.slice s_2)) fun h ↦ K PUnit.unit h) ∧ Vc.Sub h0 (Array.push h (row (TVs.cells [.int .i64 (-1)]) 3)) ∧ Vc.Sub h0 (Array.push (Array.push h (row (TVs.cells [.int .i64 (-1)]) 3)) (row (TVs.cells [.int .i64 (-1)]) 3)) ∧ ∃ (new : List Value), slAt (Array.push (Array.push h (row (TVs.cells [.int .i64 (-1)]) 3)) (row (TVs.cells [.int .i64 (-1)]) 3)) (Sl.mk (some (Loc.mk (Array.size (Array.push h (row (TVs.cells [.int .i64 (-1)]) 3))) 0)) 1 1) 1 new ∧ (∀ (v : Value), v ∈ new → isOne v = true) ∧ vcAppend YtennbinbffdimaaGreat.ctxL 3 s 1 new (Array.push (Array.push h (row (TVs.cells [.int .i64 (-1)]) 3)) (row (TVs.cells [.int .i64 (-1)]) 3)) fun s h_1 ↦ Vc.Sub h0 h_1 ∧ ∃ (new : List Value), slAt h_1 (Sl.mk (some (Loc.mk h.size 0)) 1 1) 1 new ∧ (∀ (v : Value), v ∈ new → isOne v = true) ∧ vcAppend YtennbinbffdimaaGreat.ctxL 3 s_1 1 new h_1 fun s_2 h ↦ Nn w fun l ↦ wok h l.b (l.o + 3) 1 ∧ Vc.Bind (TV.put h l.b (l.o + 3) (.slice s)) fun h ↦ Nn w fun l ↦ wok h l.b (l.o + 4) 1 ∧ Vc.Bind (TV.put h l.b (l.o + 4) (.slice s_2)) fun h ↦ K PUnit.unit h) fun (J : PUnit → Array Obj → Prop) ↦ ∃ (h0 : Array Obj), Vc.Sub h0 h ∧ Nn w fun l ↦ ∃ (s : Sl), at1 h0 l.b (l.o + 1) (slVal s) ∧ Nn w fun l ↦ ∃ (s_1 : Sl), at1 h0 l.b (l.o + 2) (slVal s_1) ∧ (Vc.Sub h0 (Array.push h (row (TVs.cells [.int .i64 0]) 3)) ∧ (∃ (new : List Value), slAt (Array.push h (row (TVs.cells [.int .i64 0]) 3)) (Sl.mk (some (Loc.mk h.size 0)) 1 1) 1 new ∧ (∀ (v : Value), v ∈ new → isOne v = true) ∧ vcAppend YtennbinbffdimaaGreat.ctxL 3 s 1 new (Array.push h (row (TVs.cells [.int .i64 0]) 3)) fun s h ↦ Vc.Sub h0 h ∧ Vc.Sub h0 (Array.push h (row (TVs.cells [.int .i64 0]) 3)) ∧ ∃ (new : List Value), slAt (Array.push h (row (TVs.cells [.int .i64 0]) 3)) (Sl.mk (some (Loc.mk h.size 0)) 1 1) 1 new ∧ (∀ (v : Value), v ∈ new → isOne v = true) ∧ vcAppend YtennbinbffdimaaGreat.ctxL 3 s_1 1 new (Array.push h (row (TVs.cells [.int .i64 0]) 3)) fun s_2 h ↦ Nn w fun l ↦ wok h l.b (l.o + 1) 1 ∧ Vc.Bind (TV.put h l.b (l.o + 1) (.slice s)) fun h ↦ Nn w fun l ↦ wok h l.b (l.o + 2) 1 ∧ Vc.Bind (TV.put h l.b (l.o + 2) (.slice s_2)) fun h ↦ J PUnit.unit h) ∧ Vc.Sub h0 (Array.push (Array.push h (row (TVs.cells [.int .i64 0]) 3)) (row (TVs.cells [.int .i64 0]) 3)) ∧ ∃ (new : List Value), slAt (Array.push (Array.push h (row (TVs.cells [.int .i64 0]) 3)) (row (TVs.cells [.int .i64 0]) 3)) (Sl.mk (some (Loc.mk h.size 0)) 1 1) 1 new ∧ (∀ (v : Value), v ∈ new → isOne v = true) ∧ vcAppend YtennbinbffdimaaGreat.ctxL 3 s 1 new (Array.push (Array.push h (row (TVs.cells [.int .i64 0]) 3)) (row (TVs.cells [.int .i64 0]) 3)) fun s h_1 ↦ Vc.Sub h0 h_1 ∧ ∃ (new : List Value), slAt h_1 (Sl.mk (some (Loc.mk (Array.size (Array.push h (row (TVs.cells [.int .i64 0]) 3))) 0)) 1 1) 1 new ∧ (∀ (v : Value), v ∈ new → isOne v = true) ∧ vcAppend YtennbinbffdimaaGreat.ctxL 3 s_1 1 new h_1 fun s_2 h ↦ Nn w fun l ↦ wok h l.b (l.o + 1) 1 ∧ Vc.Bind (TV.put h l.b (l.o + 1) (.slice s)) fun h ↦ Nn w fun l ↦ wok h l.b (l.o + 2) 1 ∧ Vc.Bind (TV.put h l.b (l.o + 2) (.slice s_2)) fun h ↦ J PUnit.unit h) ∧ Vc.Sub h0 (Array.push h (row (TVs.cells [.int .i64 0]) 3)) ∧ Vc.Sub h0 (Array.push (Array.push h (row (TVs.cells [.int .i64 0]) 3)) (row (TVs.cells [.int .i64 0]) 3)) ∧ ∃ (new : List Value), slAt (Array.push (Array.push h (row (TVs.cells [.int .i64 0]) 3)) (row (TVs.cells [.int .i64 0]) 3)) (Sl.mk (some (Loc.mk (Array.size (Array.push h (row (TVs.cells [.int .i64 0]) 3))) 0)) 1 1) 1 new ∧ (∀ (v : Value), v ∈ new → isOne v = true) ∧ vcAppend YtennbinbffdimaaGreat.ctxL 3 s 1 new (Array.push (Array.push h (row (TVs.cells [.int .i64 0]) 3)) (row (TVs.cells [.int .i64 0]) 3)) fun s h_1 ↦ Vc.Sub h0 h_1 ∧ ∃ (new : List Value), slAt h_1 (Sl.mk (some (Loc.mk h.size 0)) 1 1) 1 new ∧ (∀ (v : Value), v ∈ new → isOne v = true) ∧ vcAppend YtennbinbffdimaaGreat.ctxL 3 s_1 1 new h_1 fun s_2 h ↦ Nn w fun l ↦ wok h l.b (l.o + 1) 1 ∧ Vc.Bind (TV.put h l.b (l.o + 1) (.slice s)) fun h ↦ Nn w fun l ↦ wok h l.b (l.o + 2) 1 ∧ Vc.Bind (TV.put h l.b (l.o + 2) (.slice s_2)) fun h ↦ J PUnit.unit h) (R (TV.val (.tup [])) h)
theorem weigh_Weights_grow_calls (w : Option Go.Vc.Loc) (h : Heap) (R : Value → Heap → Prop) (H : weigh_Weights_grow_vc w h R) : CallsH Tryz.prog 203 (TVs.vals [.ptr w]) h R := via ctxL_ok Tryz.func203 (by kernel_rfl) H

def weigh_Weights_ahead_vc (w : Option Go.Vc.Loc) (i : Int) (k : Int) (h : Heap) (R : Value → Heap → Prop) : Prop := Join (fun (s : Bool) (h : Array Obj) ↦ Nn w fun l ↦ ∃ (p : Option Go.Vc.Loc), at1 h l.b l.o (Value.pointer (Option.map Loc.addr p)) ∧ CallsH Tryz.prog 34 (TVs.vals [.ptr p, .int .i64 i]) h fun v h ↦ ∃ (b : Bs 32), ∃ (n n_1 : Int), ∃ (b_1 : Bool), v = TV.val (.tup [.agg [.bytes 32 b, .int .i64 n, .int .i64 n_1], .bool b_1]) ∧ Vc.Bind (newTV h (.agg [.bytes 32 (Bs.zero 32), .int .i64 0, .int .i64 0]) 69) fun h_1 ↦ wok h_1 h.size 0 34 ∧ Vc.Bind (TV.put h_1 h.size 0 (.agg [.bytes 32 b, .int .i64 n, .int .i64 n_1])) fun h_2 ↦ Nn w fun l ↦ ∃ (p : Option Go.Vc.Loc), at1 h_2 l.b l.o (Value.pointer (Option.map Loc.addr p)) ∧ CallsH Tryz.prog 34 (TVs.vals [.ptr p, .int .i64 k]) h_2 fun v h_3 ↦ ∃ (b : Bs 32), ∃ (n n_2 : Int), ∃ (b_2 : Bool), v = TV.val (.tup [.agg [.bytes 32 b, .int .i64 n, .int .i64 n_2], .bool b_2]) ∧ Vc.Bind (newTV h_3 (.agg [.bytes 32 (Bs.zero 32), .int .i64 0, .int .i64 0]) 69) fun h_4 ↦ wok h_4 h_3.size 0 34 ∧ Vc.Bind (TV.put h_4 h_3.size 0 (.agg [.bytes 32 b, .int .i64 n, .int .i64 n_2])) fun h_5 ↦ ∃ (b : Bs 32), atBytes h_5 h_3.size 0 32 b ∧ ∃ (b_3 : Bs 32), atBytes h_5 h.size 0 32 b_3 ∧ CallsH Tryz.prog 198 (TVs.vals [.bytes 32 b, .bytes 32 b_3]) h_5 fun v h ↦ ∃ (b : Bool), v = TV.val (.bool b) ∧ R (TV.val (.bool b)) h) fun (J : Bool → Array Obj → Prop) ↦ Join (fun (s : Bool) (h : Array Obj) ↦ If s (If (decide (k < 0)) (R (TV.val (.bool true)) h) (Nn w fun l ↦ ∃ (s : Sl), at1 h l.b (l.o + 2) (slVal s) ∧ 0 ≤ i ∧ i < (↑s.len : Int) ∧ Nn s.a fun l ↦ ∃ (n : Int), at1 h l.b (l.o + Int.toNat i * 1) (.int .i64 n) ∧ Nn w fun l ↦ ∃ (s : Sl), at1 h l.b (l.o + 2) (slVal s) ∧ 0 ≤ k ∧ k < (↑s.len : Int) ∧ Nn s.a fun l ↦ ∃ (n_1 : Int), at1 h l.b (l.o + Int.toNat k * 1) (.int .i64 n_1) ∧ R (TV.val (.bool (decide (n_1 < n)))) h)) (J false h)) fun (J : Bool → Array Obj → Prop) ↦ If (decide (k < 0)) (J true h) (Nn w fun l ↦ ∃ (s : Sl), at1 h l.b (l.o + 2) (slVal s) ∧ 0 ≤ i ∧ i < (↑s.len : Int) ∧ Nn s.a fun l ↦ ∃ (n : Int), at1 h l.b (l.o + Int.toNat i * 1) (.int .i64 n) ∧ Nn w fun l ↦ ∃ (s : Sl), at1 h l.b (l.o + 2) (slVal s) ∧ 0 ≤ k ∧ k < (↑s.len : Int) ∧ Nn s.a fun l ↦ ∃ (n_1 : Int), at1 h l.b (l.o + Int.toNat k * 1) (.int .i64 n_1) ∧ J (!decide (n = n_1)) h)
theorem weigh_Weights_ahead_calls (w : Option Go.Vc.Loc) (i : Int) (k : Int) (h : Heap) (R : Value → Heap → Prop) (H : weigh_Weights_ahead_vc w i k h R) : CallsH Tryz.prog 261 (TVs.vals [.ptr w, .int .i64 i, .int .i64 k]) h R := via ctx_ok Tryz.func261 (by kernel_rfl) H

def weigh_Weights_rank_vc (w : Option Go.Vc.Loc) (h : Heap) (R : Value → Heap → Prop) : Prop := Nn w fun l ↦ ∃ (s : Sl), at1 h l.b (l.o + 3) (slVal s) ∧ Go.Vc.Loop (0 : Int) h fun (s_1 : Int) (h : Array Obj) (K : Int → Array Obj → Prop) ↦ If (decide (s_1 < (↑s.len : Int))) (Nn w fun l ↦ ∃ (s : Sl), at1 h l.b (l.o + 3) (slVal s) ∧ Nn w fun l ↦ ∃ (s_2 : Sl), at1 h l.b (l.o + 4) (slVal s_2) ∧ 0 ≤ s_1 ∧ s_1 < (↑s.len : Int) ∧ Nn s.a fun l ↦ wok h l.b (l.o + Int.toNat s_1 * 1) 1 ∧ Vc.Bind (TV.put h l.b (l.o + Int.toNat s_1 * 1) (.int .i64 (-1))) fun h ↦ 0 ≤ s_1 ∧ s_1 < (↑s_2.len : Int) ∧ Nn s_2.a fun l ↦ wok h l.b (l.o + Int.toNat s_1 * 1) 1 ∧ Vc.Bind (TV.put h l.b (l.o + Int.toNat s_1 * 1) (.int .i64 s_1)) fun h ↦ K (IntKind.wrap .i64 (s_1 + 1)) h) (Nn w fun l ↦ ∃ (s : Sl), at1 h l.b (l.o + 3) (slVal s) ∧ Go.Vc.Loop (IntKind.wrap .i64 ((↑s.len : Int) - 1)) h fun (s : Int) (h : Array Obj) (K : Int → Array Obj → Prop) ↦ If (decide (0 < s)) (Nn w fun l ↦ ∃ (p : Option Go.Vc.Loc), at1 h l.b l.o (Value.pointer (Option.map Loc.addr p)) ∧ CallsH Tryz.prog 34 (TVs.vals [.ptr p, .int .i64 s]) h fun v h ↦ ∃ (b : Bs 32), ∃ (n n_1 : Int), ∃ (b_1 : Bool), v = TV.val (.tup [.agg [.bytes 32 b, .int .i64 n, .int .i64 n_1], .bool b_1]) ∧ Vc.Bind (newTV h (.agg [.bytes 32 (Bs.zero 32), .int .i64 0, .int .i64 0]) 69) fun h_1 ↦ wok h_1 h.size 0 34 ∧ Vc.Bind (TV.put h_1 h.size 0 (.agg [.bytes 32 b, .int .i64 n, .int .i64 n_1])) fun h_2 ↦ Nn w fun l ↦ ∃ (s_2 : Sl), at1 h_2 l.b (l.o + 3) (slVal s_2) ∧ ∃ (n : Int), at1 h_2 h.size 33 (.int .i64 n) ∧ 0 ≤ n ∧ n < (↑s_2.len : Int) ∧ Nn s_2.a fun l ↦ ∃ (n_2 : Int), at1 h_2 l.b (l.o + Int.toNat n * 1) (.int .i64 n_2) ∧ CallsH Tryz.prog 261 (TVs.vals [.ptr w, .int .i64 s, .int .i64 n_2]) h_2 fun v h_3 ↦ ∃ (b : Bool), v = TV.val (.bool b) ∧ If b (Nn w fun l ↦ ∃ (s_3 : Sl), at1 h_3 l.b (l.o + 3) (slVal s_3) ∧ ∃ (n : Int), at1 h_3 h.size 33 (.int .i64 n) ∧ 0 ≤ n ∧ n < (↑s_3.len : Int) ∧ Nn s_3.a fun l ↦ wok h_3 l.b (l.o + Int.toNat n * 1) 1 ∧ Vc.Bind (TV.put h_3 l.b (l.o + Int.toNat n * 1) (.int .i64 s)) fun h ↦ K (IntKind.wrap .i64 (s - 1)) h) (K (IntKind.wrap .i64 (s - 1)) h_3)) (Nn w fun l ↦ ∃ (s : Sl), at1 h l.b (l.o + 3) (slVal s) ∧ Go.Vc.Loop (IntKind.wrap .i64 ((↑s.len : Int) - 1)) h fun (s : Int) (h : Array Obj) (K : Int → Array Obj → Prop) ↦ If (decide (0 ≤ s)) (Nn w fun l ↦ ∃ (s_2 : Sl), at1 h l.b (l.o + 3) (slVal s_2) ∧ 0 ≤ s ∧ s < (↑s_2.len : Int) ∧ Nn s_2.a fun l ↦ ∃ (n : Int), at1 h l.b (l.o + Int.toNat s * 1) (.int .i64 n) ∧ If (decide (0 ≤ n)) (Nn w fun l ↦ ∃ (s_3 : Sl), at1 h l.b (l.o + 4) (slVal s_3) ∧ Nn w fun l ↦ ∃ (s_4 : Sl), at1 h l.b (l.o + 4) (slVal s_4) ∧ 0 ≤ n ∧ n < (↑s_4.len : Int) ∧ Nn s_4.a fun l ↦ ∃ (n_1 : Int), at1 h l.b (l.o + Int.toNat n * 1) (.int .i64 n_1) ∧ 0 ≤ s ∧ s < (↑s_3.len : Int) ∧ Nn s_3.a fun l ↦ wok h l.b (l.o + Int.toNat s * 1) 1 ∧ Vc.Bind (TV.put h l.b (l.o + Int.toNat s * 1) (.int .i64 n_1)) fun h ↦ K (IntKind.wrap .i64 (s - 1)) h) (K (IntKind.wrap .i64 (s - 1)) h)) (R (TV.val (.tup [])) h)))
theorem weigh_Weights_rank_calls (w : Option Go.Vc.Loc) (h : Heap) (R : Value → Heap → Prop) (H : weigh_Weights_rank_vc w h R) : CallsH Tryz.prog 204 (TVs.vals [.ptr w]) h R := via ctx_ok Tryz.func204 (by kernel_rfl) H

def weigh_New_vc (t : Option Go.Vc.Loc) (h : Heap) (R : Value → Heap → Prop) : Prop := CallsH Tryz.prog 57 (TVs.vals [.ptr t]) h fun (v : Value) (h : Heap) ↦ ∃ (n : Int), v = TV.val (.int .i64 n) ∧ If (decide (n = 0)) (R (TV.val (.ptr none)) h) (Vc.Bind (newTV h (.agg [.ptr t, .slice Sl.nil, .slice Sl.nil, .slice Sl.nil, .slice Sl.nil]) 270) fun h_1 ↦ CallsH Tryz.prog 203 (TVs.vals [.ptr (some (Loc.mk h.size 0))]) h_1 fun v h_2 ↦ v = TV.val (.tup []) ∧ CallsH Tryz.prog 204 (TVs.vals [.ptr (some (Loc.mk h.size 0))]) h_2 fun v h_3 ↦ v = TV.val (.tup []) ∧ R (TV.val (.ptr (some (Loc.mk h.size 0)))) h_3)
theorem weigh_New_calls (t : Option Go.Vc.Loc) (h : Heap) (R : Value → Heap → Prop) (H : weigh_New_vc t h R) : CallsH Tryz.prog 143 (TVs.vals [.ptr t]) h R := via ctx_ok Tryz.func143 (by kernel_rfl) H

def table_Table_is_vc (t : Option Go.Vc.Loc) (who : Int) (h : Heap) (R : Value → Heap → Prop) : Prop := If (!Option.isNone t) (If (decide (0 ≤ who)) (Nn t fun l ↦ ∃ (s : Sl), at1 h l.b (l.o + 1) (slVal s) ∧ R (TV.val (.bool (decide (who < (↑s.len : Int))))) h) (R (TV.val (.bool false)) h)) (R (TV.val (.bool false)) h)
theorem table_Table_is_calls (t : Option Go.Vc.Loc) (who : Int) (h : Heap) (R : Value → Heap → Prop) (H : table_Table_is_vc t who h R) : CallsH Tryz.prog 135 (TVs.vals [.ptr t, .int .i64 who]) h R := via ctx_ok Tryz.func135 (by kernel_rfl) H

def table_Table_Vote_vc (t : Option Go.Vc.Loc) (who : Int) (h : Heap) (R : Value → Heap → Prop) : Prop := Vc.Bind (newTV h (.agg [.int .i64 0, .int .i64 0, .bytes 32 (Bs.zero 32)]) 124) fun h_1 ↦ CallsH Tryz.prog 135 (TVs.vals [.ptr t, .int .i64 who]) h_1 fun v h_2 ↦ ∃ (b : Bool), v = TV.val (.bool b) ∧ If (!b) (wok h_2 h.size 0 34 ∧ Vc.Bind (TV.put h_2 h.size 0 (.agg [.int .i64 0, .int .i64 0, .bytes 32 (Bs.zero 32)])) fun h_3 ↦ ∃ (n n_1 : Int), ∃ (b : Bs 32), (at1 h_3 h.size 0 (.int .i64 n) ∧ at1 h_3 h.size 1 (.int .i64 n_1) ∧ atBytes h_3 h.size 2 32 b) ∧ R (TV.val (.tup [.agg [.int .i64 n, .int .i64 n_1, .bytes 32 b], .bool false])) h_3) (Nn t fun l ↦ ∃ (s : Sl), at1 h_2 l.b (l.o + 1) (slVal s) ∧ 0 ≤ who ∧ who < (↑s.len : Int) ∧ Nn s.a fun l ↦ ∃ (p : Option Go.Vc.Loc), at1 h_2 l.b (l.o + Int.toNat who * 1) (Value.pointer (Option.map Loc.addr p)) ∧ If (Option.isNone p) (wok h_2 h.size 0 34 ∧ Vc.Bind (TV.put h_2 h.size 0 (.agg [.int .i64 0, .int .i64 0, .bytes 32 (Bs.zero 32)])) fun h_3 ↦ ∃ (n n_1 : Int), ∃ (b : Bs 32), (at1 h_3 h.size 0 (.int .i64 n) ∧ at1 h_3 h.size 1 (.int .i64 n_1) ∧ atBytes h_3 h.size 2 32 b) ∧ R (TV.val (.tup [.agg [.int .i64 n, .int .i64 n_1, .bytes 32 b], .bool false])) h_3) (Nn t fun l ↦ ∃ (s : Sl), at1 h_2 l.b (l.o + 1) (slVal s) ∧ 0 ≤ who ∧ who < (↑s.len : Int) ∧ Nn s.a fun l ↦ ∃ (p : Option Go.Vc.Loc), at1 h_2 l.b (l.o + Int.toNat who * 1) (Value.pointer (Option.map Loc.addr p)) ∧ Nn p fun l ↦ ∃ (n n_1 : Int), ∃ (b : Bs 32), (at1 h_2 l.b l.o (.int .i64 n) ∧ at1 h_2 l.b (l.o + 1) (.int .i64 n_1) ∧ atBytes h_2 l.b (l.o + 1 + 1) 32 b) ∧ wok h_2 h.size 0 34 ∧ Vc.Bind (TV.put h_2 h.size 0 (.agg [.int .i64 n, .int .i64 n_1, .bytes 32 b])) fun h_3 ↦ ∃ (n n_2 : Int), ∃ (b : Bs 32), (at1 h_3 h.size 0 (.int .i64 n) ∧ at1 h_3 h.size 1 (.int .i64 n_2) ∧ atBytes h_3 h.size 2 32 b) ∧ R (TV.val (.tup [.agg [.int .i64 n, .int .i64 n_2, .bytes 32 b], .bool true])) h_3))
theorem table_Table_Vote_calls (t : Option Go.Vc.Loc) (who : Int) (h : Heap) (R : Value → Heap → Prop) (H : table_Table_Vote_vc t who h R) : CallsH Tryz.prog 70 (TVs.vals [.ptr t, .int .i64 who]) h R := via ctx_ok Tryz.func70 (by kernel_rfl) H

def table_Table_Marks_vc (t : Option Go.Vc.Loc) (h : Heap) (R : Value → Heap → Prop) : Prop := If (Option.isNone t) (R (TV.val (.int .i64 0)) h) (Nn t fun l ↦ ∃ (r : Option Nat), at1 h l.b (l.o + 3) (Value.map r) ∧ MapAt h r fun (es : List (TV × TV × Nat)) (c : Nat) ↦ R (TV.val (.int .i64 (↑(List.length es) : Int))) h)
theorem table_Table_Marks_calls (t : Option Go.Vc.Loc) (h : Heap) (R : Value → Heap → Prop) (H : table_Table_Marks_vc t h R) : CallsH Tryz.prog 86 (TVs.vals [.ptr t]) h R := via ctx_ok Tryz.func86 (by kernel_rfl) H

end Go.Proofs.YtennbinbffdimaaGreat
end
