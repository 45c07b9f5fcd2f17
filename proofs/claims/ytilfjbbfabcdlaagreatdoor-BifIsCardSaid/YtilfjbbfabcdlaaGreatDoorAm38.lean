/- What was put by, at a body's end; 'recover'; whole functions that may panic. -/
import Derived.Test.YtilfjbbfabcdlaaGreatDoorAm37
set_option linter.unusedVariables false
set_option linter.unusedSimpArgs false
namespace Go.Am
open Go.RowKit
variable {P : Program} {ks : Keeps}

/-- A call that was put by, made at a body's end: how that body ends behind it. -/
def CallD (P : Program) (g : FuncId) (as : List AVal) (m : AEnd) (H : AHeap) (K : AEnd → AHeap → Prop) : Prop :=
  ∀ w ro μ (argv : Array Value) (u : FrameMode), Good P w ro μ H → VRs P w ro μ as argv.toList → modeR P w ro μ m u →
    CallsD P g argv u w fun e u' w' => ∃ v m' H' ro' μ', e = .returned v ∧ K m' H' ∧ modeR P w' ro' μ' m' (settle u') ∧ Good P w' ro' μ' H' ∧ Out w ro μ H w' ro' μ' H'
theorem CallD.mono {g : FuncId} {as : List AVal} {m : AEnd} {H : AHeap} {K K' : AEnd → AHeap → Prop} (h : CallD P g as m H K) (hk : ∀ r H', K r H' → K' r H') : CallD P g as m H K' :=
  fun w ro μ argv u hg ha hm => (h w ro μ argv u hg ha hm).mono fun e u' w' ⟨v, m', H', ro', μ', h1, h2, h3⟩ => ⟨v, m', H', ro', μ', h1, hk _ _ h2, h3⟩
def XLeave (P : Program) (al : List ARes) : List ADef → AEnd → Env → AHeap → (AOut → AHeap → Prop) → Prop
  | [], .ret, T, H, K => ∃ r, aresult H T al = some r ∧ K (.ret r) H
  | [], .pan v, T, H, K => K (.pan v) H
  | (g, as) :: ds, m, T, H, K => Callable P g ∧ CallD P g as m H fun m' H' => XLeave P al ds m' T H' K

theorem settle_mode {w : World} {ro : Nat → Prop} {μ : Mu} {m : AEnd} {u : FrameMode} (h : modeR P w ro μ m u) : settle u = u ∧ u ≠ .run := by
  cases m with
  | ret => simp only [modeR] at h; subst h; exact ⟨rfl, by simp⟩
  | pan v => obtain ⟨x, rfl, _⟩ := h; exact ⟨rfl, by simp⟩

theorem leaves_sound {fn : Func} {al : List ARes} (hal : cres P fn.results.toList = some al) {tmps : Array Value} : ∀ (ds : List ADef) (m : AEnd) {T : Env} {H : AHeap} {K : AOut → AHeap → Prop}, XLeave P al ds m T H K →
    ∀ {w : World} {ro : Nat → Prop} {μ : Mu} {vs : List Deferred} {u : FrameMode}, Good P w ro μ H → TR P w ro μ T tmps → DefRs P w ro μ ds vs → modeR P w ro μ m u →
    Leaves P fn tmps (fun e w' => ∃ o H' ro' μ', K o H' ∧ OutR P w' ro' μ' o e ∧ Good P w' ro' μ' H' ∧ Out w ro μ H w' ro' μ' H') vs u w := by
  intro ds
  induction ds with
  | nil =>
    intro m T H K h w ro μ vs u hg hT hd hm
    simp only [DefRs] at hd; subst hd
    cases m with
    | ret =>
      simp only [modeR] at hm; subst hm
      obtain ⟨r, hr, hk⟩ := h
      obtain ⟨x, hx, hv⟩ := aresult_sound hg hT hal hr
      exact ⟨x, hx, .ret r, H, ro, μ, hk, ⟨x, rfl, hv⟩, hg, Out.refl _ _ _ _⟩
    | pan v =>
      obtain ⟨x, rfl, hv⟩ := hm
      exact ⟨.pan v, H, ro, μ, h, ⟨x, rfl, hv⟩, hg, Out.refl _ _ _ _⟩
  | cons d ds ih =>
    intro m T H K h w ro μ vs u hg hT hd hm
    obtain ⟨g, as⟩ := d
    obtain ⟨v, r, rfl, ⟨cap, h1, h2⟩, h3⟩ := hd
    obtain ⟨hcb, hcall⟩ := h
    obtain ⟨tg, args⟩ := v
    simp only at h1; subst h1
    refine ⟨(settle_mode hm).2, .func g, cap, g, args ++ cap, rfl, ?_, ?_⟩
    · simp [invoke, callFunc_run hcb]
    · refine (hcall w ro μ (args ++ cap) u hg h2 hm).mono ?_
      rintro e u' w1 ⟨x, m', H1, ro1, μ1, rfl, hk, hm1, hg1, ho1⟩
      have hx := Out.ext hg ho1
      have key := ih m' hk hg1 (hT.ext hx) (h3.ext hx) hm1
      have mono : ∀ (ds : List Deferred) {R R' : Ending → World → Prop} (u : FrameMode) (w : World), (∀ e w, R e w → R' e w) → Leaves P fn tmps R ds u w → Leaves P fn tmps R' ds u w := by
        intro ds
        induction ds with
        | nil =>
          intro R R' u w hq h
          cases u with
          | run => exact h.elim
          | returning => obtain ⟨v, h1, h2⟩ := h; exact ⟨v, h1, hq _ _ h2⟩
          | panicking ch => exact hq _ _ h
        | cons d ds ih =>
          intro R R' u w hq h
          obtain ⟨h1, fv, cap, f, args, h2, h3, h4⟩ := h
          refine ⟨h1, fv, cap, f, args, h2, h3, h4.mono fun e u' w' he => ?_⟩
          cases e with
          | returned v => exact ih _ _ hq he
          | panicked ch => exact ih _ _ hq he
          | outgrown => exact hq _ _ he
      exact mono _ _ _ (fun e w' ⟨o, H', ro', μ', k1, k2, k3, k4⟩ => ⟨o, H', ro', μ', k1, k2, k3, ho1.trans k4⟩) key

theorem cfunc_inv {fn : Func} {af : AFunc} (hc : cfunc P ks fn = some af) : ∃ body, fn.body = some body ∧ ccode P ks fn.ntmps body = some af.body ∧ cres P fn.results.toList = some af.results ∧ af.ntmps = fn.ntmps := by
  unfold cfunc at hc
  split at hc
  · cases hc
  obtain ⟨body, hb, hc⟩ := bind_some hc
  obtain ⟨x, hx, hc⟩ := bind_some hc
  obtain ⟨al, hal, hc⟩ := bind_some hc
  injection hc with hc; subst hc
  exact ⟨body, hb, hx, hal, rfl⟩
theorem enter_TR {w : World} {ro : Nat → Prop} {μ : Mu} {H : AHeap} {args : List AVal} {argv : Array Value} (n : Nat) (hg : Good P w ro μ H) (ha : VRs P w ro μ args argv.toList) : TR P w ro μ (envFrom 0 args) (argv ++ Array.replicate n undef) := by
  have hlen := ha.len
  simp only [Array.length_toList] at hlen
  refine ⟨fun s v hv => ?_, hg.glob⟩
  obtain ⟨_, h2⟩ := envFrom_get args 0 s v hv
  have hs : s < args.length := (List.getElem?_eq_some_iff.1 h2).1
  have hs' : s < argv.size := by simp at h2; omega
  rw [Array.getD_eq_getD_getElem?, Array.getElem?_append_left hs']
  simp only [hs', Array.getElem?_eq_getElem, Option.getD_some]
  exact ((VRs_iff _ _).1 ha).2 s v _ (by simpa using h2) (by simp [hs'])

theorem CallX.of_body {f : FuncId} {fn : Func} {af : AFunc} (hf : P.funcs[f]? = some fn) (hc : cfunc P ks fn = some af) {args : List AVal} (hn : args.length ≤ af.ntmps) {H : AHeap} {K : AOut → AHeap → Prop}
    (h : RunsX P ks af.ntmps [.code af.body] [] (envFrom 0 args) H fun e ds T' H' => XLeave P af.results ds e T' H' K) : CallX P f args H K := by
  obtain ⟨body, hb, hx, hal, hnt⟩ := cfunc_inv hc
  rw [hnt] at hn h
  rw [← hnt] at hx
  intro w ro μ argv hg ha cs
  have hlen := ha.len
  simp only [Array.length_toList] at hlen
  have hT := enter_TR (fn.ntmps - argv.size) hg ha
  let b : Frame := { (default : Frame) with fn := f, kind := .normal }
  have henter : Frame.enter P f argv .normal = b.at { tmps := argv ++ Array.replicate (fn.ntmps - argv.size) undef, defers := [] } [.code body] := by
    simp [Frame.enter, Frame.at, hf, hb, b]
  obtain ⟨a', w', todo', m, ⟨e, ds, T', H', ro', μ', k1, k2, k3, k4, k5, k6, k7⟩, hsteps⟩ := h [.code body] ⟨by rw [hnt] at hx; exact hx, True.intro⟩ w ro μ { tmps := argv ++ Array.replicate (fn.ntmps - argv.size) undef, defers := [] } hg hT (by simp; omega) rfl b cs
  rw [← henter] at hsteps
  have hl := leaves_sound hal ds e k1 k3 k4 k6 k2
  obtain ⟨e', w'', fr', ⟨o, H2, ro2, μ2, q1, q2, q3, q4⟩, hs, hfn', hlv⟩ := leaves_steps a'.defers m w' { b.at a' todo' with mode := m } cs rfl rfl rfl (by exact hf) rfl hl
  exact ⟨e', w'', fr', ⟨o, H2, ro2, μ2, q1, q2, q3, k7.trans q4⟩, Comes.of_steps hsteps hs, hfn', hlv⟩

/-- A call that was put by, of a function that does not look whether anybody panics. -/
theorem CallD.of_body {f : FuncId} {fn : Func} {af : AFunc} (hf : P.funcs[f]? = some fn) (hc : cfunc P ks fn = some af) {args : List AVal} (hn : args.length ≤ af.ntmps) {m : AEnd} {H : AHeap} {K : AEnd → AHeap → Prop}
    (h : Runs P ks af.ntmps [.code af.body] (envFrom 0 args) H fun T' H' => ∃ r, aresult H' T' af.results = some r ∧ K m H') : CallD P f args m H K := by
  obtain ⟨body, hb, hx, hal, hnt⟩ := cfunc_inv hc
  rw [hnt] at hn h
  rw [← hnt] at hx
  intro w ro μ argv u hg ha hm c cs hu
  have hlen := ha.len
  simp only [Array.length_toList] at hlen
  have hT := enter_TR (fn.ntmps - argv.size) hg ha
  let b : Frame := { (default : Frame) with fn := f, kind := .deferred }
  have henter : Frame.enter P f argv .deferred = b.at { tmps := argv ++ Array.replicate (fn.ntmps - argv.size) undef, defers := [] } [.code body] := by
    simp [Frame.enter, Frame.at, hf, hb, b]
  obtain ⟨a', w', todo', ⟨T', H', ro', μ', ⟨r, hr, hk⟩, k2, k3, k4, k5, k6⟩, hsteps⟩ := h [.code body] ⟨by rw [hnt] at hx; exact hx, True.intro⟩ w ro μ { tmps := argv ++ Array.replicate (fn.ntmps - argv.size) undef, defers := [] } hg hT (by simp; omega) rfl b (c :: cs)
  rw [← henter] at hsteps
  obtain ⟨v, hv, _⟩ := aresult_sound k2 k3 hal hr
  have hcc : ({ c with mode := u } : Frame) = c := by subst hu; rfl
  refine ⟨.returned v, u, w', { b.at a' todo' with mode := .returning }, ⟨v, m, H', ro', μ', rfl, hk, ?_, k2, k6⟩, ?_, rfl, rfl, k5, fn, hf, hv⟩
  · rw [(settle_mode hm).1]; exact hm.ext (Out.ext hg k6)
  · rw [hcc]; exact hsteps

theorem cop_recov {op : Op} (hc : cop P op = some .recov) : ∃ c, op = .call c ∧ c.callee = .builtin .recover := by
  cases op <;> simp only [cop] at hc
  case call c =>
    refine ⟨c, rfl, ?_⟩
    unfold ccall at hc
    split at hc
    case h_8 h => exact h
    all_goals (exfalso; repeat' (first | split at hc | (cases hc; done) | (obtain ⟨_, _, hc⟩ := bind_some hc) | (obtain ⟨_, _, hc⟩ := map_some hc)))
  case next y b => exfalso; cases b <;> simp only [cop] at hc <;> (obtain ⟨_, hx, e⟩ := map_some hc; cases e)
  case makeMap t r => exfalso; cases r <;> simp only [cop] at hc <;> cases hc
  all_goals (exfalso; repeat' (first | split at hc | (cases hc; done) | (obtain ⟨_, _, hc⟩ := bind_some hc) | (obtain ⟨_, _, hc⟩ := map_some hc)))

/-- What 'recover' tells. -/
def AEnd.told : AEnd → AVal
  | .ret => .nili
  | .pan v => v
/-- A call that was put by, of a function that begins with 'recover'. -/
theorem CallD.of_recov {f : FuncId} {fn : Func} {af : AFunc} (hf : P.funcs[f]? = some fn) (hc : cfunc P ks fn = some af) {d : Nat} {aft kl : List Nat} {rest : ACode} (hbody : af.body = .seq (.region false [⟨some d, .recov, none, aft⟩] kl) rest) {args : List AVal} (hn : args.length ≤ af.ntmps) {m : AEnd} {H : AHeap} {K : AEnd → AHeap → Prop}
    (h : Runs P ks af.ntmps [.code rest] (((envFrom 0 args).put (some d) m.told).keep kl) H fun T' H' => ∃ r, aresult H' T' af.results = some r ∧ K .ret H') : CallD P f args m H K := by
  obtain ⟨body, hb, hx, hal, hnt⟩ := cfunc_inv hc
  rw [hbody] at hx
  rw [hnt] at hn h
  intro w ro μ argv u hg ha hm c cs hu
  have hlen := ha.len
  simp only [Array.length_toList] at hlen
  have hT := enter_TR (fn.ntmps - argv.size) hg ha
  let b : Frame := { (default : Frame) with fn := f, kind := .deferred }
  let a0 : Act := { tmps := argv ++ Array.replicate (fn.ntmps - argv.size) undef, defers := [] }
  have hsz : a0.tmps.size = fn.ntmps := by simp [a0]; omega
  have henter : Frame.enter P f argv .deferred = b.at a0 [.code body] := by
    simp [Frame.enter, Frame.at, hf, hb, b, a0]
  obtain ⟨p, q, rfl, h1, h2⟩ := ccode_inv hx
  obtain ⟨id, ops, rfl, h4, rfl⟩ := ccode_inv h1
  -- the one operation
  have hops : ∃ o, ops.toList = [o] ∧ coper P fn.ntmps ops o = some ⟨some d, .recov, none, aft⟩ := by
    cases hl : ops.toList with
    | nil => rw [hl] at h4; simp [copers] at h4
    | cons o r =>
      rw [hl] at h4
      simp only [copers] at h4
      obtain ⟨ao, hao, h4⟩ := bind_some h4
      obtain ⟨l, hl', h4⟩ := bind_some h4
      injection h4 with h4; injection h4 with e1 e2
      subst e1
      cases r with
      | nil => exact ⟨o, rfl, hao⟩
      | cons o2 r =>
        simp only [copers] at hl'
        obtain ⟨_, _, hl'⟩ := bind_some hl'
        obtain ⟨_, _, hl'⟩ := bind_some hl'
        injection hl' with hl'; subst hl'; cases e2
  obtain ⟨o, hol, hco⟩ := hops
  obtain ⟨g1, g2, g3, g4⟩ := coper_inv hco
  obtain ⟨cl, hocall, hrec⟩ := cop_recov g1
  have hosz : ops.size = 1 := by have := congrArg List.length hol; simpa using this
  have ho0 : ops[0]? = some o := by rw [← Array.getElem?_toList, hol]; rfl
  have hw0 : Region.wanted o (yielded ops a0.tmps) = true := wantedA_sound (w := w) (ro := ro) (μ := μ) (a := a0) hT g2 rfl
  have hrun : ∀ w, (execOp a0.eval o).run P w = .ok .recover w := by
    intro w
    simp [execOp, hocall, resolve, hrec, invoke, builtin]
  simp only at g3
  -- what it tells, and the frame below
  have hrecov : ∃ (x : Value) (c' : Frame), VR P w ro μ m.told x ∧ c' = { c with mode := c'.mode } ∧ settle c'.mode = .returning ∧ ∀ (Q : Exit → Act → List Frame → World → Prop), Q .normal (a0.put o.dst x) (c' :: cs) w → wpOpsS P ops Q [0] a0 (c :: cs) w := by
    cases m with
    | ret =>
      simp only [modeR] at hm
      refine ⟨.nilIface, c, by simp [AEnd.told, VR], rfl, by rw [hu, hm]; rfl, fun Q hQ => ?_⟩
      have hr : recoverD (c :: cs) = none := by simp [recoverD, hu, hm]
      simp only [wpOpsS, ho0, hw0, if_true, hrun, hr]
      exact hQ
    | pan v =>
      obtain ⟨x, rfl, hv⟩ := hm
      refine ⟨x, { c with mode := .panicking [{ v := x, recovered := true }] }, hv, rfl, rfl, fun Q hQ => ?_⟩
      have hr : recoverD (c :: cs) = some (x, { c with mode := .panicking [{ v := x, recovered := true }] } :: cs) := by simp [recoverD, hu]
      simp only [wpOpsS, ho0, hw0, if_true, hrun, hr]
      exact hQ
  obtain ⟨x, c', hxv, hcm, hset, hwp⟩ := hrecov
  obtain ⟨e1, a1, cs1, w1, ⟨rfl, rfl, rfl, rfl⟩, harr⟩ := wp_opsS (P := P) (Q := fun e a' cs' w' => e = .normal ∧ a' = a0.put o.dst x ∧ cs' = c' :: cs ∧ w = w') [0] a0 (c :: cs) w (hwp _ ⟨rfl, rfl, rfl, rfl⟩) b [.code q] rfl rfl
  obtain ⟨p1, p2, p3⟩ := TR.putAct (a := a0) hT g4 hsz hxv
  obtain ⟨a', w', todo', ⟨T', H', ro', μ', ⟨r, hr, hk⟩, k2, k3, k4, k5, k6⟩, hsteps⟩ := h [.code q] ⟨h2, True.intro⟩ w ro μ (a0.put o.dst x) hg (by have q := p1.keep (ks id); rw [g3]; exact q) p2 (by rw [p3]) b (c' :: cs)
  obtain ⟨v, hv, _⟩ := aresult_sound k2 k3 hal hr
  have hsteps0 : Steps P (lone (b.at a0 [.code (.seq (.region id ops false) q)]) (c :: cs) w) (lone { b.at a' todo' with mode := .returning } (c' :: cs) w') := by
    refine .head step_seq (.head step_region ?_)
    have e : List.range ops.size = [0] := by rw [hosz]; rfl
    rw [e]
    exact Steps.trans harr hsteps
  refine ⟨.returned v, c'.mode, w', { b.at a' todo' with mode := .returning }, ⟨v, .ret, H', ro', μ', rfl, hk, hset, k2, k6⟩, ?_, rfl, rfl, k5, fn, hf, hv⟩
  rw [← hcm, henter]
  exact hsteps0

/-! ### With one outcome -/
def DCallD (P : Program) (g : FuncId) (as : List AVal) (m : AEnd) (H : AHeap) (Q : AEnd → AHeap → Prop) : Prop := ∃ m' H', Q m' H' ∧ Callable P g ∧ CallD P g as m H fun a b => a = m' ∧ b = H'
theorem DCallD.mono {g : FuncId} {as : List AVal} {m : AEnd} {H : AHeap} {Q Q' : AEnd → AHeap → Prop} (h : DCallD P g as m H Q) (hq : ∀ r H', Q r H' → Q' r H') : DCallD P g as m H Q' := let ⟨r, H', q, d⟩ := h; ⟨r, H', hq _ _ q, d⟩
def DLeave (P : Program) (al : List ARes) : List ADef → AEnd → Env → AHeap → (AOut → AHeap → Prop) → Prop
  | [], .ret, T, H, K => ∃ r, aresult H T al = some r ∧ K (.ret r) H
  | [], .pan v, T, H, K => K (.pan v) H
  | (g, as) :: ds, m, T, H, K => DCallD P g as m H fun m' H' => DLeave P al ds m' T H' K
theorem DLeave.out {al : List ARes} : ∀ (ds : List ADef) (m : AEnd) {T : Env} {H : AHeap} {K : AOut → AHeap → Prop}, DLeave P al ds m T H K → ∃ o H', K o H' ∧ XLeave P al ds m T H fun a b => a = o ∧ b = H'
  | [], .ret, T, H, K, ⟨r, h1, h2⟩ => ⟨.ret r, H, h2, r, h1, rfl, rfl⟩
  | [], .pan v, T, H, K, h => ⟨.pan v, H, h, rfl, rfl⟩
  | (g, as) :: ds, m, T, H, K, ⟨m', H', h, hc, hd⟩ => by
    obtain ⟨o, H2, hk, hl⟩ := DLeave.out ds m' h
    exact ⟨o, H2, hk, hc, hd.mono fun a b ⟨e1, e2⟩ => by subst e1; subst e2; exact hl⟩
theorem DCallX.of_body {f : FuncId} {fn : Func} {af : AFunc} (hf : P.funcs[f]? = some fn) (hc : cfunc P ks fn = some af) (hb : (fn.body.isSome && fn.name != "runtime.NumGoroutine") = true) {args : List AVal} (hn : args.length ≤ af.ntmps) {H : AHeap} {K : AOut → AHeap → Prop}
    (h : DRX P ks af.ntmps [.code af.body] [] (envFrom 0 args) H fun e ds T' H' => DLeave P af.results ds e T' H' K) : DCallX P f args H K := by
  obtain ⟨e, ds, T', H', hl, hruns⟩ := h
  obtain ⟨o, H2, hk, hx⟩ := DLeave.out ds e hl
  rw [Bool.and_eq_true, bne_iff_ne] at hb
  exact ⟨o, H2, hk, ⟨fn, hf, hb.1, hb.2⟩, CallX.of_body hf hc hn (hruns.mono fun e1 d1 T1 H1 ⟨e2, e3, e4, e5⟩ => by subst e2; subst e3; subst e4; subst e5; exact hx)⟩
theorem DCallD.of_body {f : FuncId} {fn : Func} {af : AFunc} (hf : P.funcs[f]? = some fn) (hc : cfunc P ks fn = some af) (hb : (fn.body.isSome && fn.name != "runtime.NumGoroutine") = true) {args : List AVal} (hn : args.length ≤ af.ntmps) {m : AEnd} {H : AHeap} {K : AEnd → AHeap → Prop}
    (h : DR P ks af.ntmps [.code af.body] (envFrom 0 args) H fun T' H' => ∃ r, aresult H' T' af.results = some r ∧ K m H') : DCallD P f args m H K := by
  obtain ⟨T', H', ⟨r, hr, hk⟩, hruns⟩ := h
  rw [Bool.and_eq_true, bne_iff_ne] at hb
  exact ⟨m, H', hk, ⟨fn, hf, hb.1, hb.2⟩, CallD.of_body hf hc hn (hruns.mono fun a b ⟨e1, e2⟩ => by subst e1; subst e2; exact ⟨r, hr, rfl, rfl⟩)⟩
theorem DCallD.of_recov {f : FuncId} {fn : Func} {af : AFunc} (hf : P.funcs[f]? = some fn) (hc : cfunc P ks fn = some af) (hb : (fn.body.isSome && fn.name != "runtime.NumGoroutine") = true) {d : Nat} {aft kl : List Nat} {rest : ACode} (hbody : af.body = .seq (.region false [⟨some d, .recov, none, aft⟩] kl) rest) {args : List AVal} (hn : args.length ≤ af.ntmps) {m : AEnd} {H : AHeap} {K : AEnd → AHeap → Prop}
    (h : DR P ks af.ntmps [.code rest] (((envFrom 0 args).put (some d) m.told).keep kl) H fun T' H' => ∃ r, aresult H' T' af.results = some r ∧ K .ret H') : DCallD P f args m H K := by
  obtain ⟨T', H', ⟨r, hr, hk⟩, hruns⟩ := h
  rw [Bool.and_eq_true, bne_iff_ne] at hb
  exact ⟨.ret, H', hk, ⟨fn, hf, hb.1, hb.2⟩, CallD.of_recov hf hc hbody hn (hruns.mono fun a b ⟨e1, e2⟩ => by subst e1; subst e2; exact ⟨r, hr, rfl, rfl⟩)⟩

/-! ### For 'simp' -/
def onX (x : Option ANext) (p : AVal → AHeap → Prop) (q : FuncId → List AVal → Prop) (a : AVal → Prop) (d : FuncId → List AVal → Prop) (z1 : Frz p) (z2 : Frz q) (z3 : Frz a) (z4 : Frz d) : Prop := match x with
  | none => False
  | some (.value v H) => p v H
  | some (.enter f as) => q f as
  | some (.anyOf l) => False
  | some (.pan v) => a v
  | some (.dfr g as) => d g as
def DCX (P : Program) (f : FuncId) (as : List AVal) (H : AHeap) (K : AVal → AHeap → Prop) (z : Frz K) (R : AVal → AHeap → Prop) (y : Frz R) : Prop := DCallX P f as H fun x H' => match x with
  | .ret v => K v H'
  | .pan v => R v H'
def DOX (P : Program) : List AOper → List ADef → Env → AHeap → (K : List ADef → Env → AHeap → Prop) → Frz K → (R : AVal → List ADef → Env → AHeap → Prop) → Frz R → Prop
  | [], ds, T, H, K, _, R, _ => K ds T H
  | o :: r, ds, T, H, K, z, R, y => onW (wantedA T o.guard) (DOX P r ds (T.put o.dst aundef) H K z R y) (onX (astep o.op T H) (fun v H' => DOX P r ds (T.put o.dst v) H' K z R y) (fun f as => DCX P f as H (fun v H' => DOX P r ds (T.put o.dst v) H' K z R y) .mk (fun v H' => R v ds T H') .mk) (fun v => R v ds T H) (fun g as => DOX P r ((g, as) :: ds) (T.put o.dst aundef) H K z R y) .mk .mk .mk .mk) .mk .mk
theorem DOX.run : ∀ {l : List AOper} {ds : List ADef} {T : Env} {H : AHeap} {K : List ADef → Env → AHeap → Prop} {z : Frz K} {R : AVal → List ADef → Env → AHeap → Prop} {y : Frz R}, DOX P l ds T H K z R y → DOpsX P l ds T H K R
  | [], ds, T, H, K, z, R, y, h => h
  | o :: r, ds, T, H, K, z, R, y, h => by
    simp only [DOX] at h
    simp only [DOpsX]
    cases hw : wantedA T o.guard with
    | none => rw [hw] at h; exact h
    | some b =>
      rw [hw] at h
      cases b with
      | false => exact DOX.run h
      | true =>
        simp only [onW] at h ⊢
        cases hs : astep o.op T H with
        | none => rw [hs] at h; exact h
        | some x =>
          rw [hs] at h
          cases x with
          | value v H1 => exact DOX.run h
          | enter f as =>
            refine DCallX.mono h fun x H' h => ?_
            cases x with
            | ret v => exact DOX.run h
            | pan v => exact h
          | anyOf l => exact h
          | pan v => exact h
          | dfr g as => exact DOX.run h
def AtX (P : Program) (ks : Keeps) (nt : Nat) (k : List AItem) (ds : List ADef) (T : Env) (H : AHeap) (Q : AEnd → List ADef → Env → AHeap → Prop) (z1 : Frz k) (z2 : Frz Q) : Prop := DRX P ks nt k ds T H Q
theorem DRX.ops {nt : Nat} {k : List AItem} {ds : List ADef} {T : Env} {H : AHeap} {Q : AEnd → List ADef → Env → AHeap → Prop} {l : List AOper} {kl : List Nat} (h : DOX P l ds T H (fun ds' T' H' => AtX P ks nt k ds' (T'.keep kl) H' Q .mk .mk) .mk (fun v ds' T' H' => Q (.pan v) ds' T' H') .mk) : DRX P ks nt (.code (.region false l kl) :: k) ds T H Q :=
  DRX.region (DOX.run h)
theorem XZ :
    (∀ P ds T H (K : List ADef → Env → AHeap → Prop) (z : Frz K) (R : AVal → List ADef → Env → AHeap → Prop) (y : Frz R), DOX P [] ds T H K z R y = K ds T H) ∧
    (∀ P d op g af r ds T H (K : List ADef → Env → AHeap → Prop) (z : Frz K) (R : AVal → List ADef → Env → AHeap → Prop) (y : Frz R), DOX P (⟨d, op, g, af⟩ :: r) ds T H K z R y = onW (wantedA T g) (DOX P r ds (T.put d aundef) H K z R y) (onX (astep op T H) (fun v H' => DOX P r ds (T.put d v) H' K z R y) (fun f as => DCX P f as H (fun v H' => DOX P r ds (T.put d v) H' K z R y) .mk (fun v H' => R v ds T H') .mk) (fun v => R v ds T H) (fun g as => DOX P r ((g, as) :: ds) (T.put d aundef) H K z R y) .mk .mk .mk .mk) .mk .mk) ∧
    (∀ (p : AVal → AHeap → Prop) (q : FuncId → List AVal → Prop) (a : AVal → Prop) (d : FuncId → List AVal → Prop) (z1 : Frz p) (z2 : Frz q) (z3 : Frz a) (z4 : Frz d) v H, onX (some (.value v H)) p q a d z1 z2 z3 z4 = p v H) ∧
    (∀ (p : AVal → AHeap → Prop) (q : FuncId → List AVal → Prop) (a : AVal → Prop) (d : FuncId → List AVal → Prop) (z1 : Frz p) (z2 : Frz q) (z3 : Frz a) (z4 : Frz d) f as, onX (some (.enter f as)) p q a d z1 z2 z3 z4 = q f as) ∧
    (∀ (p : AVal → AHeap → Prop) (q : FuncId → List AVal → Prop) (a : AVal → Prop) (d : FuncId → List AVal → Prop) (z1 : Frz p) (z2 : Frz q) (z3 : Frz a) (z4 : Frz d) v, onX (some (.pan v)) p q a d z1 z2 z3 z4 = a v) ∧
    (∀ (p : AVal → AHeap → Prop) (q : FuncId → List AVal → Prop) (a : AVal → Prop) (d : FuncId → List AVal → Prop) (z1 : Frz p) (z2 : Frz q) (z3 : Frz a) (z4 : Frz d) f as, onX (some (.dfr f as)) p q a d z1 z2 z3 z4 = d f as) :=
  ⟨fun _ _ _ _ _ _ _ _ => propext Iff.rfl, fun _ _ _ _ _ _ _ _ _ _ _ _ _ => propext Iff.rfl, fun _ _ _ _ _ _ _ _ _ _ => propext Iff.rfl, fun _ _ _ _ _ _ _ _ _ _ => propext Iff.rfl, fun _ _ _ _ _ _ _ _ _ => propext Iff.rfl, fun _ _ _ _ _ _ _ _ _ _ => propext Iff.rfl⟩
end Go.Am
