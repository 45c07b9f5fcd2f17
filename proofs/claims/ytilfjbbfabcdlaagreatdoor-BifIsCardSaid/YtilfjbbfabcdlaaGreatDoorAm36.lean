/- Bodies that may end in a panic, and put calls by: operations. -/
import Derived.Test.YtilfjbbfabcdlaaGreatDoorAm35
import Derived.Recover
set_option linter.unusedVariables false
set_option linter.unusedSimpArgs false
namespace Go.Am
open Go.RowKit

/-- A call put by: the function, and all that it is handed. -/
abbrev ADef := FuncId × List AVal
def DefR (P : Program) (w : World) (ro : Nat → Prop) (μ : Mu) (d : ADef) (v : Deferred) : Prop := ∃ cap, v.target = .fn (.func d.1) cap ∧ VRs P w ro μ d.2 (v.args ++ cap).toList
def DefRs (P : Program) (w : World) (ro : Nat → Prop) (μ : Mu) : List ADef → List Deferred → Prop
  | [], vs => vs = []
  | d :: ds, vs => ∃ v r, vs = v :: r ∧ DefR P w ro μ d v ∧ DefRs P w ro μ ds r
theorem VRs.extX {P : Program} {w w' : World} {ro ro' : Nat → Prop} {μ μ' : Mu} (h : Ext w ro μ w' ro' μ') {as : List AVal} {vs : List Value} (hv : VRs P w ro μ as vs) : VRs P w' ro' μ' as vs := by
  rw [VRs_iff] at hv ⊢
  exact ⟨hv.1, fun i a v h1 h2 => (hv.2 i a v h1 h2).ext h _ _⟩
theorem DefRs.ext {P : Program} {w w' : World} {ro ro' : Nat → Prop} {μ μ' : Mu} (h : Ext w ro μ w' ro' μ') : ∀ {ds : List ADef} {vs : List Deferred}, DefRs P w ro μ ds vs → DefRs P w' ro' μ' ds vs
  | [], vs, hv => hv
  | d :: ds, vs, ⟨v, r, e, ⟨cap, h1, h2⟩, h3⟩ => ⟨v, r, e, ⟨cap, h1, h2.extX h⟩, h3.ext h⟩

/-- How a body is at its end, ahead of what was put by: it returns, or panics. -/
inductive AEnd where
  | ret
  | pan (v : AVal)
inductive AOut where
  | ret (v : AVal)
  | pan (v : AVal)
def modeR (P : Program) (w : World) (ro : Nat → Prop) (μ : Mu) : AEnd → FrameMode → Prop
  | .ret, m => m = .returning
  | .pan v, m => ∃ u, m = .panicking [{ v := u, recovered := false }] ∧ VR P w ro μ v u
theorem modeR.ext {P : Program} {w w' : World} {ro ro' : Nat → Prop} {μ μ' : Mu} (h : Ext w ro μ w' ro' μ') {e : AEnd} {m : FrameMode} (hm : modeR P w ro μ e m) : modeR P w' ro' μ' e m := by
  cases e with
  | ret => exact hm
  | pan v => obtain ⟨u, h1, h2⟩ := hm; exact ⟨u, h1, h2.ext h _ _⟩
def OutR (P : Program) (w : World) (ro : Nat → Prop) (μ : Mu) : AOut → Ending → Prop
  | .ret v, e => ∃ u, e = .returned u ∧ VR P w ro μ v u
  | .pan v, e => ∃ u, e = .panicked [{ v := u, recovered := false }] ∧ VR P w ro μ v u

/-- A call that may panic. -/
def CallX (P : Program) (f : FuncId) (args : List AVal) (H : AHeap) (K : AOut → AHeap → Prop) : Prop :=
  ∀ w ro μ (argv : Array Value), Good P w ro μ H → VRs P w ro μ args argv.toList →
    Calls P f argv w fun e w' => ∃ o H' ro' μ', K o H' ∧ OutR P w' ro' μ' o e ∧ Good P w' ro' μ' H' ∧ Out w ro μ H w' ro' μ' H'
theorem CallX.mono {P : Program} {f : FuncId} {args : List AVal} {H : AHeap} {K K' : AOut → AHeap → Prop} (h : CallX P f args H K) (hk : ∀ r H', K r H' → K' r H') : CallX P f args H K' :=
  fun w ro μ argv hg ha => (h w ro μ argv hg ha).mono fun e w' ⟨o, H', ro', μ', h1, h2⟩ => ⟨o, H', ro', μ', hk _ _ h1, h2⟩
theorem CallEv.x {P : Program} {f : FuncId} {args : List AVal} {H : AHeap} {K : AVal → AHeap → Prop} (h : CallEv P f args H K) : CallX P f args H fun o H' => ∃ v, o = .ret v ∧ K v H' :=
  fun w ro μ argv hg ha => (h w ro μ argv hg ha).mono fun e w' ⟨v', r, H', ro', μ', h1, h2, h3, h4, h5⟩ => ⟨.ret r, H', ro', μ', ⟨r, rfl, h2⟩, ⟨v', h1, h3⟩, h4, h5⟩

def DetX (P : Program) (f : FuncId) (args : List AVal) (H : AHeap) (o : AOut) (H' : AHeap) : Prop := Callable P f ∧ CallX P f args H fun a b => a = o ∧ b = H'
def DCallX (P : Program) (f : FuncId) (args : List AVal) (H : AHeap) (Q : AOut → AHeap → Prop) : Prop := ∃ o H', Q o H' ∧ DetX P f args H o H'
theorem DCallX.mono {P : Program} {f : FuncId} {args : List AVal} {H : AHeap} {Q Q' : AOut → AHeap → Prop} (h : DCallX P f args H Q) (hq : ∀ r H', Q r H' → Q' r H') : DCallX P f args H Q' := let ⟨r, H', q, d⟩ := h; ⟨r, H', hq _ _ q, d⟩
theorem DCall.x {P : Program} {f : FuncId} {args : List AVal} {H : AHeap} {Q : AVal → AHeap → Prop} (h : DCall P f args H Q) : DCallX P f args H fun o H' => ∃ v, o = .ret v ∧ Q v H' := by
  obtain ⟨r, H', q, hc, d⟩ := h
  exact ⟨.ret r, H', ⟨r, rfl, q⟩, hc, d.x.mono fun a b ⟨v, e, e1, e2⟩ => by subst e; subst e1; exact ⟨rfl, e2⟩⟩
/-- A call that never panics, behind which goes on what follows. -/
theorem DCall.monoX {P : Program} {f : FuncId} {args : List AVal} {H : AHeap} {Q : AVal → AHeap → Prop} {Q' : AOut → AHeap → Prop} (h : DCall P f args H Q) (hq : ∀ r H', Q r H' → Q' (.ret r) H') : DCallX P f args H Q' :=
  h.x.mono fun o H' ⟨v, e, q⟩ => by subst e; exact hq _ _ q
/-- A call that never panics, by a contract that does not say so at once. -/
theorem DCallX.back {P : Program} {f : FuncId} {args : List AVal} {H : AHeap} {Q : AVal → AHeap → Prop} (h : DCallX P f args H fun o H' => ∃ v, o = .ret v ∧ Q v H') : DCall P f args H Q := by
  obtain ⟨o, H', ⟨v, rfl, q⟩, hc, d⟩ := h
  refine ⟨v, H', q, hc, fun w ro μ argv hg ha => (d w ro μ argv hg ha).mono fun e w' ⟨o, H1, ro', μ', ⟨h1, h2⟩, h3, h4, h5⟩ => ?_⟩
  subst h1; subst h2
  obtain ⟨u, h6, h7⟩ := h3
  exact ⟨u, v, H1, ro', μ', h6, ⟨rfl, rfl⟩, h7, h4, h5⟩

/-! ### Operations -/
def OpsX (P : Program) : List AOper → List ADef → Env → AHeap → (List ADef → Env → AHeap → Prop) → (AVal → List ADef → Env → AHeap → Prop) → Prop
  | [], ds, T, H, K, R => K ds T H
  | o :: r, ds, T, H, K, R =>
    match wantedA T o.guard with
    | none => False
    | some false => OpsX P r ds (T.put o.dst aundef) H K R
    | some true =>
      match astep o.op T H with
      | none => False
      | some (.value v H') => OpsX P r ds (T.put o.dst v) H' K R
      | some (.enter f as) => Callable P f ∧ CallX P f as H fun x H' => match x with
        | .ret v => OpsX P r ds (T.put o.dst v) H' K R
        | .pan v => R v ds T H'
      | some (.anyOf _) => False
      | some (.pan v) => R v ds T H
      | some (.dfr g as) => OpsX P r ((g, as) :: ds) (T.put o.dst aundef) H K R

section
variable {P : Program} {w : World} {ro : Nat → Prop} {μ : Mu} {H : AHeap} {T : Env} {a : Act} {o : Oper} {ao : AOp}
theorem astep_pan {v : AVal} (h : astep ao T H = some (.pan v)) : ∃ x, ao = .pan x := by
  cases ao <;> simp only [astep] at h
  case pan x => exact ⟨x, rfl⟩
  case nxtM =>
    split at h
    · obtain ⟨l, hl⟩ := anextM_form h
      cases hl
    · cases h
  all_goals (repeat' (first | (cases h; done) | (obtain ⟨_, _, h⟩ := bind_some h) | split at h))
theorem astep_dfr {g : FuncId} {as : List AVal} (h : astep ao T H = some (.dfr g as)) : ∃ f xs, ao = .dfr f xs := by
  cases ao <;> simp only [astep] at h
  case dfr f xs => exact ⟨f, xs, rfl⟩
  case nxtM =>
    split at h
    · obtain ⟨l, hl⟩ := anextM_form h
      cases hl
    · cases h
  all_goals (repeat' (first | (cases h; done) | (obtain ⟨_, _, h⟩ := bind_some h) | split at h))
theorem cop_panic {op : Op} {x : AOpnd} (hc : cop P op = some (.pan x)) : ∃ y, op = .panic y ∧ copd y = some x := by
  cases op <;> simp only [cop] at hc
  case panic y => obtain ⟨_, hx, e⟩ := map_some hc; cases e; exact ⟨y, rfl, hx⟩
  case next y b => exfalso; cases b <;> simp only [cop] at hc <;> (obtain ⟨_, hx, e⟩ := map_some hc; cases e)
  case makeMap t r => exfalso; cases r <;> simp only [cop] at hc <;> cases hc
  case call c => exfalso; unfold ccall at hc; repeat' (first | split at hc | (cases hc; done) | (obtain ⟨_, _, hc⟩ := bind_some hc) | (obtain ⟨_, _, hc⟩ := map_some hc))
  all_goals (exfalso; repeat' (first | split at hc | (cases hc; done) | (obtain ⟨_, _, hc⟩ := bind_some hc) | (obtain ⟨_, _, hc⟩ := map_some hc)))
theorem cop_defer {op : Op} {f : AOpnd} {xs : List AOpnd} (hc : cop P op = some (.dfr f xs)) : ∃ c y, op = .defer c ∧ c.callee = .value y ∧ copd y = some f ∧ copds c.args.toList = some xs := by
  cases op <;> simp only [cop] at hc
  case defer c =>
    split at hc
    · cases hc
    · rename_i y _ hy
      obtain ⟨f', hf, hc⟩ := bind_some hc
      obtain ⟨as, has, hc⟩ := bind_some hc
      injection hc with hc; injection hc with h1 h2; subst h1; subst h2
      exact ⟨c, y, rfl, hy, hf, has⟩
    · cases hc
  case next y b => exfalso; cases b <;> simp only [cop] at hc <;> (obtain ⟨_, hx, e⟩ := map_some hc; cases e)
  case makeMap t r => exfalso; cases r <;> simp only [cop] at hc <;> cases hc
  case call c => exfalso; unfold ccall at hc; repeat' (first | split at hc | (cases hc; done) | (obtain ⟨_, _, hc⟩ := bind_some hc) | (obtain ⟨_, _, hc⟩ := map_some hc))
  all_goals (exfalso; repeat' (first | split at hc | (cases hc; done) | (obtain ⟨_, _, hc⟩ := bind_some hc) | (obtain ⟨_, _, hc⟩ := map_some hc)))
theorem cop_pan (hT : TR P w ro μ T a.tmps) (hc : cop P o.op = some ao) {v : AVal} (hs : astep ao T H = some (.pan v)) : ∃ u, (execOp a.eval o).run P w = .halt (.panic u) w ∧ VR P w ro μ v u := by
  obtain ⟨x, rfl⟩ := astep_pan hs
  obtain ⟨y, ho, hx⟩ := cop_panic hc
  simp only [astep] at hs
  split at hs
  · rename_i t v' hv
    injection hs with hs; injection hs with hs; subst hs
    have h := copd_sound hT hx hv
    obtain ⟨u, hu, hr⟩ := h
    refine ⟨.iface t u, ?_, u, rfl, hr⟩
    simp only [execOp, ho, hu]
    rfl
  · cases hs
theorem cop_dfr (hT : TR P w ro μ T a.tmps) (hc : cop P o.op = some ao) {g : FuncId} {as : List AVal} (hs : astep ao T H = some (.dfr g as)) : ∃ d, (execOp a.eval o).run P w = .ok (.defer d) w ∧ DefR P w ro μ (g, as) d := by
  obtain ⟨f, xs, rfl⟩ := astep_dfr hs
  obtain ⟨c, y, ho, hcal, hf, hxs⟩ := cop_defer hc
  simp only [astep] at hs
  split at hs
  · rename_i g' first cap hfv
    obtain ⟨u, hu, hs⟩ := bind_some hs
    injection hs with hs; injection hs with h1 h2; subst h1; subst h2
    obtain ⟨fs, cs, he, h1, h2⟩ := copd_sound hT hf hfv
    refine ⟨{ target := .fn (.func g') cs, args := fs ++ c.args.map a.eval }, ?_, cs, rfl, ?_⟩
    · simp [execOp, ho, resolve, hcal, he, Deferred.ofValue]
    · simp only [Array.toList_append]
      exact (h1.append (by simpa using copds_sound hT hxs hu)).append h2
  · cases hs
end

/-- A state that realizes one of ours, at a body's end. -/
def PostX (P : Program) (nt : Nat) (w : World) (ro : Nat → Prop) (μ : Mu) (H : AHeap) (K : AEnd → List ADef → Env → AHeap → Prop) (m : FrameMode) (a' : Act) (w' : World) : Prop :=
  ∃ e ds T' H' ro' μ', K e ds T' H' ∧ modeR P w' ro' μ' e m ∧ Good P w' ro' μ' H' ∧ TR P w' ro' μ' T' a'.tmps ∧ a'.tmps.size = nt ∧ DefRs P w' ro' μ' ds a'.defers ∧ Out w ro μ H w' ro' μ' H'
/-- The same behind a region: it goes on, or panics. -/
def QX (P : Program) (nt : Nat) (w : World) (ro : Nat → Prop) (μ : Mu) (H : AHeap) (K : List ADef → Env → AHeap → Prop) (R : AVal → List ADef → Env → AHeap → Prop) (e : Exit) (a' : Act) (w' : World) : Prop :=
  ∃ ds T' H' ro' μ', ((e = .normal ∧ K ds T' H') ∨ ∃ v u, e = .panic [{ v := u, recovered := false }] ∧ VR P w' ro' μ' v u ∧ R v ds T' H') ∧ Good P w' ro' μ' H' ∧ TR P w' ro' μ' T' a'.tmps ∧ a'.tmps.size = nt ∧ DefRs P w' ro' μ' ds a'.defers ∧ Out w ro μ H w' ro' μ' H'
theorem QX.from {P : Program} {nt : Nat} {w w1 : World} {ro ro1 : Nat → Prop} {μ μ1 : Mu} {H H1 : AHeap} {K : List ADef → Env → AHeap → Prop} {R : AVal → List ADef → Env → AHeap → Prop} (ho : Out w ro μ H w1 ro1 μ1 H1) {e : Exit} {a' : Act} {w' : World} (h : QX P nt w1 ro1 μ1 H1 K R e a' w') : QX P nt w ro μ H K R e a' w' := by
  obtain ⟨ds, T', H', ro', μ', k1, k2, k3, k4, k5, k6⟩ := h
  exact ⟨ds, T', H', ro', μ', k1, k2, k3, k4, k5, ho.trans k6⟩

theorem wpOps_mono {P : Program} {ops : Array Oper} : ∀ (idx : List Nat) {Q Q' : Exit → Act → World → Prop} (a : Act) (w : World), (∀ e a w, Q e a w → Q' e a w) → wpOps P ops Q idx a w → wpOps P ops Q' idx a w := by
  intro idx
  induction idx with
  | nil => intro Q Q' a w hq h; exact hq _ _ _ h
  | cons j idx ih2 =>
    intro Q Q' a w hq h
    rw [wpOps_cons] at h ⊢
    unfold wpOp at h ⊢
    split
    · rename_i hj; simp only [hj] at h; exact ih2 _ _ hq h
    · rename_i oo hj
      simp only [hj] at h
      split
      · rename_i hw
        simp only [hw, if_true] at h
        rcases h with h | ⟨h5, a0, w0, h6⟩
        · refine .inl ?_
          unfold Oper.wp at h ⊢
          generalize (execOp a.eval oo).run P w = res at h ⊢
          cases res with
          | ok nx w2 =>
            cases nx <;> simp only [Oper.upon] at h ⊢ <;>
              first
                | exact ih2 _ _ hq h
                | exact Calls.mono h (fun e w'' he => by
                    cases e with
                    | returned v => exact ih2 _ _ hq he
                    | panicked ch => exact hq _ _ _ he
                    | outgrown => obtain ⟨a0, w0, h0⟩ := he; exact ⟨a0, w0, hq _ _ _ h0⟩)
                | exact Rows.mono h (fun _ _ he => ih2 _ _ hq he)
                | exact h
          | halt x w2 =>
            cases x <;> simp only [Oper.upon] at h ⊢ <;> first | exact hq _ _ _ h | exact h
        · exact .inr ⟨h5, a0, w0, hq _ _ _ h6⟩
      · rename_i hw
        simp only [hw] at h
        exact ih2 _ _ hq h

theorem opsX_sound {P : Program} {nt : Nat} {ops : Array Oper} : ∀ (l : List AOper) (i : Nat), copers P nt ops (ops.toList.drop i) = some l → ∀ {ds : List ADef} {T : Env} {H : AHeap} {K : List ADef → Env → AHeap → Prop} {R : AVal → List ADef → Env → AHeap → Prop}, OpsX P l ds T H K R →
    ∀ {w : World} {ro : Nat → Prop} {μ : Mu} {a : Act}, Good P w ro μ H → TR P w ro μ T a.tmps → a.tmps.size = nt → DefRs P w ro μ ds a.defers →
    wpOps P ops (QX P nt w ro μ H K R) (List.range' i (ops.size - i)) a w
  | l, i, hl, ds, T, H, K, R, hr, w, ro, μ, a, hg, hT, hs, hd => by
    by_cases hi : i < ops.size
    · have hdrop : ops.toList.drop i = ops[i] :: ops.toList.drop (i + 1) := by
        rw [List.drop_eq_getElem_cons (by simpa using hi)]; simp
      rw [hdrop] at hl
      simp only [copers] at hl
      obtain ⟨ao, hao, hl⟩ := bind_some hl
      obtain ⟨r, hrr, hl⟩ := bind_some hl
      injection hl with hl; subst hl
      obtain ⟨h1, h2, h3, h4⟩ := coper_inv hao
      have hsub : ops.size - i = (ops.size - (i + 1)) + 1 := by omega
      rw [hsub, List.range'_succ]
      have hget : ops[i]? = some ops[i] := by simp [hi]
      simp only [wpOps, hget]
      simp only [OpsX] at hr
      have go : ∀ {ds1 : List ADef} {T1 : Env} {H1 : AHeap} {w1 : World} {ro1 : Nat → Prop} {μ1 : Mu} {a1 : Act}, OpsX P r ds1 T1 H1 K R → Good P w1 ro1 μ1 H1 → TR P w1 ro1 μ1 T1 a1.tmps → a1.tmps.size = nt → DefRs P w1 ro1 μ1 ds1 a1.defers → Out w ro μ H w1 ro1 μ1 H1 →
          wpOps P ops (QX P nt w ro μ H K R) (List.range' (i + 1) (ops.size - (i + 1))) a1 w1 := by
        intro ds1 T1 H1 w1 ro1 μ1 a1 hr1 hg1 hT1 hs1 hd1 ho1
        exact wpOps_mono _ _ _ (fun e a' w' => QX.from ho1) (opsX_sound r (i + 1) hrr hr1 hg1 hT1 hs1 hd1)
      split at hr
      · exact hr.elim
      · rename_i hw
        have hwt := wantedA_sound hT h2 hw
        simp only [hwt, Bool.false_eq_true, if_false]
        obtain ⟨p1, p2, p3⟩ := hT.putAct h4 hs (v := aundef) (v' := undef) ⟨#[], rfl, rfl⟩
        rw [h3] at hr
        exact go hr hg p1 p2 (by rw [p3]; exact hd) (Out.refl _ _ _ _)
      · rename_i hw
        have hwt := wantedA_sound hT h2 hw
        simp only [hwt, if_true]
        refine .inl ?_
        unfold Oper.wp
        split at hr
        · exact hr.elim
        · rename_i v H1 hst
          obtain ⟨v', w1, μ1, hrun, hv, hg1, ho1⟩ := cop_sound hg hT h1 hst
          have hx := Out.ext hg ho1
          have hT1 := hT.ext hx
          obtain ⟨p1, p2, p3⟩ := hT1.putAct h4 hs hv
          rw [h3] at hr
          rcases hrun with hrun | ⟨hrun, rfl⟩
          · rw [hrun]; exact go hr hg1 p1 p2 (by rw [p3]; exact hd.ext hx) ho1
          · rw [hrun]; exact go hr hg1 p1 p2 (by rw [p3]; exact hd.ext hx) ho1
        · rename_i f as hst
          obtain ⟨hcb, hcall⟩ := hr
          obtain ⟨args, hrun, hargs⟩ := cop_enter (w := w) hT h1 hst hcb
          rw [hrun]
          show Calls P f args w _
          refine (hcall w ro μ args hg hargs).mono ?_
          rintro e w1 ⟨x, H1, ro1, μ1, hk, hv, hg1, ho1⟩
          have hx := Out.ext hg ho1
          have hT1 := hT.ext hx
          cases x with
          | ret v =>
            obtain ⟨v', rfl, hv⟩ := hv
            obtain ⟨p1, p2, p3⟩ := hT1.putAct h4 hs hv
            simp only at hk
            rw [h3] at hk
            exact go hk hg1 p1 p2 (by rw [p3]; exact hd.ext hx) ho1
          | pan v =>
            obtain ⟨u, rfl, hv⟩ := hv
            exact ⟨ds, T, H1, ro1, μ1, .inr ⟨v, u, rfl, hv, hk⟩, hg1, hT1, hs, hd.ext hx, ho1⟩
        · exact hr.elim
        · rename_i v hst
          obtain ⟨u, hrun, hv⟩ := cop_pan (w := w) hT h1 hst
          rw [hrun]
          exact ⟨ds, T, H, ro, μ, .inr ⟨v, u, rfl, hv, hr⟩, hg, hT, hs, hd, Out.refl _ _ _ _⟩
        · rename_i g as hst
          obtain ⟨d, hrun, hv⟩ := cop_dfr (w := w) hT h1 hst
          rw [hrun]
          have hd' : DefRs P w ro μ ((g, as) :: ds) (d :: a.defers) := ⟨d, a.defers, rfl, hv, hd⟩
          obtain ⟨p1, p2, p3⟩ := TR.putAct (a := { a with defers := d :: a.defers }) hT h4 hs (v := aundef) (v' := undef) ⟨#[], rfl, rfl⟩
          rw [h3] at hr
          exact go hr hg p1 p2 (by rw [p3]; exact hd') (Out.refl _ _ _ _)
    · have h0 : ops.size - i = 0 := by omega
      have hdrop : ops.toList.drop i = [] := by apply List.drop_eq_nil_of_le; simp; omega
      rw [hdrop] at hl
      simp only [copers] at hl; injection hl with hl; subst hl
      rw [h0]
      simp only [List.range'_zero, wpOps]
      exact ⟨ds, T, H, ro, μ, .inl ⟨rfl, hr⟩, hg, hT, hs, hd, Out.refl _ _ _ _⟩
  termination_by l => l.length
end Go.Am
