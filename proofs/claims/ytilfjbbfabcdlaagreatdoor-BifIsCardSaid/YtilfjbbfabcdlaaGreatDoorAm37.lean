/- Bodies that may end in a panic, and put calls by: the rules. -/
import Derived.Test.YtilfjbbfabcdlaaGreatDoorAm36
set_option linter.unusedVariables false
set_option linter.unusedSimpArgs false
namespace Go.Am
open Go.RowKit

def RunsX (P : Program) (ks : Keeps) (nt : Nat) (todo : List AItem) (ds : List ADef) (T : Env) (H : AHeap) (K : AEnd → List ADef → Env → AHeap → Prop) : Prop :=
  ∀ items, CIs P ks nt items todo → ∀ w ro μ (a : Act), Good P w ro μ H → TR P w ro μ T a.tmps → a.tmps.size = nt → DefRs P w ro μ ds a.defers → ∀ (b : Frame) (cs : List Frame),
    ∃ a' w' todo' m, PostX P nt w ro μ H K m a' w' ∧ Steps P (lone (b.at a items) cs w) (lone { b.at a' todo' with mode := m } cs w')

variable {P : Program} {ks : Keeps} {nt : Nat} {k : List AItem} {ds : List ADef} {T : Env} {H : AHeap} {K : AEnd → List ADef → Env → AHeap → Prop}
theorem PostX.from {w w1 : World} {ro ro1 : Nat → Prop} {μ μ1 : Mu} {H1 : AHeap} {m : FrameMode} {a' : Act} {w' : World} (ho : Out w ro μ H w1 ro1 μ1 H1) (h : PostX P nt w1 ro1 μ1 H1 K m a' w') : PostX P nt w ro μ H K m a' w' := by
  obtain ⟨e, ds, T', H', ro', μ', k1, k2, k3, k4, k5, k6, k7⟩ := h
  exact ⟨e, ds, T', H', ro', μ', k1, k2, k3, k4, k5, k6, ho.trans k7⟩
theorem RunsX.one {todo k : List AItem} (hi : ∀ items, CIs P ks nt items todo → ∃ items', CIs P ks nt items' k ∧ ∀ (b : Frame) (a : Act) (cs : List Frame) (w : World) (ro : Nat → Prop) (μ : Mu), TR P w ro μ T a.tmps → Steps P (lone (b.at a items) cs w) (lone (b.at a items') cs w)) (h : RunsX P ks nt k ds T H K) : RunsX P ks nt todo ds T H K := by
  intro items hc w ro μ a hg hT hs hd b cs
  obtain ⟨items', hc', hst⟩ := hi items hc
  obtain ⟨a', w', todo', m, hp, hsteps⟩ := h items' hc' w ro μ a hg hT hs hd b cs
  exact ⟨a', w', todo', m, hp, (hst b a cs w ro μ hT).trans hsteps⟩
theorem RunsX.skip (h : RunsX P ks nt k ds T H K) : RunsX P ks nt (.code .skip :: k) ds T H K :=
  .one (fun items hc => by
    obtain ⟨i, r, rfl, h1, h2⟩ := cis_cons hc
    obtain ⟨c, rfl, h3⟩ := ci_code h1
    have e3 := ccode_inv h3; simp only at e3; subst e3
    exact ⟨r, h2, fun b a cs w ro μ _ => .one step_skip⟩) h
theorem RunsX.label {l : Nat} (h : RunsX P ks nt k ds T H K) : RunsX P ks nt (.code (.label l) :: k) ds T H K :=
  .one (fun items hc => by
    obtain ⟨i, r, rfl, h1, h2⟩ := cis_cons hc
    obtain ⟨c, rfl, h3⟩ := ci_code h1
    have e3 := ccode_inv h3; simp only at e3; subst e3
    exact ⟨r, h2, fun b a cs w ro μ _ => .one step_label⟩) h
theorem RunsX.seq {x y : ACode} (h : RunsX P ks nt (.code x :: .code y :: k) ds T H K) : RunsX P ks nt (.code (.seq x y) :: k) ds T H K :=
  .one (fun items hc => by
    obtain ⟨i, r, rfl, h1, h2⟩ := cis_cons hc
    obtain ⟨c, rfl, h3⟩ := ci_code h1
    obtain ⟨p, q, rfl, h4, h5⟩ := ccode_inv h3
    exact ⟨.code p :: .code q :: r, ⟨h4, h5, h2⟩, fun b a cs w ro μ _ => .one step_seq⟩) h
theorem RunsX.cond {u : AOpnd} {x y : ACode} {t : Bool} (hu : T.val u = some (.bool t)) (h : RunsX P ks nt (.code (if t = true then x else y) :: k) ds T H K) : RunsX P ks nt (.code (.cond u x y) :: k) ds T H K := by
  intro items hc w ro μ a hg hT hs hd b cs
  obtain ⟨i, r, rfl, h1, h2⟩ := cis_cons hc
  obtain ⟨c, rfl, h3⟩ := ci_code h1
  obtain ⟨v, p, q, rfl, h4, h5, h6⟩ := ccode_inv h3
  have hv := copd_sound hT h4 hu
  simp only [VR] at hv
  obtain ⟨a', w', todo', m, hp, hsteps⟩ := h (.code (if t then p else q) :: r) ⟨by cases t <;> first | exact h6 | exact h5, h2⟩ w ro μ a hg hT hs hd b cs
  exact ⟨a', w', todo', m, hp, .head (step_cond hv) hsteps⟩
theorem RunsX.block {id : Nat} {x : ACode} (h : RunsX P ks nt (.code x :: .inBlock id :: k) ds T H K) : RunsX P ks nt (.code (.block id x) :: k) ds T H K :=
  .one (fun items hc => by
    obtain ⟨i, r, rfl, h1, h2⟩ := cis_cons hc
    obtain ⟨c, rfl, h3⟩ := ci_code h1
    obtain ⟨p, rfl, h4⟩ := ccode_inv h3
    exact ⟨.code p :: .inBlock id :: r, ⟨h4, rfl, h2⟩, fun b a cs w ro μ _ => .one step_block⟩) h
theorem RunsX.inBlock {id : Nat} (h : RunsX P ks nt k ds T H K) : RunsX P ks nt (.inBlock id :: k) ds T H K :=
  .one (fun items hc => by
    obtain ⟨i, r, rfl, h1, h2⟩ := cis_cons hc
    cases i <;> first | exact h1.elim | skip
    exact ⟨r, h2, fun b a cs w ro μ _ => .one step_inBlock⟩) h
theorem RunsX.loop {x : ACode} (h : RunsX P ks nt (.code x :: .inLoop x :: k) ds T H K) : RunsX P ks nt (.code (.loop x) :: k) ds T H K :=
  .one (fun items hc => by
    obtain ⟨i, r, rfl, h1, h2⟩ := cis_cons hc
    obtain ⟨c, rfl, h3⟩ := ci_code h1
    obtain ⟨p, rfl, h4⟩ := ccode_inv h3
    exact ⟨.code p :: .inLoop p :: r, ⟨h4, h4, h2⟩, fun b a cs w ro μ _ => .one step_loop⟩) h
theorem RunsX.inLoop {x : ACode} (h : RunsX P ks nt (.code x :: .inLoop x :: k) ds T H K) : RunsX P ks nt (.inLoop x :: k) ds T H K :=
  .one (fun items hc => by
    obtain ⟨i, r, rfl, h1, h2⟩ := cis_cons hc
    cases i <;> first | exact h1.elim | skip
    rename_i p
    exact ⟨.code p :: .inLoop p :: r, ⟨h1, h1, h2⟩, fun b a cs w ro μ _ => .one step_inLoop⟩) h
theorem RunsX.scope {x : ACode} (h : RunsX P ks nt (.code x :: .inScope x :: k) ds T H K) : RunsX P ks nt (.code (.scope x) :: k) ds T H K :=
  .one (fun items hc => by
    obtain ⟨i, r, rfl, h1, h2⟩ := cis_cons hc
    obtain ⟨c, rfl, h3⟩ := ci_code h1
    obtain ⟨p, rfl, h4⟩ := ccode_inv h3
    exact ⟨.code p :: .inScope p :: r, ⟨h4, h4, h2⟩, fun b a cs w ro μ _ => .one step_scope⟩) h
theorem RunsX.inScope {x : ACode} (h : RunsX P ks nt k ds T H K) : RunsX P ks nt (.inScope x :: k) ds T H K :=
  .one (fun items hc => by
    obtain ⟨i, r, rfl, h1, h2⟩ := cis_cons hc
    cases i <;> first | exact h1.elim | skip
    exact ⟨r, h2, fun b a cs w ro μ _ => .one step_inScope⟩) h
theorem RunsX.exit {id : Nat} {k' : List AItem} (he : aexitTo id k = some k') (h : RunsX P ks nt k' ds T H K) : RunsX P ks nt (.code (.exit id) :: k) ds T H K :=
  .one (fun items hc => by
    obtain ⟨i, r, rfl, h1, h2⟩ := cis_cons hc
    obtain ⟨c, rfl, h3⟩ := ci_code h1
    have e3 := ccode_inv h3; simp only at e3; subst e3
    obtain ⟨r', h4, h5⟩ := exitTo_sound h2 he
    exact ⟨r', h5, fun b a cs w ro μ _ => .one (step_exit h4)⟩) h
theorem RunsX.goto {l : Nat} {k' : List AItem} (he : agotoIn l k = some k') (h : RunsX P ks nt k' ds T H K) : RunsX P ks nt (.code (.goto l) :: k) ds T H K :=
  .one (fun items hc => by
    obtain ⟨i, r, rfl, h1, h2⟩ := cis_cons hc
    obtain ⟨c, rfl, h3⟩ := ci_code h1
    have e3 := ccode_inv h3; simp only at e3; subst e3
    obtain ⟨r', h4, h5⟩ := gotoIn_sound h2 he
    exact ⟨r', h5, fun b a cs w ro μ _ => .one (step_goto h4)⟩) h
theorem RunsX.ret (h : K .ret ds T H) : RunsX P ks nt (.code .ret :: k) ds T H K := by
  intro items hc w ro μ a hg hT hs hd b cs
  obtain ⟨i, r, rfl, h1, h2⟩ := cis_cons hc
  obtain ⟨c, rfl, h3⟩ := ci_code h1
  have e3 := ccode_inv h3; simp only at e3; subst e3
  exact ⟨a, w, _, .returning, ⟨.ret, ds, T, H, ro, μ, h, rfl, hg, hT, hs, hd, Out.refl _ _ _ _⟩, .one step_ret⟩
theorem RunsX.done (h : K .ret ds T H) : RunsX P ks nt [] ds T H K := by
  intro items hc w ro μ a hg hT hs hd b cs
  cases items with
  | cons i r => exact hc.elim
  | nil => exact ⟨a, w, _, .returning, ⟨.ret, ds, T, H, ro, μ, h, rfl, hg, hT, hs, hd, Out.refl _ _ _ _⟩, .one step_end⟩
theorem RunsX.region {l : List AOper} {kl : List Nat} (h : OpsX P l ds T H (fun ds' T' H' => RunsX P ks nt k ds' (T'.keep kl) H' K) fun v ds' T' H' => K (.pan v) ds' T' H') : RunsX P ks nt (.code (.region false l kl) :: k) ds T H K := by
  intro items hc w ro μ a hg hT hs hd b cs
  obtain ⟨i, r, rfl, h1, h2⟩ := cis_cons hc
  obtain ⟨c, rfl, h3⟩ := ci_code h1
  obtain ⟨id, ops, rfl, h4, rfl⟩ := ccode_inv h3
  have hops := opsX_sound l 0 (by simpa using h4) h hg hT hs hd
  rw [Nat.sub_zero, ← List.range_eq_range'] at hops
  obtain ⟨e, a1, w1, ⟨ds1, T1, H1, ro1, μ1, ⟨rfl, k1⟩ | ⟨v, u, rfl, hv, k1⟩, k2, k3, k4, k5, k6⟩, harr⟩ := wp_ops _ a w hops b r cs
  · obtain ⟨a', w', todo', m, hp, hsteps⟩ := k1 r h2 w1 ro1 μ1 a1 k2 (k3.keep _) k4 k5 b cs
    exact ⟨a', w', todo', m, hp.from k6, .head step_region (Steps.trans harr hsteps)⟩
  · obtain ⟨todo, hst⟩ := harr
    exact ⟨a1, w1, todo, _, ⟨.pan v, ds1, T1, H1, ro1, μ1, k1, ⟨u, rfl, hv⟩, k2, k3, k4, k5, k6⟩, .head step_region hst⟩
theorem RunsX.mono {todo : List AItem} {K' : AEnd → List ADef → Env → AHeap → Prop} (h : RunsX P ks nt todo ds T H K) (hk : ∀ e d T' H', K e d T' H' → K' e d T' H') : RunsX P ks nt todo ds T H K' := by
  intro items hi w ro μ a hg hT hs hd b cs
  obtain ⟨a', w', todo', m, ⟨e, d, T', H', ro', μ', h1, h2⟩, h3⟩ := h items hi w ro μ a hg hT hs hd b cs
  exact ⟨a', w', todo', m, ⟨e, d, T', H', ro', μ', hk _ _ _ _ h1, h2⟩, h3⟩
theorem RunsX.weaken {todo : List AItem} {H1 : AHeap} (hs : Sub H1 H) (h : RunsX P ks nt todo ds T H1 K) : RunsX P ks nt todo ds T H K := by
  intro items hc w ro μ a hg hT hsz hd b cs
  obtain ⟨a', w', todo', m, hp, hsteps⟩ := h items hc w ro μ a (hg.sub hs) hT hsz hd b cs
  exact ⟨a', w', todo', m, hp.from (Out.sub hs), hsteps⟩

/-! ### With one outcome -/
def DRX (P : Program) (ks : Keeps) (nt : Nat) (todo : List AItem) (ds : List ADef) (T : Env) (H : AHeap) (Q : AEnd → List ADef → Env → AHeap → Prop) : Prop :=
  ∃ e d T' H', Q e d T' H' ∧ RunsX P ks nt todo ds T H fun e1 d1 T1 H1 => e1 = e ∧ d1 = d ∧ T1 = T' ∧ H1 = H'
variable {Q : AEnd → List ADef → Env → AHeap → Prop}
theorem DRX.mono {todo : List AItem} {Q' : AEnd → List ADef → Env → AHeap → Prop} (h : DRX P ks nt todo ds T H Q) (hq : ∀ e d T' H', Q e d T' H' → Q' e d T' H') : DRX P ks nt todo ds T H Q' := let ⟨e, d, T', H', q, r⟩ := h; ⟨e, d, T', H', hq _ _ _ _ q, r⟩
theorem DRX.lift {todo todo' : List AItem} {ds1 : List ADef} {T1 : Env} {H1 : AHeap} (f : ∀ K, RunsX P ks nt todo' ds1 T1 H1 K → RunsX P ks nt todo ds T H K) (h : DRX P ks nt todo' ds1 T1 H1 Q) : DRX P ks nt todo ds T H Q := let ⟨e, d, T', H', q, r⟩ := h; ⟨e, d, T', H', q, f _ r⟩
theorem DRX.skip (h : DRX P ks nt k ds T H Q) : DRX P ks nt (.code .skip :: k) ds T H Q := h.lift fun _ => RunsX.skip
theorem DRX.label {l : Nat} (h : DRX P ks nt k ds T H Q) : DRX P ks nt (.code (.label l) :: k) ds T H Q := h.lift fun _ => RunsX.label
theorem DRX.seq {x y : ACode} (h : DRX P ks nt (.code x :: .code y :: k) ds T H Q) : DRX P ks nt (.code (.seq x y) :: k) ds T H Q := h.lift fun _ => RunsX.seq
theorem DRX.cond {u : AOpnd} {x y : ACode} {t : Bool} (hu : T.val u = some (.bool t)) (h : DRX P ks nt (.code (if t = true then x else y) :: k) ds T H Q) : DRX P ks nt (.code (.cond u x y) :: k) ds T H Q := h.lift fun _ => RunsX.cond hu
theorem DRX.yes {u : AOpnd} {x y : ACode} (hu : T.val u = some (.bool true)) (h : DRX P ks nt (.code x :: k) ds T H Q) : DRX P ks nt (.code (.cond u x y) :: k) ds T H Q := DRX.cond hu h
theorem DRX.no {u : AOpnd} {x y : ACode} (hu : T.val u = some (.bool false)) (h : DRX P ks nt (.code y :: k) ds T H Q) : DRX P ks nt (.code (.cond u x y) :: k) ds T H Q := DRX.cond hu h
theorem DRX.block {id : Nat} {x : ACode} (h : DRX P ks nt (.code x :: .inBlock id :: k) ds T H Q) : DRX P ks nt (.code (.block id x) :: k) ds T H Q := h.lift fun _ => RunsX.block
theorem DRX.inBlock {id : Nat} (h : DRX P ks nt k ds T H Q) : DRX P ks nt (.inBlock id :: k) ds T H Q := h.lift fun _ => RunsX.inBlock
theorem DRX.loop {x : ACode} (h : DRX P ks nt (.code x :: .inLoop x :: k) ds T H Q) : DRX P ks nt (.code (.loop x) :: k) ds T H Q := h.lift fun _ => RunsX.loop
theorem DRX.inLoop {x : ACode} (h : DRX P ks nt (.code x :: .inLoop x :: k) ds T H Q) : DRX P ks nt (.inLoop x :: k) ds T H Q := h.lift fun _ => RunsX.inLoop
theorem DRX.scope {x : ACode} (h : DRX P ks nt (.code x :: .inScope x :: k) ds T H Q) : DRX P ks nt (.code (.scope x) :: k) ds T H Q := h.lift fun _ => RunsX.scope
theorem DRX.inScope {x : ACode} (h : DRX P ks nt k ds T H Q) : DRX P ks nt (.inScope x :: k) ds T H Q := h.lift fun _ => RunsX.inScope
theorem DRX.exit {id : Nat} {k' : List AItem} (he : aexitTo id k = some k') (h : DRX P ks nt k' ds T H Q) : DRX P ks nt (.code (.exit id) :: k) ds T H Q := h.lift fun _ => RunsX.exit he
theorem DRX.goto {l : Nat} {k' : List AItem} (he : agotoIn l k = some k') (h : DRX P ks nt k' ds T H Q) : DRX P ks nt (.code (.goto l) :: k) ds T H Q := h.lift fun _ => RunsX.goto he
theorem DRX.ret (h : Q .ret ds T H) : DRX P ks nt (.code .ret :: k) ds T H Q := ⟨.ret, ds, T, H, h, RunsX.ret ⟨rfl, rfl, rfl, rfl⟩⟩
theorem DRX.done (h : Q .ret ds T H) : DRX P ks nt [] ds T H Q := ⟨.ret, ds, T, H, h, RunsX.done ⟨rfl, rfl, rfl, rfl⟩⟩
theorem DRX.weaken {todo : List AItem} {H1 : AHeap} (hs : Sub H1 H) (h : DRX P ks nt todo ds T H1 Q) : DRX P ks nt todo ds T H Q := h.lift fun _ => RunsX.weaken hs
theorem DRX.nm1 {k' : List AItem} : ∀ (k : List AItem), anm1 k = some k' → DRX P ks nt k' ds T H Q → DRX P ks nt k ds T H Q := by
  intro k e h
  unfold anm1 at e
  split at e
  all_goals first
    | contradiction
    | (injection e with e; subst e; first | exact DRX.seq h | exact DRX.block h | exact DRX.skip h | exact DRX.inBlock h | exact DRX.scope h | exact DRX.inScope h | exact DRX.label h)
theorem DRX.nm' {k' : List AItem} : ∀ (n : Nat) (k : List AItem), anm n k = some k' → DRX P ks nt k' ds T H Q → DRX P ks nt k ds T H Q := by
  intro n
  induction n with
  | zero => intro k e h; injection e with e; subst e; exact h
  | succ n ih =>
    intro k e h
    simp only [anm] at e
    cases h1 : anm1 k with
    | none => rw [h1] at e; injection e with e; subst e; exact h
    | some k1 => rw [h1] at e; exact DRX.nm1 k h1 (ih k1 e h)
theorem DRX.nm {k k' : List AItem} (e : anm 60 k = some k') (h : DRX P ks nt k' ds T H Q) : DRX P ks nt k ds T H Q := DRX.nm' 60 k e h

/-- Operations in the order of the text, with one outcome. -/
def DOpsX (P : Program) : List AOper → List ADef → Env → AHeap → (List ADef → Env → AHeap → Prop) → (AVal → List ADef → Env → AHeap → Prop) → Prop
  | [], ds, T, H, K, R => K ds T H
  | o :: r, ds, T, H, K, R =>
    match wantedA T o.guard with
    | none => False
    | some false => DOpsX P r ds (T.put o.dst aundef) H K R
    | some true =>
      match astep o.op T H with
      | none => False
      | some (.value v H') => DOpsX P r ds (T.put o.dst v) H' K R
      | some (.enter f as) => DCallX P f as H fun x H' => match x with
        | .ret v => DOpsX P r ds (T.put o.dst v) H' K R
        | .pan v => R v ds T H'
      | some (.anyOf _) => False
      | some (.pan v) => R v ds T H
      | some (.dfr g as) => DOpsX P r ((g, as) :: ds) (T.put o.dst aundef) H K R
theorem DOpsX.out : ∀ {l : List AOper} {ds : List ADef} {T : Env} {H : AHeap} {K : List ADef → Env → AHeap → Prop} {R : AVal → List ADef → Env → AHeap → Prop}, DOpsX P l ds T H K R →
    (∃ d T' H', K d T' H' ∧ ∀ (K' : List ADef → Env → AHeap → Prop) R', K' d T' H' → OpsX P l ds T H K' R') ∨ ∃ v d T' H', R v d T' H' ∧ ∀ K' (R' : AVal → List ADef → Env → AHeap → Prop), R' v d T' H' → OpsX P l ds T H K' R'
  | [], ds, T, H, K, R, h => .inl ⟨ds, T, H, h, fun K' R' hk => hk⟩
  | o :: r, ds, T, H, K, R, h => by
    simp only [DOpsX] at h
    simp only [OpsX]
    cases hw : wantedA T o.guard with
    | none => rw [hw] at h; exact h.elim
    | some c =>
      rw [hw] at h
      cases c with
      | false => exact h.out
      | true =>
        simp only at h ⊢
        cases hs : astep o.op T H with
        | none => rw [hs] at h; exact h.elim
        | some nx =>
          rw [hs] at h
          cases nx with
          | value v H1 => exact h.out
          | anyOf _ => exact h.elim
          | pan v => exact .inr ⟨v, ds, T, H, h, fun K' R' hr => hr⟩
          | dfr g as => exact h.out
          | enter f as =>
            obtain ⟨x, H', h, hc, hd⟩ := h
            cases x with
            | ret v =>
              rcases h.out with ⟨d, T', H2, q, hk⟩ | ⟨u, d, T', H2, q, hk⟩
              · exact .inl ⟨d, T', H2, q, fun K' R' hK => ⟨hc, hd.mono fun a b ⟨e1, e2⟩ => by subst e1; subst e2; exact hk K' R' hK⟩⟩
              · exact .inr ⟨u, d, T', H2, q, fun K' R' hK => ⟨hc, hd.mono fun a b ⟨e1, e2⟩ => by subst e1; subst e2; exact hk K' R' hK⟩⟩
            | pan v => exact .inr ⟨v, ds, T, H', h, fun K' R' hr => ⟨hc, hd.mono fun a b ⟨e1, e2⟩ => by subst e1; subst e2; exact hr⟩⟩
theorem DRX.region {l : List AOper} {kl : List Nat} (h : DOpsX P l ds T H (fun ds' T' H' => DRX P ks nt k ds' (T'.keep kl) H' Q) fun v ds' T' H' => Q (.pan v) ds' T' H') : DRX P ks nt (.code (.region false l kl) :: k) ds T H Q := by
  rcases h.out with ⟨d, T1, H1, ⟨e, d2, T2, H2, q, r⟩, hk⟩ | ⟨v, d, T1, H1, q, hk⟩
  · exact ⟨e, d2, T2, H2, q, RunsX.region (hk _ _ r)⟩
  · exact ⟨.pan v, d, T1, H1, q, RunsX.region (hk _ _ ⟨rfl, rfl, rfl, rfl⟩)⟩
end Go.Am
