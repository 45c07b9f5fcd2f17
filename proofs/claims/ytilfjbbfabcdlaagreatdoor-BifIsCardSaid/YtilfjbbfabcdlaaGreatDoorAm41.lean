/- Runs of what is given outright, with panics, deferred calls and recover: an evaluator that the kernel can run, and that it tells no lie. -/
import Derived.Test.YtilfjbbfabcdlaaGreatDoorAm40
set_option linter.unusedVariables false
set_option linter.unusedSimpArgs false
namespace Go.Am
open Go.RowKit

abbrev ACallX := FuncId → List AVal → AHeap → Option (AOut × AHeap)
def SoundX (P : Program) (call : ACallX) : Prop := ∀ f as H o H', call f as H = some (o, H') → DetX P f as H o H'

inductive ARs where
  | go (ds : List ADef) (T : Env) (H : AHeap)
  | pan (v : AVal) (ds : List ADef) (T : Env) (H : AHeap)
def ARs.Is (K : List ADef → Env → AHeap → Prop) (R : AVal → List ADef → Env → AHeap → Prop) : ARs → Prop
  | .go ds T H => K ds T H
  | .pan v ds T H => R v ds T H

def xops (call : ACallX) : List AOper → List ADef → Env → AHeap → Option ARs
  | [], ds, T, H => some (.go ds T H)
  | o :: r, ds, T, H => match wantedA T o.guard with
    | none => none
    | some false => xops call r ds (T.put o.dst aundef) H
    | some true => match astep o.op T H with
      | some (.value v H') => xops call r ds (T.put o.dst v) H'
      | some (.enter f as) => match call f as H with
        | some (.ret v, H') => xops call r ds (T.put o.dst v) H'
        | some (.pan v, H') => some (.pan v ds T H')
        | none => none
      | some (.pan v) => some (.pan v ds T H)
      | some (.dfr g as) => xops call r ((g, as) :: ds) (T.put o.dst aundef) H
      | _ => none

theorem xops_sound {P : Program} {call : ACallX} (hc : SoundX P call) : ∀ (l : List AOper) (ds : List ADef) (T : Env) (H : AHeap) (x : ARs), xops call l ds T H = some x → ∀ {K : List ADef → Env → AHeap → Prop} {R : AVal → List ADef → Env → AHeap → Prop}, x.Is K R → DOpsX P l ds T H K R
  | [], ds, T, H, x, h, K, R, hk => by
    simp only [xops] at h; injection h with h; subst h; exact hk
  | o :: r, ds, T, H, x, h, K, R, hk => by
    simp only [xops] at h
    simp only [DOpsX]
    split at h
    · cases h
    · rename_i hw; rw [hw]; exact xops_sound hc r _ _ _ _ h hk
    · rename_i hw
      rw [hw]
      split at h
      · rename_i v H1 hs; rw [hs]; exact xops_sound hc r _ _ _ _ h hk
      · rename_i f as hs
        rw [hs]
        split at h
        · rename_i v H1 he
          exact ⟨.ret v, H1, xops_sound hc r _ _ _ _ h hk, hc _ _ _ _ _ he⟩
        · rename_i v H1 he
          injection h with h; subst h
          exact ⟨.pan v, H1, hk, hc _ _ _ _ _ he⟩
        · cases h
      · rename_i v hs; rw [hs]; injection h with h; subst h; exact hk
      · rename_i g as hs; rw [hs]; exact xops_sound hc r _ _ _ _ h hk
      · cases h

theorem seesAll_of {m : Nat} {op : AOp} {T : Env} {v : AVal} (hq : op.quiet = true) : ∀ {hs : List (Nat × AHeap)}, asees m op T v hs = true → seesAll m op T v hs
  | [], _ => trivial
  | q :: r, h => by
    simp only [asees, Bool.and_eq_true, Bool.or_eq_true] at h
    simp only [seesAll]
    cases hb : abit m q.1 with
    | true => exact seesAll_of hq h.2
    | false =>
      rw [hb] at h
      have h1 := h.1.resolve_left (by simp)
      refine ⟨?_, seesAll_of hq h.2⟩
      split at h1
      · rename_i u H2 hs
        obtain ⟨u', hu'⟩ := astep_quiet hq hs
        injection hu' with e1 e2
        rw [hs, AVal.eqb_eq _ _ h1, e2]
      · cases h1
theorem staysAll_of {m : Nat} {H1 : AHeap} : ∀ {rs : List Seen}, (∀ q ∈ rs, q.op.quiet = true) → astays m H1 rs = true → staysAll m H1 rs
  | [], _, _ => trivial
  | q :: r, hall, h => by
    simp only [astays, Bool.and_eq_true, Bool.or_eq_true] at h
    simp only [staysAll]
    cases hb : abit m q.at_ with
    | true => exact staysAll_of (fun q hq => hall q (List.mem_cons_of_mem _ hq)) h.2
    | false =>
      rw [hb] at h
      have h1 := h.1.resolve_left (by simp)
      refine ⟨?_, staysAll_of (fun q hq => hall q (List.mem_cons_of_mem _ hq)) h.2⟩
      split at h1
      · rename_i u H2 hs
        obtain ⟨u', hu'⟩ := astep_quiet (hall _ (List.mem_cons_self ..)) hs
        injection hu' with e1 e2
        rw [hs, AVal.eqb_eq _ _ h1, e2]
      · cases h1

def xrb (ms : List Nat) (p : Nat) : Nat → List AOper → List (Nat × AHeap) → Env → AHeap → Bool
  | _, [], _, _, _ => true
  | i, o :: r, hs, T, H => match abit (ms.getD i 0) p with
    | true => xrb ms p (i + 1) r hs (T.put o.dst aundef) H
    | false => match o.op.quiet with
      | false => false
      | true => match wantedA T o.guard with
        | none => false
        | some false => xrb ms p (i + 1) r hs (T.put o.dst aundef) H
        | some true => match astep o.op T H with
          | some (.value v _) => match o.op.reads with
            | true => match asees (ms.getD i 0) o.op T v hs with
              | true => xrb ms p (i + 1) r hs (T.put o.dst v) H
              | false => false
            | false => xrb ms p (i + 1) r hs (T.put o.dst v) H
          | _ => false
theorem xrb_sound {ms : List Nat} {p : Nat} : ∀ (r : List AOper) (i : Nat) (hs : List (Nat × AHeap)) (y : Frz hs) (T : Env) (H : AHeap), xrb ms p i r hs T H = true → RB ms p i r hs y T H
  | [], i, hs, y, T, H, h => trivial
  | o :: r, i, hs, y, T, H, h => by
    simp only [xrb] at h
    simp only [RB]
    split at h
    · rename_i hb; rw [hb]; exact xrb_sound r _ _ _ _ _ h
    · rename_i hb
      rw [hb]
      split at h
      · cases h
      · rename_i hq
        rw [hq]
        split at h
        · cases h
        · rename_i hw; rw [hw]; exact xrb_sound r _ _ _ _ _ h
        · rename_i hw
          rw [hw]
          split at h
          · rename_i v H1 hst
            rw [hst]
            simp only [onB, onW, onX]
            split at h
            · rename_i hr
              rw [hr]
              split at h
              · rename_i hsee; exact ⟨seesAll_of hq hsee, xrb_sound r _ _ _ _ _ h⟩
              · cases h
            · rename_i hr
              rw [hr]
              exact xrb_sound r _ _ _ _ _ h
          · cases h

def xdraw (call : ACallX) (ms : List Nat) : Nat → List AOper → List (Nat × AHeap) → List Seen → Env → AHeap → Option ARs
  | _, [], _, _, T, H => some (.go [] T H)
  | i, o :: r, hs, rs, T, H => match wantedA T o.guard with
    | none => none
    | some false => xdraw call ms (i + 1) r hs rs (T.put o.dst aundef) H
    | some true => match astep o.op T H with
      | some (.value v H1) =>
        match o.op.quiet with
        | true => match o.op.reads with
          | true => match asees (ms.getD i 0) o.op T v hs with
            | true => xdraw call ms (i + 1) r hs (⟨i, o.op, T, v⟩ :: rs) (T.put o.dst v) H
            | false => none
          | false => xdraw call ms (i + 1) r hs rs (T.put o.dst v) H
        | false => match astays (ms.getD i 0) H1 rs with
          | true => xdraw call ms (i + 1) r ((i, H) :: hs) rs (T.put o.dst v) H1
          | false => none
      | some (.enter f as) => match call f as H with
        | some (.ret v, H1) => match astays (ms.getD i 0) H1 rs with
          | true => xdraw call ms (i + 1) r ((i, H) :: hs) rs (T.put o.dst v) H1
          | false => none
        | some (.pan v, H1) => match xrb ms i (i + 1) r hs (T.put o.dst aundef) H with
          | true => some (.pan v [] [] H1)
          | false => none
        | none => none
      | _ => none
theorem xdraw_sound {P : Program} {call : ACallX} (hc : SoundX P call) {ms : List Nat} : ∀ (l : List AOper) (i : Nat) (hs : List (Nat × AHeap)) (y1 : Frz hs) (rs : List Seen) (y2 : Frz rs) (T : Env) (H : AHeap) (x : ARs), (∀ q ∈ rs, q.op.quiet = true) → xdraw call ms i l hs rs T H = some x →
    ∀ {K : Env → AHeap → Prop} {z : Frz K} {R : AVal → AHeap → Prop} {y : Frz R}, x.Is (fun _ => K) (fun v _ _ => R v) → DSX P ms i l hs y1 rs y2 T H K z R y
  | [], i, hs, y1, rs, y2, T, H, x, _, h, K, z, R, y, hk => by
    simp only [xdraw] at h; injection h with h; subst h; exact hk
  | o :: r, i, hs, y1, rs, y2, T, H, x, hall, h, K, z, R, y, hk => by
    simp only [xdraw] at h
    simp only [DSX]
    split at h
    · cases h
    · rename_i hw; rw [hw]; exact xdraw_sound hc r _ _ _ _ _ _ _ _ hall h hk
    · rename_i hw
      rw [hw]
      split at h
      · rename_i v H1 hst
        rw [hst]
        simp only [onW, onX]
        split at h
        · rename_i hq
          obtain ⟨u', hu'⟩ := astep_quiet hq hst
          injection hu' with e1 e2
          subst e2
          rw [hq]
          simp only [onB]
          split at h
          · rename_i hr
            rw [hr]
            split at h
            · rename_i hsee
              exact ⟨seesAll_of hq hsee, xdraw_sound hc r _ _ _ _ _ _ _ _ (fun q hq' => (List.mem_cons.mp hq').elim (fun e => by subst e; exact hq) (hall q)) h hk⟩
            · cases h
          · rename_i hr
            rw [hr]
            exact xdraw_sound hc r _ _ _ _ _ _ _ _ hall h hk
        · rename_i hq
          rw [hq]
          simp only [onB]
          split at h
          · rename_i hst
            exact ⟨staysAll_of hall hst, xdraw_sound hc r _ _ _ _ _ _ _ _ hall h hk⟩
          · cases h
      · rename_i f as hst
        rw [hst]
        simp only [onW, onX]
        split at h
        · rename_i v H1 he
          split at h
          · rename_i hsty
            exact ⟨.ret v, H1, ⟨staysAll_of hall hsty, xdraw_sound hc r _ _ _ _ _ _ _ _ hall h hk⟩, hc _ _ _ _ _ he⟩
          · cases h
        · rename_i v H1 he
          split at h
          · rename_i hrb
            injection h with h; subst h
            exact ⟨.pan v, H1, ⟨hk, xrb_sound _ _ _ _ _ _ hrb⟩, hc _ _ _ _ _ he⟩
          · cases h
        · cases h
      · cases h

structure AFin where
  e : AEnd
  ds : List ADef
  T : Env
  H : AHeap

def xrun (call : ACallX) : Nat → List AItem → List ADef → Env → AHeap → Option AFin
  | 0, _, _, _, _ => none
  | n + 1, todo, ds, T, H => match todo with
    | [] => some ⟨.ret, ds, T, H⟩
    | .inBlock _ :: k => xrun call n k ds T H
    | .inLoop x :: k => xrun call n (.code x :: .inLoop x :: k) ds T H
    | .inScope _ :: k => xrun call n k ds T H
    | .code c :: k => match c with
      | .skip => xrun call n k ds T H
      | .label _ => xrun call n k ds T H
      | .seq x y => xrun call n (.code x :: .code y :: k) ds T H
      | .block id x => xrun call n (.code x :: .inBlock id :: k) ds T H
      | .loop x => xrun call n (.code x :: .inLoop x :: k) ds T H
      | .scope x => xrun call n (.code x :: .inScope x :: k) ds T H
      | .ret => some ⟨.ret, ds, T, H⟩
      | .cond u x y => match T.val u with
        | some (.bool true) => xrun call n (.code x :: k) ds T H
        | some (.bool false) => xrun call n (.code y :: k) ds T H
        | _ => none
      | .exit id => match aexitTo id k with
        | some k' => xrun call n k' ds T H
        | none => none
      | .goto l => match agotoIn l k with
        | some k' => xrun call n k' ds T H
        | none => none
      | .region false l kl => match xops call l ds T H with
        | some (.go ds' T' H') => xrun call n k ds' (T'.keep kl) H'
        | some (.pan v ds' T' H') => some ⟨.pan v, ds', T', H'⟩
        | none => none
      | .region true l kl => match okDraw l (aclos l []) with
        | true => match xdraw call (aclos l []) 0 l [] [] T H with
          | some (.go _ T' H') => xrun call n k ds (T'.keep kl) H'
          | some (.pan v _ _ H') => some ⟨.pan v, ds, [], H'⟩
          | none => none
        | false => none

theorem xrun_sound {P : Program} {ks : Keeps} {nt : Nat} {call : ACallX} (hm : P.follows .mixedOrders = true) (hc : SoundX P call) : ∀ (n : Nat) (todo : List AItem) (ds : List ADef) (T : Env) (H : AHeap) (x : AFin), xrun call n todo ds T H = some x →
    ∀ {Q : AEnd → List ADef → Env → AHeap → Prop}, Q x.e x.ds x.T x.H → DRX P ks nt todo ds T H Q
  | 0, todo, ds, T, H, x, h, Q, hq => by simp [xrun] at h
  | n + 1, todo, ds, T, H, x, h, Q, hq => by
    unfold xrun at h
    split at h
    · injection h with h; subst h
      exact DRX.done hq
    · exact DRX.inBlock (xrun_sound hm hc n _ _ _ _ _ h hq)
    · exact DRX.inLoop (xrun_sound hm hc n _ _ _ _ _ h hq)
    · exact DRX.inScope (xrun_sound hm hc n _ _ _ _ _ h hq)
    · split at h
      · exact DRX.skip (xrun_sound hm hc n _ _ _ _ _ h hq)
      · exact DRX.label (xrun_sound hm hc n _ _ _ _ _ h hq)
      · exact DRX.seq (xrun_sound hm hc n _ _ _ _ _ h hq)
      · exact DRX.block (xrun_sound hm hc n _ _ _ _ _ h hq)
      · exact DRX.loop (xrun_sound hm hc n _ _ _ _ _ h hq)
      · exact DRX.scope (xrun_sound hm hc n _ _ _ _ _ h hq)
      · injection h with h; subst h
        exact DRX.ret hq
      · split at h
        · rename_i hu; exact DRX.yes hu (xrun_sound hm hc n _ _ _ _ _ h hq)
        · rename_i hu; exact DRX.no hu (xrun_sound hm hc n _ _ _ _ _ h hq)
        · cases h
      · split at h
        · rename_i he; exact DRX.exit he (xrun_sound hm hc n _ _ _ _ _ h hq)
        · cases h
      · split at h
        · rename_i he; exact DRX.goto he (xrun_sound hm hc n _ _ _ _ _ h hq)
        · cases h
      · split at h
        · rename_i ds1 T1 H1 he
          exact DRX.region (xops_sound hc _ _ _ _ _ he (xrun_sound hm hc n _ _ _ _ _ h hq))
        · rename_i v ds1 T1 H1 he
          injection h with h; subst h
          exact DRX.region (xops_sound hc _ _ _ _ _ he hq)
        · cases h
      · split at h
        · rename_i hok
          split at h
          · rename_i ds1 T1 H1 he
            exact DRX.draw hm hok (xdraw_sound hc _ _ _ _ _ _ _ _ _ (fun q hq => by cases hq) he (xrun_sound hm hc n _ _ _ _ _ h hq))
          · rename_i v ds1 T1 H1 he
            injection h with h; subst h
            exact DRX.draw hm hok (xdraw_sound hc _ _ _ _ _ _ _ _ _ (fun q hq => by cases hq) he hq)
          · cases h
        · cases h

abbrev ACallD := FuncId → List AVal → AEnd → AHeap → Option (AEnd × AHeap)
def SoundD (P : Program) (call : ACallD) : Prop := ∀ f as m H m' H', call f as m H = some (m', H') → DCallD P f as m H fun a b => a = m' ∧ b = H'
def xleave (call : ACallD) (al : List ARes) : List ADef → AEnd → Env → AHeap → Option (AOut × AHeap)
  | [], .ret, T, H => match aresult H T al with
    | some r => some (.ret r, H)
    | none => none
  | [], .pan v, _, H => some (.pan v, H)
  | (g, as) :: ds, m, T, H => match call g as m H with
    | some (m', H') => xleave call al ds m' T H'
    | none => none
theorem xleave_sound {P : Program} {call : ACallD} (hc : SoundD P call) {al : List ARes} : ∀ (ds : List ADef) (m : AEnd) (T : Env) (H : AHeap) (o : AOut) (H' : AHeap), xleave call al ds m T H = some (o, H') → ∀ {K : AOut → AHeap → Prop}, K o H' → DLeave P al ds m T H K
  | [], .ret, T, H, o, H', h, K, hk => by
    simp only [xleave] at h
    split at h
    · rename_i r hr
      injection h with h; injection h with h1 h2; subst h1; subst h2
      exact ⟨r, hr, hk⟩
    · cases h
  | [], .pan v, T, H, o, H', h, K, hk => by
    simp only [xleave] at h
    injection h with h; injection h with h1 h2; subst h1; subst h2
    exact hk
  | (g, as) :: ds, m, T, H, o, H', h, K, hk => by
    simp only [xleave] at h
    split at h
    · rename_i m1 H1 he
      exact (hc _ _ _ _ _ _ he).mono fun a b ⟨e1, e2⟩ => by subst e1; subst e2; exact xleave_sound hc ds _ _ _ _ _ h hk
    · cases h

def unpan (call : ACallX) : ACall := fun f as H => match call f as H with
  | some (.ret v, H') => some (v, H')
  | _ => none
theorem unpan_sound {P : Program} {call : ACallX} (hc : SoundX P call) : Sound P (unpan call) := by
  intro f as H v H' h
  unfold unpan at h
  split at h
  · rename_i u H1 he
    injection h with h; injection h with h1 h2; subst h1; subst h2
    exact (hc _ _ _ _ _ he).det
  · cases h

/-- A function that begins with 'recover'. -/
def recovOf : ACode → Option (Nat × List Nat × List Nat × ACode)
  | .seq (.region false [⟨some d, .recov, none, aft⟩] kl) rest => some (d, aft, kl, rest)
  | _ => none
theorem recovOf_eq {c : ACode} {d : Nat} {aft kl : List Nat} {rest : ACode} (h : recovOf c = some (d, aft, kl, rest)) : c = .seq (.region false [⟨some d, .recov, none, aft⟩] kl) rest := by
  unfold recovOf at h
  split at h
  · injection h with h; injection h with h1 h2; injection h2 with h2 h3; injection h3 with h3 h4
    subst h1; subst h2; subst h3; subst h4; rfl
  · cases h
def xcalld (tab : Tab) (call : ACallX) (steps : Nat) : ACallD := fun g as m H => match tab.at_ g with
  | none => none
  | some af => match Nat.ble as.length af.ntmps with
    | false => none
    | true => match recovOf af.body with
      | none => none
      | some (d, _, kl, rest) => match arun (unpan call) af.results steps [.code rest] (((envFrom 0 as).put (some d) m.told).keep kl) H with
        | some (_, H') => some (.ret, H')
        | none => none
theorem xcalld_sound {P : Program} {tab : Tab} {call : ACallX} (hm : P.follows .mixedOrders = true) (ht : tab.Ok P) (hc : SoundX P call) (steps : Nat) : SoundD P (xcalld tab call steps) := by
  intro f as m H m' H' h
  unfold xcalld at h
  split at h
  · cases h
  · rename_i af haf
    split at h
    · cases h
    · rename_i hn
      split at h
      · cases h
      · rename_i d aft kl rest hr
        split at h
        · rename_i v H1 he
          injection h with h; injection h with h1 h2; subst h1; subst h2
          obtain ⟨fn, ks, h1, h2, h3⟩ := Tab.ok_at ht haf
          exact DCallD.of_recov h1 h2 h3 (recovOf_eq hr) (Nat.le_of_ble_eq_true hn) ((arun_sound hm (unpan_sound hc) _ _ _ _ _ _ he).mono fun T' H'' ⟨r, e1, e2, e3⟩ => ⟨r, e1, rfl, e3⟩)
        · cases h

def xcall (tab : Tab) (orc : Orc) (steps : Nat) : Nat → ACallX
  | 0, _, _, _ => none
  | n + 1, f, as, H => match orc f as with
    | some r => some (.ret r, H)
    | none => match tab.at_ f with
      | none => none
      | some af => match Nat.ble as.length af.ntmps with
        | true => match xrun (xcall tab orc steps n) steps [.code af.body] [] (envFrom 0 as) H with
          | some x => xleave (xcalld tab (xcall tab orc steps n) steps) af.results x.ds x.e x.T x.H
          | none => none
        | false => none
theorem xcall_sound {P : Program} {tab : Tab} {orc : Orc} (hm : P.follows .mixedOrders = true) (ht : tab.Ok P) (ho : orc.Ok P) (steps : Nat) : ∀ n, SoundX P (xcall tab orc steps n)
  | 0 => fun f as H o H' h => by cases h
  | n + 1 => fun f as H o H' h => by
    simp only [xcall] at h
    split at h
    · rename_i r hr
      injection h with h; injection h with h1 h2; subst h1; subst h2
      obtain ⟨hcb, hd⟩ := ho f as _ hr H
      exact ⟨hcb, hd.x.mono fun a b ⟨v, e, e1, e2⟩ => by subst e; subst e1; exact ⟨rfl, e2⟩⟩
    · split at h
      · cases h
      · rename_i af haf
        split at h
        · rename_i hn
          split at h
          · rename_i x hx
            obtain ⟨fn, ks, h1, h2, h3⟩ := Tab.ok_at ht haf
            obtain ⟨o1, H1, ⟨e1, e2⟩, hd⟩ := DCallX.of_body (K := fun a b => a = o ∧ b = H') h1 h2 h3 (Nat.le_of_ble_eq_true hn) (xrun_sound hm (xcall_sound hm ht ho steps n) _ _ _ _ _ _ hx (xleave_sound (xcalld_sound hm ht (xcall_sound hm ht ho steps n) steps) _ _ _ _ _ _ h ⟨rfl, rfl⟩))
            subst e1; subst e2
            exact hd
          · cases h
        · cases h
end Go.Am
namespace Go.Am
/-- The evaluator's word, ahead of any blocks. -/
def xclosed (tab : Tab) (orc : Orc) (steps deep : Nat) (sz : TypeId → Nat) (f : FuncId) (args : List AVal) : Option AVal :=
  match AVal.pures args with
  | true => match xcall tab orc steps deep f args AHeap.empty with
    | some (.ret r, H1) => freeze sz H1 deep r
    | _ => none
  | false => none
theorem xclosed_sound {P : Program} {tab : Tab} {orc : Orc} (hm : P.follows .mixedOrders = true) (ht : tab.Ok P) (ho : orc.Ok P) {steps deep : Nat} {sz : TypeId → Nat} {f : FuncId} {args : List AVal} {r : AVal} (h : xclosed tab orc steps deep sz f args = some r) (H : AHeap) : Det P f args H r H := by
  unfold xclosed at h
  split at h
  · rename_i hp
    split at h
    · rename_i r0 H1 hr
      exact Det.closed hp (xcall_sound hm ht ho _ _ _ _ _ _ _ hr).det h H
    · cases h
  · cases h
end Go.Am
