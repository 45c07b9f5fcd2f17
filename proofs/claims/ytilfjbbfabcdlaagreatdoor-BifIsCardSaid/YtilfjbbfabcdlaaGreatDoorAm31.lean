/- Runs of what is given outright: an evaluator that the kernel can run, and that it tells no lie. -/
import Derived.Test.YtilfjbbfabcdlaaGreatDoorAm30
set_option linter.unusedVariables false
set_option linter.unusedSimpArgs false
namespace Go.Am
open Go.RowKit

mutual
def AVal.eqb : AVal → AVal → Bool
  | .bool a, .bool b => a == b
  | .int k n, .int k' n' => decide (k = k') && decide (n = n')
  | .flt k n, .flt k' n' => decide (k = k') && decide (n = n')
  | .str s, .str t => decide (s = t)
  | .nilp, .nilp => true
  | .nils, .nils => true
  | .nilm, .nilm => true
  | .nilf, .nilf => true
  | .nili, .nili => true
  | .ptr a b, .ptr c d => decide (a = c) && decide (b = d)
  | .rop cs, .rop ds => AVal.eqbs cs ds
  | .sl a b c d, .sl a' b' c' d' => decide (a = a') && decide (b = b') && decide (c = c') && decide (d = d')
  | .ros cs n, .ros ds m => AVal.eqbs cs ds && decide (n = m)
  | .map a, .map b => decide (a = b)
  | .ifc t a, .ifc u b => decide (t = u) && AVal.eqb a b
  | .agg cs, .agg ds => AVal.eqbs cs ds
  | .tup cs, .tup ds => AVal.eqbs cs ds
  | .nan k, .nan k' => decide (k = k')
  | _, _ => false
def AVal.eqbs : List AVal → List AVal → Bool
  | [], [] => true
  | a :: as, b :: bs => AVal.eqb a b && AVal.eqbs as bs
  | _, _ => false
end
mutual
theorem AVal.eqb_eq : ∀ (a b : AVal), AVal.eqb a b = true → a = b
  | .bool a, b, h => by cases b <;> simp [AVal.eqb] at h; rw [h]
  | .int k n, b, h => by cases b <;> simp [AVal.eqb] at h; rw [h.1, h.2]
  | .flt k n, b, h => by cases b <;> simp [AVal.eqb] at h; rw [h.1, h.2]
  | .str s, b, h => by cases b <;> simp [AVal.eqb] at h; rw [h]
  | .nilp, b, h => by cases b <;> simp [AVal.eqb] at h; rfl
  | .nils, b, h => by cases b <;> simp [AVal.eqb] at h; rfl
  | .nilm, b, h => by cases b <;> simp [AVal.eqb] at h; rfl
  | .nilf, b, h => by cases b <;> simp [AVal.eqb] at h; rfl
  | .nili, b, h => by cases b <;> simp [AVal.eqb] at h; rfl
  | .ptr i o, b, h => by cases b <;> simp [AVal.eqb] at h; rw [h.1, h.2]
  | .rop cs, b, h => by
    cases b <;> simp [AVal.eqb] at h
    rw [AVal.eqbs_eq cs _ h]
  | .sl i o n c, b, h => by cases b <;> simp [AVal.eqb] at h; obtain ⟨⟨⟨h1, h2⟩, h3⟩, h4⟩ := h; rw [h1, h2, h3, h4]
  | .ros cs n, b, h => by
    cases b <;> simp [AVal.eqb] at h
    rw [AVal.eqbs_eq cs _ h.1, h.2]
  | .map i, b, h => by cases b <;> simp [AVal.eqb] at h; rw [h]
  | .fn f x y, b, h => by cases b <;> simp [AVal.eqb] at h
  | .ifc t v, b, h => by
    cases b <;> simp [AVal.eqb] at h
    rw [h.1, AVal.eqb_eq v _ h.2]
  | .agg cs, b, h => by
    cases b <;> simp [AVal.eqb] at h
    rw [AVal.eqbs_eq cs _ h]
  | .tup cs, b, h => by
    cases b <;> simp [AVal.eqb] at h
    rw [AVal.eqbs_eq cs _ h]
  | .nan k, b, h => by cases b <;> simp [AVal.eqb] at h; rw [h]
theorem AVal.eqbs_eq : ∀ (as bs : List AVal), AVal.eqbs as bs = true → as = bs
  | [], bs, h => by cases bs <;> simp [AVal.eqbs] at h; rfl
  | a :: as, bs, h => by
    cases bs with
    | nil => simp [AVal.eqbs] at h
    | cons b bs =>
      simp [AVal.eqbs] at h
      rw [AVal.eqb_eq a b h.1, AVal.eqbs_eq as bs h.2]
end

abbrev ACall := FuncId → List AVal → AHeap → Option (AVal × AHeap)

def aops (call : ACall) : List AOper → Env → AHeap → Option (Env × AHeap)
  | [], T, H => some (T, H)
  | o :: r, T, H => match wantedA T o.guard with
    | none => none
    | some false => aops call r (T.put o.dst aundef) H
    | some true => match astep o.op T H with
      | some (.value v H') => aops call r (T.put o.dst v) H'
      | some (.enter f as) => match call f as H with
        | some (v, H') => aops call r (T.put o.dst v) H'
        | none => none
      | _ => none

def Sound (P : Program) (call : ACall) : Prop := ∀ f as H v H', call f as H = some (v, H') → Det P f as H v H'

theorem aops_sound {P : Program} {call : ACall} (hc : Sound P call) : ∀ (l : List AOper) (T : Env) (H : AHeap) (T' : Env) (H' : AHeap), aops call l T H = some (T', H') → ∀ {K : Env → AHeap → Prop}, K T' H' → DOps P l T H K
  | [], T, H, T', H', h, K, hk => by
    simp only [aops] at h; injection h with h; injection h with h1 h2; subst h1; subst h2; exact hk
  | o :: r, T, H, T', H', h, K, hk => by
    simp only [aops] at h
    simp only [DOps]
    split at h
    · cases h
    · rename_i hw; rw [hw]; exact aops_sound hc r _ _ _ _ h hk
    · rename_i hw
      rw [hw]
      split at h
      · rename_i v H1 hs; rw [hs]; exact aops_sound hc r _ _ _ _ h hk
      · rename_i f as hs
        rw [hs]
        split at h
        · rename_i v H1 he
          exact ⟨v, H1, aops_sound hc r _ _ _ _ h hk, hc _ _ _ _ _ he⟩
        · cases h
      · cases h

/-- What another order might show otherwise, shows the same. -/
def asees (m : Nat) (op : AOp) (T : Env) (v : AVal) : List (Nat × AHeap) → Bool
  | [] => true
  | p :: r => (abit m p.1 || match astep op T p.2 with
    | some (.value u _) => AVal.eqb u v
    | _ => false) && asees m op T v r
def astays (m : Nat) (H1 : AHeap) : List Seen → Bool
  | [] => true
  | q :: r => (abit m q.at_ || match astep q.op q.env H1 with
    | some (.value u _) => AVal.eqb u q.val
    | _ => false) && astays m H1 r
theorem asees_sound {m : Nat} {op : AOp} {T : Env} {v : AVal} (hq : op.quiet = true) : ∀ {hs : List (Nat × AHeap)}, asees m op T v hs = true → ∀ p ∈ hs, abit m p.1 = true ∨ astep op T p.2 = some (.value v p.2)
  | [], _, p, hp => by cases hp
  | q :: r, h, p, hp => by
    simp only [asees, Bool.and_eq_true, Bool.or_eq_true] at h
    rcases List.mem_cons.mp hp with e | hp
    · subst e
      rcases h.1 with h1 | h1
      · exact .inl h1
      · right
        split at h1
        · rename_i u H2 hs
          obtain ⟨u', hu'⟩ := astep_quiet hq hs
          injection hu' with e1 e2
          rw [hs, AVal.eqb_eq _ _ h1, e2]
        · cases h1
    · exact asees_sound hq h.2 p hp
theorem astays_sound {m : Nat} {H1 : AHeap} : ∀ {rs : List Seen}, (∀ q ∈ rs, q.op.quiet = true) → astays m H1 rs = true → ∀ q ∈ rs, abit m q.at_ = true ∨ astep q.op q.env H1 = some (.value q.val H1)
  | [], _, _, p, hp => by cases hp
  | q :: r, hall, h, p, hp => by
    simp only [astays, Bool.and_eq_true, Bool.or_eq_true] at h
    rcases List.mem_cons.mp hp with e | hp
    · subst e
      rcases h.1 with h1 | h1
      · exact .inl h1
      · right
        split at h1
        · rename_i u H2 hs
          obtain ⟨u', hu'⟩ := astep_quiet (hall _ (List.mem_cons_self ..)) hs
          injection hu' with e1 e2
          rw [hs, AVal.eqb_eq _ _ h1, e2]
        · cases h1
    · exact astays_sound (fun q hq => hall q (List.mem_cons_of_mem _ hq)) h.2 p hp

def adraw (call : ACall) (ms : List Nat) : Nat → List AOper → List (Nat × AHeap) → List Seen → Env → AHeap → Option (Env × AHeap)
  | _, [], _, _, T, H => some (T, H)
  | i, o :: r, hs, rs, T, H => match wantedA T o.guard with
    | none => none
    | some false => adraw call ms (i + 1) r hs rs (T.put o.dst aundef) H
    | some true => match astep o.op T H with
      | some (.value v H1) =>
        match o.op.quiet with
        | true => match o.op.reads with
          | true => match asees (ms.getD i 0) o.op T v hs with
            | true => adraw call ms (i + 1) r hs (⟨i, o.op, T, v⟩ :: rs) (T.put o.dst v) H
            | false => none
          | false => adraw call ms (i + 1) r hs rs (T.put o.dst v) H
        | false => match astays (ms.getD i 0) H1 rs with
          | true => adraw call ms (i + 1) r ((i, H) :: hs) rs (T.put o.dst v) H1
          | false => none
      | some (.enter f as) => match call f as H with
        | some (v, H1) => match astays (ms.getD i 0) H1 rs with
          | true => adraw call ms (i + 1) r ((i, H) :: hs) rs (T.put o.dst v) H1
          | false => none
        | none => none
      | _ => none

theorem adraw_sound {P : Program} {call : ACall} (hc : Sound P call) {ms : List Nat} : ∀ (l : List AOper) (i : Nat) (hs : List (Nat × AHeap)) (rs : List Seen) (T : Env) (H : AHeap) (T' : Env) (H' : AHeap), (∀ q ∈ rs, q.op.quiet = true) → adraw call ms i l hs rs T H = some (T', H') →
    ∀ {K : Env → AHeap → Prop}, K T' H' → DrawRun P ms i l hs rs T H K
  | [], i, hs, rs, T, H, T', H', _, h, K, hk => by
    simp only [adraw] at h; injection h with h; injection h with h1 h2; subst h1; subst h2; exact hk
  | o :: r, i, hs, rs, T, H, T', H', hall, h, K, hk => by
    simp only [adraw] at h
    simp only [DrawRun]
    split at h
    · cases h
    · rename_i hw; rw [hw]; exact adraw_sound hc r _ _ _ _ _ _ _ hall h hk
    · rename_i hw
      rw [hw]
      split at h
      · rename_i v H1 hst
        rw [hst]
        split at h
        · rename_i hq
          simp only [hq, if_true]
          split at h
          · rename_i hr
            simp only [hr, if_true]
            split at h
            · rename_i hsee
              exact ⟨asees_sound hq hsee, adraw_sound hc r _ _ _ _ _ _ _ (fun q hq' => (List.mem_cons.mp hq').elim (fun e => by subst e; exact hq) (hall q)) h hk⟩
            · cases h
          · rename_i hr
            simp only [hr, Bool.false_eq_true, if_false]
            exact adraw_sound hc r _ _ _ _ _ _ _ hall h hk
        · rename_i hq
          simp only [hq, Bool.false_eq_true, if_false]
          split at h
          · rename_i hst
            exact ⟨astays_sound hall hst, adraw_sound hc r _ _ _ _ _ _ _ hall h hk⟩
          · cases h
      · rename_i f as hst
        rw [hst]
        split at h
        · rename_i v H1 he
          split at h
          · rename_i hsty
            exact ⟨v, H1, hc _ _ _ _ _ he, astays_sound hall hsty, adraw_sound hc r _ _ _ _ _ _ _ hall h hk⟩
          · cases h
        · cases h
      · cases h

def arun (call : ACall) (res : List ARes) : Nat → List AItem → Env → AHeap → Option (AVal × AHeap)
  | 0, _, _, _ => none
  | n + 1, todo, T, H => match todo with
    | [] => match aresult H T res with
      | some v => some (v, H)
      | none => none
    | .inBlock _ :: k => arun call res n k T H
    | .inLoop x :: k => arun call res n (.code x :: .inLoop x :: k) T H
    | .inScope _ :: k => arun call res n k T H
    | .code c :: k => match c with
      | .skip => arun call res n k T H
      | .label _ => arun call res n k T H
      | .seq x y => arun call res n (.code x :: .code y :: k) T H
      | .block id x => arun call res n (.code x :: .inBlock id :: k) T H
      | .loop x => arun call res n (.code x :: .inLoop x :: k) T H
      | .scope x => arun call res n (.code x :: .inScope x :: k) T H
      | .ret => match aresult H T res with
        | some v => some (v, H)
        | none => none
      | .cond u x y => match T.val u with
        | some (.bool true) => arun call res n (.code x :: k) T H
        | some (.bool false) => arun call res n (.code y :: k) T H
        | _ => none
      | .exit id => match aexitTo id k with
        | some k' => arun call res n k' T H
        | none => none
      | .goto l => match agotoIn l k with
        | some k' => arun call res n k' T H
        | none => none
      | .region false l kl => match aops call l T H with
        | some (T', H') => arun call res n k (T'.keep kl) H'
        | none => none
      | .region true l kl => match okDraw l (aclos l []) with
        | true => match adraw call (aclos l []) 0 l [] [] T H with
          | some (T', H') => arun call res n k (T'.keep kl) H'
          | none => none
        | false => none

theorem arun_sound {P : Program} {ks : Keeps} {nt : Nat} {call : ACall} (hm : P.follows .mixedOrders = true) (hc : Sound P call) {res : List ARes} : ∀ (n : Nat) (todo : List AItem) (T : Env) (H : AHeap) (v : AVal) (H' : AHeap), arun call res n todo T H = some (v, H') →
    DR P ks nt todo T H fun T' H'' => ∃ r, aresult H'' T' res = some r ∧ r = v ∧ H'' = H'
  | 0, todo, T, H, v, H', h => by simp [arun] at h
  | n + 1, todo, T, H, v, H', h => by
    unfold arun at h
    split at h
    · split at h
      · rename_i u hu
        injection h with h; injection h with h1 h2; subst h1; subst h2
        exact DR.done ⟨_, hu, rfl, rfl⟩
      · cases h
    · exact DR.inBlock (arun_sound hm hc n _ _ _ _ _ h)
    · exact DR.inLoop (arun_sound hm hc n _ _ _ _ _ h)
    · exact DR.inScope (arun_sound hm hc n _ _ _ _ _ h)
    · split at h
      · exact DR.skip (arun_sound hm hc n _ _ _ _ _ h)
      · exact DR.label (arun_sound hm hc n _ _ _ _ _ h)
      · exact DR.seq (arun_sound hm hc n _ _ _ _ _ h)
      · exact DR.block (arun_sound hm hc n _ _ _ _ _ h)
      · exact DR.loop (arun_sound hm hc n _ _ _ _ _ h)
      · exact DR.scope (arun_sound hm hc n _ _ _ _ _ h)
      · split at h
        · rename_i u hu
          injection h with h; injection h with h1 h2; subst h1; subst h2
          exact DR.ret ⟨_, hu, rfl, rfl⟩
        · cases h
      · split at h
        · rename_i hu; exact DR.yes hu (arun_sound hm hc n _ _ _ _ _ h)
        · rename_i hu; exact DR.no hu (arun_sound hm hc n _ _ _ _ _ h)
        · cases h
      · split at h
        · rename_i he; exact DR.exit he (arun_sound hm hc n _ _ _ _ _ h)
        · cases h
      · split at h
        · rename_i he; exact DR.goto he (arun_sound hm hc n _ _ _ _ _ h)
        · cases h
      · split at h
        · rename_i T1 H1 he
          exact DR.region (aops_sound hc _ _ _ _ _ he (arun_sound hm hc n _ _ _ _ _ h))
        · cases h
      · split at h
        · rename_i hok
          split at h
          · rename_i T1 H1 he
            exact DR.regionD hm hok (adraw_sound hc _ _ _ _ _ _ _ _ (fun q hq => by cases hq) he (arun_sound hm hc n _ _ _ _ _ h))
          · cases h
        · cases h

/-- The compiled functions, by their numbers. -/
abbrev Tab := List (Nat × AFunc)
def Tab.at_ : Tab → Nat → Option AFunc
  | [], _ => none
  | p :: r, f => match Nat.beq p.1 f with
    | true => some p.2
    | false => Tab.at_ r f
def Compiled (P : Program) (f : FuncId) (af : AFunc) : Prop := ∃ fn ks, P.funcs[f]? = some fn ∧ cfunc P ks fn = some af ∧ (fn.body.isSome && fn.name != "runtime.NumGoroutine") = true
def Tab.Ok (P : Program) : Tab → Prop
  | [] => True
  | p :: r => Compiled P p.1 p.2 ∧ Tab.Ok P r
theorem Tab.ok_at {P : Program} : ∀ {t : Tab} {f : Nat} {af : AFunc}, t.Ok P → t.at_ f = some af → Compiled P f af
  | [], f, af, _, h => by cases h
  | p :: r, f, af, ho, h => by
    simp only [Tab.at_] at h
    split at h
    · rename_i hb
      injection h with h; subst h
      rw [← Nat.eq_of_beq_eq_true hb]; exact ho.1
    · exact Tab.ok_at ho.2 h

/-- What is told of calls ahead: they change no block. -/
abbrev Orc := FuncId → List AVal → Option AVal
def Orc.Ok (P : Program) (o : Orc) : Prop := ∀ f as r, o f as = some r → ∀ H, Det P f as H r H
def Orc.none : Orc := fun _ _ => Option.none
theorem Orc.none_ok (P : Program) : Orc.none.Ok P := fun f as r h => by cases h

def acall (tab : Tab) (orc : Orc) (steps : Nat) : Nat → ACall
  | 0, _, _, _ => none
  | n + 1, f, as, H => match orc f as with
    | some r => some (r, H)
    | none => match tab.at_ f with
      | none => none
      | some af => match Nat.ble as.length af.ntmps with
        | true => arun (acall tab orc steps n) af.results steps [.code af.body] (envFrom 0 as) H
        | false => none

theorem acall_sound {P : Program} {tab : Tab} {orc : Orc} (hm : P.follows .mixedOrders = true) (ht : tab.Ok P) (ho : orc.Ok P) (steps : Nat) : ∀ n, Sound P (acall tab orc steps n)
  | 0 => fun f as H v H' h => by cases h
  | n + 1 => fun f as H v H' h => by
    simp only [acall] at h
    split at h
    · rename_i r hr
      injection h with h; injection h with h1 h2; subst h1; subst h2
      exact ho f as _ hr H
    · split at h
      · cases h
      · rename_i af haf
        split at h
        · rename_i hn
          obtain ⟨fn, ks, h1, h2, h3⟩ := Tab.ok_at ht haf
          obtain ⟨r, H1, ⟨e1, e2⟩, hd⟩ := DCall.of_body (K := fun r H'' => r = v ∧ H'' = H') h1 h2 h3 (Nat.le_of_ble_eq_true hn) ((arun_sound hm (acall_sound hm ht ho steps n) _ _ _ _ _ _ h).mono fun T' H'' ⟨r, h1, h2, h3⟩ => ⟨r, h1, h2, h3⟩)
          subst e1; subst e2
          exact hd
        · cases h
end Go.Am
