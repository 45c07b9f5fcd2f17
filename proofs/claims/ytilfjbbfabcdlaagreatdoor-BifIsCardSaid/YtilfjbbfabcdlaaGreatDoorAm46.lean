/- A function that begins so, run in both orders by the evaluator. -/
import Derived.Test.YtilfjbbfabcdlaaGreatDoorAm45
set_option linter.unusedVariables false
set_option linter.unusedSimpArgs false
namespace Go.Am
open Go.RowKit

def twoOf : ACode → Option (List AOper × List Nat × List AOper × List Nat × ACode)
  | .seq (.region false l0 kl0) (.seq (.region true l kl) rest) => some (l0, kl0, l, kl, rest)
  | _ => none
theorem twoOf_eq {c : ACode} {l0 : List AOper} {kl0 : List Nat} {l : List AOper} {kl : List Nat} {rest : ACode} (h : twoOf c = some (l0, kl0, l, kl, rest)) : c = .seq (.region false l0 kl0) (.seq (.region true l kl) rest) := by
  unfold twoOf at h
  split at h
  · injection h with h; injection h with h1 h2; injection h2 with h2 h3; injection h3 with h3 h4; injection h4 with h4 h5
    subst h1; subst h2; subst h3; subst h4; subst h5; rfl
  · cases h
def twoRest (call : ACall) (res : List ARes) (steps deep : Nat) (sz : TypeId → Nat) (l : List AOper) (kl : List Nat) (rest : ACode) (T : Env) (H : AHeap) : Option AVal :=
  match adraw call (aclos l []) 0 l [] [] T H with
  | some (T1, H1) => match arun call res steps [.code rest] (T1.keep kl) H1 with
    | some (r, G) => freeze sz G deep r
    | none => none
  | none => none
def tworun (call : ACall) (x steps deep : Nat) (sz : TypeId → Nat) (af : AFunc) (as : List AVal) : Option AVal :=
  match AVal.pures as with
  | false => none
  | true => match Nat.ble as.length af.ntmps with
    | false => none
    | true => match twoOf af.body with
      | none => none
      | some (l0, kl0, l, kl, rest) => match okTwo x l with
        | false => none
        | true => match aops call l0 (envFrom 0 as) AHeap.empty with
          | none => none
          | some (T, H) => match twoRest call af.results steps deep sz (fake1 x l) kl rest (T.keep kl0) H, twoRest call af.results steps deep sz (fake2 x l) kl rest (T.keep kl0) H with
            | some a, some b => match AVal.eqb a b with
              | true => some a
              | false => none
            | _, _ => none

theorem twoRest_sound {P : Program} {ks : Keeps} {nt : Nat} {call : ACall} (hm : P.follows .mixedOrders = true) (hc : Sound P call) {res : List ARes} {steps deep : Nat} {sz : TypeId → Nat} {l : List AOper} {kl : List Nat} {rest : ACode} {T : Env} {H : AHeap} {a : AVal} (h : twoRest call res steps deep sz l kl rest T H = some a) :
    DrawRun P (aclos l []) 0 l [] [] T H fun T' H' => Runs P ks nt [.code rest] (T'.keep kl) H' fun T2 H2 => ∃ r, aresult H2 T2 res = some r ∧ ∃ n r', freeze sz H2 n r = some r' ∧ r' = a := by
  unfold twoRest at h
  split at h
  · rename_i T1 H1 hd
    split at h
    · rename_i r G hr
      obtain ⟨T2, H2, ⟨r', e1, e2, e3⟩, hruns⟩ := (arun_sound hm hc _ _ _ _ _ _ hr : DR P ks nt _ _ _ _)
      refine adraw_sound hc _ _ _ _ _ _ _ _ (fun q hq => by cases hq) hd (hruns.mono fun T3 H3 ⟨k1, k2⟩ => ?_)
      subst k1; subst k2; subst e2; subst e3
      exact ⟨_, e1, deep, a, h, rfl⟩
    · cases h
  · cases h

theorem tworun_sound {P : Program} {f : FuncId} {af : AFunc} (hcf : Compiled P f af) {call : ACall} (hm : P.follows .mixedOrders = true) (hc : Sound P call) {x steps deep : Nat} {sz : TypeId → Nat} {as : List AVal} {a : AVal} (h : tworun call x steps deep sz af as = some a) (H : AHeap) : Det P f as H a H := by
  obtain ⟨fn, ks, hf, hcc, hb⟩ := hcf
  unfold tworun at h
  split at h; · cases h
  rename_i hp
  split at h; · cases h
  rename_i hn
  split at h; · cases h
  rename_i l0 kl0 l kl rest htw
  split at h; · cases h
  rename_i hok
  split at h; · cases h
  rename_i T H1 h0
  split at h
  · rename_i a1 b1 ha hb1
    split at h
    · rename_i he
      injection h with h; subst h
      have he := AVal.eqb_eq _ _ he
      subst he
      have hce : CallEv P f as AHeap.empty fun r H1 => ∃ n r', freeze sz H1 n r = some r' ∧ r' = a1 := by
        refine CallEv.of_body hf hcc (Nat.le_of_ble_eq_true hn) ?_
        rw [twoOf_eq htw]
        refine Runs.seq ?_
        obtain ⟨T', H', ⟨e1, e2⟩, hops⟩ := DOps.out (aops_sound hc l0 _ _ _ _ h0 (K := fun T' H' => T' = T ∧ H' = H1) ⟨rfl, rfl⟩)
        refine Runs.region (hops _ ?_)
        subst e1; subst e2
        refine Runs.seq ?_
        exact Runs.two hm hok (twoRest_sound hm hc ha) (twoRest_sound hm hc hb1)
      have hb' := hb
      rw [Bool.and_eq_true, bne_iff_ne] at hb'
      exact ⟨⟨fn, hf, hb'.1, hb'.2⟩, CallEv.closed (K := fun r => r = a1) (K' := fun _ => True) hp hce H⟩
    · cases h
  · cases h
end Go.Am
