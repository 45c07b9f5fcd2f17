/- Whole bodies: what is to be done, as the machine's own list; each rule is one of the machine's steps. -/
import Derived.Test.YtmoimchdhgoeeaaDoorAm17
set_option linter.unusedVariables false
set_option linter.unusedSimpArgs false
namespace Go.Am
open Go.RowKit
inductive AItem where
 | code (c:ACode)
 | inBlock (id:Nat)
 | inLoop (c:ACode)
 | inScope (c:ACode)
def CI (P:Program) (ks:Keeps) (nt:Nat):Item→AItem→Prop
 | .code c,.code x=>ccode P ks nt c=some x
 | .inBlock i,.inBlock j=>i=j
 | .inLoop c,.inLoop x=>ccode P ks nt c=some x
 | .inScope c,.inScope x=>ccode P ks nt c=some x
 | _,_=>False
def CIs (P:Program) (ks:Keeps) (nt:Nat):List Item→List AItem→Prop
 | [],[]=>True
 | i::r,x::s=>CI P ks nt i x∧CIs P ks nt r s
 | _,_=>False
def Post (P:Program) (nt:Nat) (w:World) (ro:Nat→Prop) (μ:Mu) (H:AHeap) (K:Env→AHeap→Prop) (a':Act) (w':World):Prop:=
 ∃ T' H' ro' μ',K T' H'∧Good P w' ro' μ' H'∧TR P w' ro' μ' T' a'.tmps∧a'.tmps.size=nt∧a'.defers=[]∧Out w ro μ H w' ro' μ' H'
def Runs (P:Program) (ks:Keeps) (nt:Nat) (todo:List AItem) (T:Env) (H:AHeap) (K:Env→AHeap→Prop):Prop:=
 ∀ items,CIs P ks nt items todo→∀ w ro μ (a:Act),Good P w ro μ H→TR P w ro μ T a.tmps→a.tmps.size=nt→a.defers=[]→∀ (b:Frame) (cs:List Frame),
  ∃ a' w' todo',Post P nt w ro μ H K a' w'∧Steps P (lone (b.at a items) cs w) (lone { b.at a' todo' with mode:=.returning } cs w')
def CallEv (P:Program) (f:FuncId) (args:List AVal) (H:AHeap) (K:AVal→AHeap→Prop):Prop:=
 ∀ w ro μ (argv:Array Value),Good P w ro μ H→VRs P w ro μ args argv.toList→
  Calls P f argv w fun e w'=>∃ v' r H' ro' μ',e = .returned v'∧K r H'∧VR P w' ro' μ' r v'∧Good P w' ro' μ' H'∧Out w ro μ H w' ro' μ' H'
theorem CallEv.mono {P:Program} {f:FuncId} {args:List AVal} {H:AHeap} {K K':AVal→AHeap→Prop} (h:CallEv P f args H K) (hk:∀ r H',K r H'→K' r H'):CallEv P f args H K':=
 fun w ro μ argv hg ha=>(h w ro μ argv hg ha).mono fun e w' ⟨v',r,H',ro',μ',h1,h2,h3⟩=>⟨v',r,H',ro',μ',h1,hk _ _ h2,h3⟩
theorem Runs.mono {P:Program} {ks:Keeps} {nt:Nat} {todo:List AItem} {T:Env} {H:AHeap} {K K':Env→AHeap→Prop} (h:Runs P ks nt todo T H K) (hk:∀ T' H',K T' H'→K' T' H'):Runs P ks nt todo T H K':=by
 intro items hi w ro μ a hg hT hs hd b cs
 obtain ⟨a',w',todo',⟨T',H',ro',μ',h1,h2⟩,h3⟩:=h items hi w ro μ a hg hT hs hd b cs
 exact ⟨a',w',todo',⟨T',H',ro',μ',hk _ _ h1,h2⟩,h3⟩
def wantedA (T:Env):Option (Nat × Bool)→Option Bool
 | none=>some true
 | some (g,b)=>match T.get g with
  | some (.bool c)=>some (c==b)
  | some (.tup _)=>some false
  | _=>none
def OpsRun (P:Program):List AOper→Env→AHeap→(Env→AHeap→Prop)→Prop
 | [],T,H,K=>K T H
 | o::r,T,H,K=>
  match wantedA T o.guard with
  | none=>False
  | some false=>OpsRun P r (T.put o.dst aundef) H K
  | some true=>
   match astep o.op T H with
   | none=>False
   | some (.value v H')=>OpsRun P r (T.put o.dst v) H' K
   | some (.enter f as)=>Callable P f∧CallEv P f as H fun v H'=>OpsRun P r (T.put o.dst v) H' K
   | some (.anyOf l)=>∀ p ∈ l,OpsRun P r (T.put o.dst p.1) p.2 K
   | some (.pan _)=>False
   | some (.dfr _ _)=>False
theorem TR.put {P:Program} {w:World} {ro:Nat→Prop} {μ:Mu} {T:Env} {tmps:Array Value} (h:TR P w ro μ T tmps) {d:Option Tmp} {nt:Nat} (hd:dstOk nt d=true) (hs:tmps.size=nt) {v:AVal} {v':Value} (hv:VR P w ro μ v v') :
  TR P w ro μ (T.put d v) (match d with | some d=>tmps.setIfInBounds d v' | none=>tmps):=by
 cases d with
 | none=>exact h
 | some d=>
  simp only [dstOk,decide_eq_true_eq] at hd
  refine ⟨fun s u hu=> ?_,h.glob⟩
  simp only [Env.put,Env.get_set] at hu
  split at hu
  ·rename_i e; subst e
   injection hu with hu; subst hu
   simp only [Array.getD_eq_getD_getElem?,Array.getElem?_setIfInBounds,if_true,hs,hd]
   exact hv
  ·rename_i e
   have:=h.val s u hu
   simp only [Array.getD_eq_getD_getElem?,Array.getElem?_setIfInBounds,if_neg (Ne.symm e)] at this ⊢
   exact this
theorem TR.putAct {P:Program} {w:World} {ro:Nat→Prop} {μ:Mu} {T:Env} {a:Act} (h:TR P w ro μ T a.tmps) {d:Option Tmp} {nt:Nat} (hd:dstOk nt d=true) (hs:a.tmps.size=nt) {v:AVal} {v':Value} (hv:VR P w ro μ v v') :
  TR P w ro μ (T.put d v) (a.put d v').tmps∧(a.put d v').tmps.size=nt∧(a.put d v').defers=a.defers:=by
 have:=h.put hd hs hv
 cases d with
 | none=>exact ⟨this,hs,rfl⟩
 | some d=>exact ⟨this,by simp [Act.put,hs],rfl⟩
theorem wantedA_sound {P:Program} {w:World} {ro:Nat→Prop} {μ:Mu} {T:Env} {a:Act} (hT:TR P w ro μ T a.tmps) {ops:Array Oper} {o:Oper} {g:Option (Nat × Bool)} (hg:cguard ops o.guard=some g) {b:Bool} (h:wantedA T g=some b):Region.wanted o (yielded ops a.tmps)=b:=by
 unfold cguard at hg
 split at hg
 ·rename_i hn
  injection hg with hg; subst hg
  simp only [wantedA] at h; injection h with h; subst h
  simp [Region.wanted,hn]
 ·rename_i j c hn
  split at hg
  ·rename_i d hd
   injection hg with hg; subst hg
   simp only [wantedA] at h
   split at h
   ·rename_i cc hv
    injection h with h; subst h
    have:=hT.val d _ hv
    simp only [VR] at this
    have hget:a.tmps[d]? = some (.bool cc):=by
     rw [Array.getD_eq_getD_getElem?] at this
     cases hx:a.tmps[d]? with
     | none=>rw [hx] at this; simp [undef] at this
     | some x=>rw [hx] at this; simp at this; rw [this]
    simp only [Region.wanted,hn,yielded,hd,Option.bind_some,hget]
    cases cc <;> cases c <;> rfl
   ·rename_i cs hv
    injection h with h; subst h
    have:=hT.val d _ hv
    obtain ⟨vs,hvs,_⟩:=this
    have hy:yielded ops a.tmps j=none:=by
     simp only [yielded,hd,Option.bind_some]
     rw [Array.getD_eq_getD_getElem?] at hvs
     cases hx:a.tmps[d]? with
     | none=>rfl
     | some x=>
      rw [hx] at hvs
      simp at hvs
      subst hvs
      rfl
    simp only [Region.wanted,hn,hy]
    rfl
   ·cases h
  ·cases hg
theorem coper_inv {P:Program} {nt:Nat} {ops:Array Oper} {o:Oper} {ao:AOper} (h:coper P nt ops o=some ao):cop P o.op=some ao.op∧cguard ops o.guard=some ao.guard∧ao.dst=o.dst∧dstOk nt o.dst=true:=by
 unfold coper at h
 obtain ⟨op,h1,h⟩:=bind_some h
 obtain ⟨g,h2,h⟩:=bind_some h
 split at h
 ·cases h
 ·rename_i hd
  injection h with h; subst h
  exact ⟨h1,h2,rfl,by simpa using hd⟩
theorem ops_sound {P:Program} {nt:Nat} {ops:Array Oper}:∀ (l:List AOper) (i:Nat),copers P nt ops (ops.toList.drop i)=some l→∀ {T:Env} {H:AHeap} {K:Env→AHeap→Prop},OpsRun P l T H K→
  ∀ {w:World} {ro:Nat→Prop} {μ:Mu} {a:Act},Good P w ro μ H→TR P w ro μ T a.tmps→a.tmps.size=nt→a.defers=[]→
  wpOps P ops (fun e a' w'=>e = .normal∧Post P nt w ro μ H K a' w') (List.range' i (ops.size - i)) a w
 | l,i,hl,T,H,K,hr,w,ro,μ,a,hg,hT,hs,hd=>by
  by_cases hi:i < ops.size
  ·have hdrop:ops.toList.drop i=ops[i]::ops.toList.drop (i+1):=by
    rw [List.drop_eq_getElem_cons (by simpa using hi)]; simp
   rw [hdrop] at hl
   simp only [copers] at hl
   obtain ⟨ao,hao,hl⟩:=bind_some hl
   obtain ⟨r,hrr,hl⟩:=bind_some hl
   injection hl with hl; subst hl
   obtain ⟨h1,h2,h3,h4⟩:=coper_inv hao
   have hsub:ops.size - i=(ops.size - (i+1))+1:=by omega
   rw [hsub,List.range'_succ]
   have hget:ops[i]? = some ops[i]:=by simp [hi]
   simp only [wpOps,hget]
   simp only [OpsRun] at hr
   have go:∀ {T1:Env} {H1:AHeap} {w1:World} {ro1:Nat→Prop} {μ1:Mu} {a1:Act},OpsRun P r T1 H1 K→Good P w1 ro1 μ1 H1→TR P w1 ro1 μ1 T1 a1.tmps→a1.tmps.size=nt→a1.defers=[]→Out w ro μ H w1 ro1 μ1 H1→
     wpOps P ops (fun e a' w'=>e = .normal∧Post P nt w ro μ H K a' w') (List.range' (i+1) (ops.size - (i+1))) a1 w1:=by
    intro T1 H1 w1 ro1 μ1 a1 hr1 hg1 hT1 hs1 hd1 ho1
    have ih:=ops_sound r (i+1) hrr hr1 hg1 hT1 hs1 hd1
    have mono:∀ (idx:List Nat) (Q Q':Exit→Act→World→Prop) (a:Act) (w:World),(∀ e a w,Q e a w→Q' e a w)→wpOps P ops Q idx a w→wpOps P ops Q' idx a w:=by
     intro idx
     induction idx with
     | nil=>intro Q Q' a w hq h; exact hq _ _ _ h
     | cons j idx ih2=>
      intro Q Q' a w hq h
      rw [wpOps_cons] at h ⊢
      unfold wpOp at h ⊢
      split
      ·rename_i hj; simp only [hj] at h; exact ih2 Q Q' _ _ hq h
      ·rename_i oo hj
       simp only [hj] at h
       split
       ·rename_i hw
        simp only [hw,if_true] at h
        rcases h with h | ⟨h5,a0,w0,h6⟩
        ·refine .inl ?_
         unfold Oper.wp at h ⊢
         generalize (execOp a.eval oo).run P w=res at h ⊢
         cases res with
         | ok nx w2=>
          cases nx <;> simp only [Oper.upon] at h ⊢ <;>
           first
            | exact ih2 Q Q' _ _ hq h
            | exact Calls.mono h (fun e w'' he=>by
              cases e with
              | returned v=>exact ih2 Q Q' _ _ hq he
              | panicked ch=>exact hq _ _ _ he
              | outgrown=>obtain ⟨a0,w0,h0⟩:=he; exact ⟨a0,w0,hq _ _ _ h0⟩)
            | exact Rows.mono h (fun _ _ he=>ih2 Q Q' _ _ hq he)
            | exact h
         | halt x w2=>
          cases x <;> simp only [Oper.upon] at h ⊢ <;> first | exact hq _ _ _ h | exact h
        ·exact .inr ⟨h5,a0,w0,hq _ _ _ h6⟩
       ·rename_i hw
        simp only [hw] at h
        exact ih2 Q Q' _ _ hq h
    exact mono _ _ _ _ _ (fun e a' w' ⟨he,T',H',ro',μ',k1,k2,k3,k4,k5,k6⟩=>⟨he,T',H',ro',μ',k1,k2,k3,k4,k5,ho1.trans k6⟩) ih
   split at hr
   ·exact hr.elim
   ·rename_i hw
    have hwt:=wantedA_sound hT h2 hw
    simp only [hwt,Bool.false_eq_true,if_false]
    obtain ⟨p1,p2,p3⟩:=hT.putAct h4 hs (v:=aundef) (v':=undef) ⟨#[],rfl,rfl⟩
    rw [h3] at hr
    exact go hr hg p1 p2 (p3.trans hd) (Out.refl _ _ _ _)
   ·rename_i hw
    have hwt:=wantedA_sound hT h2 hw
    simp only [hwt,if_true]
    split at hr
    ·exact hr.elim
    ·rename_i v H1 hst
     obtain ⟨v',w1,ro1,μ1,hrun,hv,hg1,ho1⟩:=cop_sound hg hT h1 hst
     have hT1:=hT.ext (Out.ext hg ho1)
     obtain ⟨p1,p2,p3⟩:=hT1.putAct h4 hs hv
     rw [h3] at hr
     refine .inl ?_
     unfold Oper.wp
     rcases hrun with hrun | ⟨hrun,rfl⟩
     ·rw [hrun]; exact go hr hg1 p1 p2 (p3.trans hd) ho1
     ·rw [hrun]; exact go hr hg1 p1 p2 (p3.trans hd) ho1
    ·rename_i f as hst
     obtain ⟨hcb,hcall⟩:=hr
     obtain ⟨args,hrun,hargs⟩:=cop_enter (w:=w) hT h1 hst hcb
     refine .inl ?_
     unfold Oper.wp
     rw [hrun]
     show Calls P f args w _
     refine (hcall w ro μ args hg hargs).mono ?_
     rintro e w1 ⟨v',r1,H1,ro1,μ1,rfl,hk,hv,hg1,ho1⟩
     have hT1:=hT.ext (Out.ext hg ho1)
     obtain ⟨p1,p2,p3⟩:=hT1.putAct h4 hs hv
     rw [h3] at hk
     exact go hk hg1 p1 p2 (p3.trans hd) ho1
    ·rename_i ps hst
     obtain ⟨p,hp,v',w1,ro1,μ1,hrun,hv,hg1,ho1⟩:=cop_any hg hT h1 hst
     have hT1:=hT.ext (Out.ext hg ho1)
     obtain ⟨p1,p2,p3⟩:=hT1.putAct h4 hs hv
     have hr:=hr p hp
     rw [h3] at hr
     refine .inl ?_
     unfold Oper.wp
     rcases hrun with hrun | ⟨hrun,rfl⟩
     ·rw [hrun]; exact go hr hg1 p1 p2 (p3.trans hd) ho1
     ·rw [hrun]; exact go hr hg1 p1 p2 (p3.trans hd) ho1
    ·exact hr.elim
    ·exact hr.elim
  ·have h0:ops.size - i=0:=by omega
   have hdrop:ops.toList.drop i=[]:=by apply List.drop_eq_nil_of_le; simp; omega
   rw [hdrop] at hl
   simp only [copers] at hl; injection hl with hl; subst hl
   rw [h0]
   simp only [List.range'_zero,wpOps]
   exact ⟨trivial,T,H,ro,μ,hr,hg,hT,hs,hd,Out.refl _ _ _ _⟩
 termination_by l=>l.length
end Go.Am
