/- Parts: Am36, Am37, Am38, Am39, Am40. -/
import Derived.Test.YtmoimchdhgoeeaaDoorAmQ
import Derived.Recover
set_option linter.unusedVariables false
set_option linter.unusedSimpArgs false
namespace Go.Am
open Go.RowKit
abbrev ADef:=FuncId × List AVal
def DefR (P:Program) (w:World) (ro:Nat→Prop) (μ:Mu) (d:ADef) (v:Deferred):Prop:=∃ cap,v.target = .fn (.func d.1) cap∧VRs P w ro μ d.2 (v.args++cap).toList
def DefRs (P:Program) (w:World) (ro:Nat→Prop) (μ:Mu):List ADef→List Deferred→Prop
 | [],vs=>vs=[]
 | d::ds,vs=>∃ v r,vs=v::r∧DefR P w ro μ d v∧DefRs P w ro μ ds r
theorem VRs.extX {P:Program} {w w':World} {ro ro':Nat→Prop} {μ μ':Mu} (h:Ext w ro μ w' ro' μ') {as:List AVal} {vs:List Value} (hv:VRs P w ro μ as vs):VRs P w' ro' μ' as vs:=by
 rw [VRs_iff] at hv ⊢
 exact ⟨hv.1,fun i a v h1 h2=>(hv.2 i a v h1 h2).ext h _ _⟩
theorem DefRs.ext {P:Program} {w w':World} {ro ro':Nat→Prop} {μ μ':Mu} (h:Ext w ro μ w' ro' μ'):∀ {ds:List ADef} {vs:List Deferred},DefRs P w ro μ ds vs→DefRs P w' ro' μ' ds vs
 | [],vs,hv=>hv
 | d::ds,vs,⟨v,r,e,⟨cap,h1,h2⟩,h3⟩=>⟨v,r,e,⟨cap,h1,h2.extX h⟩,h3.ext h⟩
inductive AEnd where
 | ret
 | pan (v:AVal)
inductive AOut where
 | ret (v:AVal)
 | pan (v:AVal)
def modeR (P:Program) (w:World) (ro:Nat→Prop) (μ:Mu):AEnd→FrameMode→Prop
 | .ret,m=>m = .returning
 | .pan v,m=>∃ u,m = .panicking [{ v:=u,recovered:=false }]∧VR P w ro μ v u
theorem modeR.ext {P:Program} {w w':World} {ro ro':Nat→Prop} {μ μ':Mu} (h:Ext w ro μ w' ro' μ') {e:AEnd} {m:FrameMode} (hm:modeR P w ro μ e m):modeR P w' ro' μ' e m:=by
 cases e with
 | ret=>exact hm
 | pan v=>obtain ⟨u,h1,h2⟩:=hm; exact ⟨u,h1,h2.ext h _ _⟩
def OutR (P:Program) (w:World) (ro:Nat→Prop) (μ:Mu):AOut→Ending→Prop
 | .ret v,e=>∃ u,e = .returned u∧VR P w ro μ v u
 | .pan v,e=>∃ u,e = .panicked [{ v:=u,recovered:=false }]∧VR P w ro μ v u
def CallX (P:Program) (f:FuncId) (args:List AVal) (H:AHeap) (K:AOut→AHeap→Prop):Prop:=
 ∀ w ro μ (argv:Array Value),Good P w ro μ H→VRs P w ro μ args argv.toList→
  Calls P f argv w fun e w'=>∃ o H' ro' μ',K o H'∧OutR P w' ro' μ' o e∧Good P w' ro' μ' H'∧Out w ro μ H w' ro' μ' H'
theorem CallX.mono {P:Program} {f:FuncId} {args:List AVal} {H:AHeap} {K K':AOut→AHeap→Prop} (h:CallX P f args H K) (hk:∀ r H',K r H'→K' r H'):CallX P f args H K':=
 fun w ro μ argv hg ha=>(h w ro μ argv hg ha).mono fun e w' ⟨o,H',ro',μ',h1,h2⟩=>⟨o,H',ro',μ',hk _ _ h1,h2⟩
theorem CallEv.x {P:Program} {f:FuncId} {args:List AVal} {H:AHeap} {K:AVal→AHeap→Prop} (h:CallEv P f args H K):CallX P f args H fun o H'=>∃ v,o = .ret v∧K v H':=
 fun w ro μ argv hg ha=>(h w ro μ argv hg ha).mono fun e w' ⟨v',r,H',ro',μ',h1,h2,h3,h4,h5⟩=>⟨.ret r,H',ro',μ',⟨r,rfl,h2⟩,⟨v',h1,h3⟩,h4,h5⟩
def DetX (P:Program) (f:FuncId) (args:List AVal) (H:AHeap) (o:AOut) (H':AHeap):Prop:=Callable P f∧CallX P f args H fun a b=>a=o∧b=H'
def DCallX (P:Program) (f:FuncId) (args:List AVal) (H:AHeap) (Q:AOut→AHeap→Prop):Prop:=∃ o H',Q o H'∧DetX P f args H o H'
theorem DCallX.mono {P:Program} {f:FuncId} {args:List AVal} {H:AHeap} {Q Q':AOut→AHeap→Prop} (h:DCallX P f args H Q) (hq:∀ r H',Q r H'→Q' r H'):DCallX P f args H Q':=let ⟨r,H',q,d⟩:=h; ⟨r,H',hq _ _ q,d⟩
theorem DCall.x {P:Program} {f:FuncId} {args:List AVal} {H:AHeap} {Q:AVal→AHeap→Prop} (h:DCall P f args H Q):DCallX P f args H fun o H'=>∃ v,o = .ret v∧Q v H':=by
 obtain ⟨r,H',q,hc,d⟩:=h
 exact ⟨.ret r,H',⟨r,rfl,q⟩,hc,d.x.mono fun a b ⟨v,e,e1,e2⟩=>by subst e; subst e1; exact ⟨rfl,e2⟩⟩
def OpsX (P:Program):List AOper→List ADef→Env→AHeap→(List ADef→Env→AHeap→Prop)→(AVal→List ADef→Env→AHeap→Prop)→Prop
 | [],ds,T,H,K,R=>K ds T H
 | o::r,ds,T,H,K,R=>
  match wantedA T o.guard with
  | none=>False
  | some false=>OpsX P r ds (T.put o.dst aundef) H K R
  | some true=>
   match astep o.op T H with
   | none=>False
   | some (.value v H')=>OpsX P r ds (T.put o.dst v) H' K R
   | some (.enter f as)=>Callable P f∧CallX P f as H fun x H'=>match x with
    | .ret v=>OpsX P r ds (T.put o.dst v) H' K R
    | .pan v=>R v ds T H'
   | some (.anyOf _)=>False
   | some (.pan v)=>R v ds T H
   | some (.dfr g as)=>OpsX P r ((g,as)::ds) (T.put o.dst aundef) H K R
section
variable {P:Program} {w:World} {ro:Nat→Prop} {μ:Mu} {H:AHeap} {T:Env} {a:Act} {o:Oper} {ao:AOp}
theorem astep_pan {v:AVal} (h:astep ao T H=some (.pan v)):∃ x,ao = .pan x:=by
 cases ao <;> simp only [astep] at h
 case pan x=>exact ⟨x,rfl⟩
 case nxtM=>
  split at h
  ·obtain ⟨l,hl⟩:=anextM_form h
   cases hl
  ·cases h
 all_goals (repeat' (first | (cases h; done) | (obtain ⟨_,_,h⟩:=bind_some h) | split at h))
theorem astep_dfr {g:FuncId} {as:List AVal} (h:astep ao T H=some (.dfr g as)):∃ f xs,ao = .dfr f xs:=by
 cases ao <;> simp only [astep] at h
 case dfr f xs=>exact ⟨f,xs,rfl⟩
 case nxtM=>
  split at h
  ·obtain ⟨l,hl⟩:=anextM_form h
   cases hl
  ·cases h
 all_goals (repeat' (first | (cases h; done) | (obtain ⟨_,_,h⟩:=bind_some h) | split at h))
theorem cop_panic {op:Op} {x:AOpnd} (hc:cop P op=some (.pan x)):∃ y,op = .panic y∧copd y=some x:=by
 cases op <;> simp only [cop] at hc
 case panic y=>obtain ⟨_,hx,e⟩:=map_some hc; cases e; exact ⟨y,rfl,hx⟩
 case next y b=>exfalso; cases b <;> simp only [cop] at hc <;> (obtain ⟨_,hx,e⟩:=map_some hc; cases e)
 case makeMap t r=>exfalso; cases r <;> simp only [cop] at hc <;> cases hc
 case call c=>exfalso; unfold ccall at hc; repeat' (first | split at hc | (cases hc; done) | (obtain ⟨_,_,hc⟩:=bind_some hc) | (obtain ⟨_,_,hc⟩:=map_some hc))
 all_goals (exfalso; repeat' (first | split at hc | (cases hc; done) | (obtain ⟨_,_,hc⟩:=bind_some hc) | (obtain ⟨_,_,hc⟩:=map_some hc)))
theorem cop_defer {op:Op} {f:AOpnd} {xs:List AOpnd} (hc:cop P op=some (.dfr f xs)):∃ c y,op = .defer c∧c.callee = .value y∧copd y=some f∧copds c.args.toList=some xs:=by
 cases op <;> simp only [cop] at hc
 case defer c=>
  split at hc
  ·cases hc
  ·rename_i y _ hy
   obtain ⟨f',hf,hc⟩:=bind_some hc
   obtain ⟨as,has,hc⟩:=bind_some hc
   injection hc with hc; injection hc with h1 h2; subst h1; subst h2
   exact ⟨c,y,rfl,hy,hf,has⟩
  ·cases hc
 case next y b=>exfalso; cases b <;> simp only [cop] at hc <;> (obtain ⟨_,hx,e⟩:=map_some hc; cases e)
 case makeMap t r=>exfalso; cases r <;> simp only [cop] at hc <;> cases hc
 case call c=>exfalso; unfold ccall at hc; repeat' (first | split at hc | (cases hc; done) | (obtain ⟨_,_,hc⟩:=bind_some hc) | (obtain ⟨_,_,hc⟩:=map_some hc))
 all_goals (exfalso; repeat' (first | split at hc | (cases hc; done) | (obtain ⟨_,_,hc⟩:=bind_some hc) | (obtain ⟨_,_,hc⟩:=map_some hc)))
theorem cop_pan (hT:TR P w ro μ T a.tmps) (hc:cop P o.op=some ao) {v:AVal} (hs:astep ao T H=some (.pan v)):∃ u,(execOp a.eval o).run P w = .halt (.panic u) w∧VR P w ro μ v u:=by
 obtain ⟨x,rfl⟩:=astep_pan hs
 obtain ⟨y,ho,hx⟩:=cop_panic hc
 simp only [astep] at hs
 split at hs
 ·rename_i t v' hv
  injection hs with hs; injection hs with hs; subst hs
  have h:=copd_sound hT hx hv
  obtain ⟨u,hu,hr⟩:=h
  refine ⟨.iface t u,?_,u,rfl,hr⟩
  simp only [execOp,ho,hu]
  rfl
 ·cases hs
theorem cop_dfr (hT:TR P w ro μ T a.tmps) (hc:cop P o.op=some ao) {g:FuncId} {as:List AVal} (hs:astep ao T H=some (.dfr g as)):∃ d,(execOp a.eval o).run P w = .ok (.defer d) w∧DefR P w ro μ (g,as) d:=by
 obtain ⟨f,xs,rfl⟩:=astep_dfr hs
 obtain ⟨c,y,ho,hcal,hf,hxs⟩:=cop_defer hc
 simp only [astep] at hs
 split at hs
 ·rename_i g' first cap hfv
  obtain ⟨u,hu,hs⟩:=bind_some hs
  injection hs with hs; injection hs with h1 h2; subst h1; subst h2
  obtain ⟨fs,cs,he,h1,h2⟩:=copd_sound hT hf hfv
  refine ⟨{ target:=.fn (.func g') cs,args:=fs++c.args.map a.eval },?_,cs,rfl,?_⟩
  ·simp [execOp,ho,resolve,hcal,he,Deferred.ofValue]
  ·simp only [Array.toList_append]
   exact (h1.append (by simpa using copds_sound hT hxs hu)).append h2
 ·cases hs
end
def PostX (P:Program) (nt:Nat) (w:World) (ro:Nat→Prop) (μ:Mu) (H:AHeap) (K:AEnd→List ADef→Env→AHeap→Prop) (m:FrameMode) (a':Act) (w':World):Prop:=
 ∃ e ds T' H' ro' μ',K e ds T' H'∧modeR P w' ro' μ' e m∧Good P w' ro' μ' H'∧TR P w' ro' μ' T' a'.tmps∧a'.tmps.size=nt∧DefRs P w' ro' μ' ds a'.defers∧Out w ro μ H w' ro' μ' H'
def QX (P:Program) (nt:Nat) (w:World) (ro:Nat→Prop) (μ:Mu) (H:AHeap) (K:List ADef→Env→AHeap→Prop) (R:AVal→List ADef→Env→AHeap→Prop) (e:Exit) (a':Act) (w':World):Prop:=
 ∃ ds T' H' ro' μ',((e = .normal∧K ds T' H')∨∃ v u,e = .panic [{ v:=u,recovered:=false }]∧VR P w' ro' μ' v u∧R v ds T' H')∧Good P w' ro' μ' H'∧TR P w' ro' μ' T' a'.tmps∧a'.tmps.size=nt∧DefRs P w' ro' μ' ds a'.defers∧Out w ro μ H w' ro' μ' H'
theorem QX.from {P:Program} {nt:Nat} {w w1:World} {ro ro1:Nat→Prop} {μ μ1:Mu} {H H1:AHeap} {K:List ADef→Env→AHeap→Prop} {R:AVal→List ADef→Env→AHeap→Prop} (ho:Out w ro μ H w1 ro1 μ1 H1) {e:Exit} {a':Act} {w':World} (h:QX P nt w1 ro1 μ1 H1 K R e a' w'):QX P nt w ro μ H K R e a' w':=by
 obtain ⟨ds,T',H',ro',μ',k1,k2,k3,k4,k5,k6⟩:=h
 exact ⟨ds,T',H',ro',μ',k1,k2,k3,k4,k5,ho.trans k6⟩
theorem wpOps_mono {P:Program} {ops:Array Oper}:∀ (idx:List Nat) {Q Q':Exit→Act→World→Prop} (a:Act) (w:World),(∀ e a w,Q e a w→Q' e a w)→wpOps P ops Q idx a w→wpOps P ops Q' idx a w:=by
 intro idx
 induction idx with
 | nil=>intro Q Q' a w hq h; exact hq _ _ _ h
 | cons j idx ih2=>
  intro Q Q' a w hq h
  rw [wpOps_cons] at h ⊢
  unfold wpOp at h ⊢
  split
  ·rename_i hj; simp only [hj] at h; exact ih2 _ _ hq h
  ·rename_i oo hj
   simp only [hj] at h
   split
   ·rename_i hw
    simp only [hw,if_true] at h
    rcases h with h | ⟨h5,a0,w0,h6⟩
    ·refine .inl ?_
     unfold Oper.wp at h ⊢
     generalize (execOp a.eval oo).run P w=res at h ⊢
     cases res with
     | ok nx w2=>
      cases nx <;> simp only [Oper.upon] at h ⊢ <;>
       first
        | exact ih2 _ _ hq h
        | exact Calls.mono h (fun e w'' he=>by
          cases e with
          | returned v=>exact ih2 _ _ hq he
          | panicked ch=>exact hq _ _ _ he
          | outgrown=>obtain ⟨a0,w0,h0⟩:=he; exact ⟨a0,w0,hq _ _ _ h0⟩)
        | exact Rows.mono h (fun _ _ he=>ih2 _ _ hq he)
        | exact h
     | halt x w2=>
      cases x <;> simp only [Oper.upon] at h ⊢ <;> first | exact hq _ _ _ h | exact h
    ·exact .inr ⟨h5,a0,w0,hq _ _ _ h6⟩
   ·rename_i hw
    simp only [hw] at h
    exact ih2 _ _ hq h
theorem opsX_sound {P:Program} {nt:Nat} {ops:Array Oper}:∀ (l:List AOper) (i:Nat),copers P nt ops (ops.toList.drop i)=some l→∀ {ds:List ADef} {T:Env} {H:AHeap} {K:List ADef→Env→AHeap→Prop} {R:AVal→List ADef→Env→AHeap→Prop},OpsX P l ds T H K R→
  ∀ {w:World} {ro:Nat→Prop} {μ:Mu} {a:Act},Good P w ro μ H→TR P w ro μ T a.tmps→a.tmps.size=nt→DefRs P w ro μ ds a.defers→
  wpOps P ops (QX P nt w ro μ H K R) (List.range' i (ops.size - i)) a w
 | l,i,hl,ds,T,H,K,R,hr,w,ro,μ,a,hg,hT,hs,hd=>by
  by_cases hi:i < ops.size
  ·have hdrop:ops.toList.drop i=ops[i]::ops.toList.drop (i+1):=by
    rw [List.drop_eq_getElem_cons (by simpa using hi)]; simp
   rw [hdrop] at hl
   simp only [copers] at hl
   obtain ⟨ao,hao,hl⟩:=bind_some hl
   obtain ⟨r,hrr,hl⟩:=bind_some hl
   injection hl with hl; subst hl
   obtain ⟨h1,h2,h3,h4⟩:=coper_inv hao
   have hsub:ops.size - i=(ops.size - (i+1))+1:=by omega
   rw [hsub,List.range'_succ]
   have hget:ops[i]? = some ops[i]:=by simp [hi]
   simp only [wpOps,hget]
   simp only [OpsX] at hr
   have go:∀ {ds1:List ADef} {T1:Env} {H1:AHeap} {w1:World} {ro1:Nat→Prop} {μ1:Mu} {a1:Act},OpsX P r ds1 T1 H1 K R→Good P w1 ro1 μ1 H1→TR P w1 ro1 μ1 T1 a1.tmps→a1.tmps.size=nt→DefRs P w1 ro1 μ1 ds1 a1.defers→Out w ro μ H w1 ro1 μ1 H1→
     wpOps P ops (QX P nt w ro μ H K R) (List.range' (i+1) (ops.size - (i+1))) a1 w1:=by
    intro ds1 T1 H1 w1 ro1 μ1 a1 hr1 hg1 hT1 hs1 hd1 ho1
    exact wpOps_mono _ _ _ (fun e a' w'=>QX.from ho1) (opsX_sound r (i+1) hrr hr1 hg1 hT1 hs1 hd1)
   split at hr
   ·exact hr.elim
   ·rename_i hw
    have hwt:=wantedA_sound hT h2 hw
    simp only [hwt,Bool.false_eq_true,if_false]
    obtain ⟨p1,p2,p3⟩:=hT.putAct h4 hs (v:=aundef) (v':=undef) ⟨#[],rfl,rfl⟩
    rw [h3] at hr
    exact go hr hg p1 p2 (by rw [p3]; exact hd) (Out.refl _ _ _ _)
   ·rename_i hw
    have hwt:=wantedA_sound hT h2 hw
    simp only [hwt,if_true]
    refine .inl ?_
    unfold Oper.wp
    split at hr
    ·exact hr.elim
    ·rename_i v H1 hst
     obtain ⟨v',w1,ro1,μ1,hrun,hv,hg1,ho1⟩:=cop_sound hg hT h1 hst
     have hx:=Out.ext hg ho1
     have hT1:=hT.ext hx
     obtain ⟨p1,p2,p3⟩:=hT1.putAct h4 hs hv
     rw [h3] at hr
     rcases hrun with hrun | ⟨hrun,rfl⟩
     ·rw [hrun]; exact go hr hg1 p1 p2 (by rw [p3]; exact hd.ext hx) ho1
     ·rw [hrun]; exact go hr hg1 p1 p2 (by rw [p3]; exact hd.ext hx) ho1
    ·rename_i f as hst
     obtain ⟨hcb,hcall⟩:=hr
     obtain ⟨args,hrun,hargs⟩:=cop_enter (w:=w) hT h1 hst hcb
     rw [hrun]
     show Calls P f args w _
     refine (hcall w ro μ args hg hargs).mono ?_
     rintro e w1 ⟨x,H1,ro1,μ1,hk,hv,hg1,ho1⟩
     have hx:=Out.ext hg ho1
     have hT1:=hT.ext hx
     cases x with
     | ret v=>
      obtain ⟨v',rfl,hv⟩:=hv
      obtain ⟨p1,p2,p3⟩:=hT1.putAct h4 hs hv
      simp only at hk
      rw [h3] at hk
      exact go hk hg1 p1 p2 (by rw [p3]; exact hd.ext hx) ho1
     | pan v=>
      obtain ⟨u,rfl,hv⟩:=hv
      exact ⟨ds,T,H1,ro1,μ1,.inr ⟨v,u,rfl,hv,hk⟩,hg1,hT1,hs,hd.ext hx,ho1⟩
    ·exact hr.elim
    ·rename_i v hst
     obtain ⟨u,hrun,hv⟩:=cop_pan (w:=w) hT h1 hst
     rw [hrun]
     exact ⟨ds,T,H,ro,μ,.inr ⟨v,u,rfl,hv,hr⟩,hg,hT,hs,hd,Out.refl _ _ _ _⟩
    ·rename_i g as hst
     obtain ⟨d,hrun,hv⟩:=cop_dfr (w:=w) hT h1 hst
     rw [hrun]
     have hd':DefRs P w ro μ ((g,as)::ds) (d::a.defers):=⟨d,a.defers,rfl,hv,hd⟩
     obtain ⟨p1,p2,p3⟩:=TR.putAct (a:={ a with defers:=d::a.defers }) hT h4 hs (v:=aundef) (v':=undef) ⟨#[],rfl,rfl⟩
     rw [h3] at hr
     exact go hr hg p1 p2 (by rw [p3]; exact hd') (Out.refl _ _ _ _)
  ·have h0:ops.size - i=0:=by omega
   have hdrop:ops.toList.drop i=[]:=by apply List.drop_eq_nil_of_le; simp; omega
   rw [hdrop] at hl
   simp only [copers] at hl; injection hl with hl; subst hl
   rw [h0]
   simp only [List.range'_zero,wpOps]
   exact ⟨ds,T,H,ro,μ,.inl ⟨rfl,hr⟩,hg,hT,hs,hd,Out.refl _ _ _ _⟩
 termination_by l=>l.length
end Go.Am
namespace Go.Am
open Go.RowKit
def RunsX (P:Program) (ks:Keeps) (nt:Nat) (todo:List AItem) (ds:List ADef) (T:Env) (H:AHeap) (K:AEnd→List ADef→Env→AHeap→Prop):Prop:=
 ∀ items,CIs P ks nt items todo→∀ w ro μ (a:Act),Good P w ro μ H→TR P w ro μ T a.tmps→a.tmps.size=nt→DefRs P w ro μ ds a.defers→∀ (b:Frame) (cs:List Frame),
  ∃ a' w' todo' m,PostX P nt w ro μ H K m a' w'∧Steps P (lone (b.at a items) cs w) (lone { b.at a' todo' with mode:=m } cs w')
variable {P:Program} {ks:Keeps} {nt:Nat} {k:List AItem} {ds:List ADef} {T:Env} {H:AHeap} {K:AEnd→List ADef→Env→AHeap→Prop}
theorem PostX.from {w w1:World} {ro ro1:Nat→Prop} {μ μ1:Mu} {H1:AHeap} {m:FrameMode} {a':Act} {w':World} (ho:Out w ro μ H w1 ro1 μ1 H1) (h:PostX P nt w1 ro1 μ1 H1 K m a' w'):PostX P nt w ro μ H K m a' w':=by
 obtain ⟨e,ds,T',H',ro',μ',k1,k2,k3,k4,k5,k6,k7⟩:=h
 exact ⟨e,ds,T',H',ro',μ',k1,k2,k3,k4,k5,k6,ho.trans k7⟩
theorem RunsX.one {todo k:List AItem} (hi:∀ items,CIs P ks nt items todo→∃ items',CIs P ks nt items' k∧∀ (b:Frame) (a:Act) (cs:List Frame) (w:World) (ro:Nat→Prop) (μ:Mu),TR P w ro μ T a.tmps→Steps P (lone (b.at a items) cs w) (lone (b.at a items') cs w)) (h:RunsX P ks nt k ds T H K):RunsX P ks nt todo ds T H K:=by
 intro items hc w ro μ a hg hT hs hd b cs
 obtain ⟨items',hc',hst⟩:=hi items hc
 obtain ⟨a',w',todo',m,hp,hsteps⟩:=h items' hc' w ro μ a hg hT hs hd b cs
 exact ⟨a',w',todo',m,hp,(hst b a cs w ro μ hT).trans hsteps⟩
theorem RunsX.skip (h:RunsX P ks nt k ds T H K):RunsX P ks nt (.code .skip::k) ds T H K:=
 .one (fun items hc=>by
  obtain ⟨i,r,rfl,h1,h2⟩:=cis_cons hc
  obtain ⟨c,rfl,h3⟩:=ci_code h1
  have e3:=ccode_inv h3; simp only at e3; subst e3
  exact ⟨r,h2,fun b a cs w ro μ _=>.one step_skip⟩) h
theorem RunsX.label {l:Nat} (h:RunsX P ks nt k ds T H K):RunsX P ks nt (.code (.label l)::k) ds T H K:=
 .one (fun items hc=>by
  obtain ⟨i,r,rfl,h1,h2⟩:=cis_cons hc
  obtain ⟨c,rfl,h3⟩:=ci_code h1
  have e3:=ccode_inv h3; simp only at e3; subst e3
  exact ⟨r,h2,fun b a cs w ro μ _=>.one step_label⟩) h
theorem RunsX.seq {x y:ACode} (h:RunsX P ks nt (.code x::.code y::k) ds T H K):RunsX P ks nt (.code (.seq x y)::k) ds T H K:=
 .one (fun items hc=>by
  obtain ⟨i,r,rfl,h1,h2⟩:=cis_cons hc
  obtain ⟨c,rfl,h3⟩:=ci_code h1
  obtain ⟨p,q,rfl,h4,h5⟩:=ccode_inv h3
  exact ⟨.code p::.code q::r,⟨h4,h5,h2⟩,fun b a cs w ro μ _=>.one step_seq⟩) h
theorem RunsX.cond {u:AOpnd} {x y:ACode} {t:Bool} (hu:T.val u=some (.bool t)) (h:RunsX P ks nt (.code (if t=true then x else y)::k) ds T H K):RunsX P ks nt (.code (.cond u x y)::k) ds T H K:=by
 intro items hc w ro μ a hg hT hs hd b cs
 obtain ⟨i,r,rfl,h1,h2⟩:=cis_cons hc
 obtain ⟨c,rfl,h3⟩:=ci_code h1
 obtain ⟨v,p,q,rfl,h4,h5,h6⟩:=ccode_inv h3
 have hv:=copd_sound hT h4 hu
 simp only [VR] at hv
 obtain ⟨a',w',todo',m,hp,hsteps⟩:=h (.code (if t then p else q)::r) ⟨by cases t <;> first | exact h6 | exact h5,h2⟩ w ro μ a hg hT hs hd b cs
 exact ⟨a',w',todo',m,hp,.head (step_cond hv) hsteps⟩
theorem RunsX.block {id:Nat} {x:ACode} (h:RunsX P ks nt (.code x::.inBlock id::k) ds T H K):RunsX P ks nt (.code (.block id x)::k) ds T H K:=
 .one (fun items hc=>by
  obtain ⟨i,r,rfl,h1,h2⟩:=cis_cons hc
  obtain ⟨c,rfl,h3⟩:=ci_code h1
  obtain ⟨p,rfl,h4⟩:=ccode_inv h3
  exact ⟨.code p::.inBlock id::r,⟨h4,rfl,h2⟩,fun b a cs w ro μ _=>.one step_block⟩) h
theorem RunsX.inBlock {id:Nat} (h:RunsX P ks nt k ds T H K):RunsX P ks nt (.inBlock id::k) ds T H K:=
 .one (fun items hc=>by
  obtain ⟨i,r,rfl,h1,h2⟩:=cis_cons hc
  cases i <;> first | exact h1.elim | skip
  exact ⟨r,h2,fun b a cs w ro μ _=>.one step_inBlock⟩) h
theorem RunsX.loop {x:ACode} (h:RunsX P ks nt (.code x::.inLoop x::k) ds T H K):RunsX P ks nt (.code (.loop x)::k) ds T H K:=
 .one (fun items hc=>by
  obtain ⟨i,r,rfl,h1,h2⟩:=cis_cons hc
  obtain ⟨c,rfl,h3⟩:=ci_code h1
  obtain ⟨p,rfl,h4⟩:=ccode_inv h3
  exact ⟨.code p::.inLoop p::r,⟨h4,h4,h2⟩,fun b a cs w ro μ _=>.one step_loop⟩) h
theorem RunsX.inLoop {x:ACode} (h:RunsX P ks nt (.code x::.inLoop x::k) ds T H K):RunsX P ks nt (.inLoop x::k) ds T H K:=
 .one (fun items hc=>by
  obtain ⟨i,r,rfl,h1,h2⟩:=cis_cons hc
  cases i <;> first | exact h1.elim | skip
  rename_i p
  exact ⟨.code p::.inLoop p::r,⟨h1,h1,h2⟩,fun b a cs w ro μ _=>.one step_inLoop⟩) h
theorem RunsX.scope {x:ACode} (h:RunsX P ks nt (.code x::.inScope x::k) ds T H K):RunsX P ks nt (.code (.scope x)::k) ds T H K:=
 .one (fun items hc=>by
  obtain ⟨i,r,rfl,h1,h2⟩:=cis_cons hc
  obtain ⟨c,rfl,h3⟩:=ci_code h1
  obtain ⟨p,rfl,h4⟩:=ccode_inv h3
  exact ⟨.code p::.inScope p::r,⟨h4,h4,h2⟩,fun b a cs w ro μ _=>.one step_scope⟩) h
theorem RunsX.inScope {x:ACode} (h:RunsX P ks nt k ds T H K):RunsX P ks nt (.inScope x::k) ds T H K:=
 .one (fun items hc=>by
  obtain ⟨i,r,rfl,h1,h2⟩:=cis_cons hc
  cases i <;> first | exact h1.elim | skip
  exact ⟨r,h2,fun b a cs w ro μ _=>.one step_inScope⟩) h
theorem RunsX.exit {id:Nat} {k':List AItem} (he:aexitTo id k=some k') (h:RunsX P ks nt k' ds T H K):RunsX P ks nt (.code (.exit id)::k) ds T H K:=
 .one (fun items hc=>by
  obtain ⟨i,r,rfl,h1,h2⟩:=cis_cons hc
  obtain ⟨c,rfl,h3⟩:=ci_code h1
  have e3:=ccode_inv h3; simp only at e3; subst e3
  obtain ⟨r',h4,h5⟩:=exitTo_sound h2 he
  exact ⟨r',h5,fun b a cs w ro μ _=>.one (step_exit h4)⟩) h
theorem RunsX.goto {l:Nat} {k':List AItem} (he:agotoIn l k=some k') (h:RunsX P ks nt k' ds T H K):RunsX P ks nt (.code (.goto l)::k) ds T H K:=
 .one (fun items hc=>by
  obtain ⟨i,r,rfl,h1,h2⟩:=cis_cons hc
  obtain ⟨c,rfl,h3⟩:=ci_code h1
  have e3:=ccode_inv h3; simp only at e3; subst e3
  obtain ⟨r',h4,h5⟩:=gotoIn_sound h2 he
  exact ⟨r',h5,fun b a cs w ro μ _=>.one (step_goto h4)⟩) h
theorem RunsX.ret (h:K .ret ds T H):RunsX P ks nt (.code .ret::k) ds T H K:=by
 intro items hc w ro μ a hg hT hs hd b cs
 obtain ⟨i,r,rfl,h1,h2⟩:=cis_cons hc
 obtain ⟨c,rfl,h3⟩:=ci_code h1
 have e3:=ccode_inv h3; simp only at e3; subst e3
 exact ⟨a,w,_,.returning,⟨.ret,ds,T,H,ro,μ,h,rfl,hg,hT,hs,hd,Out.refl _ _ _ _⟩,.one step_ret⟩
theorem RunsX.done (h:K .ret ds T H):RunsX P ks nt [] ds T H K:=by
 intro items hc w ro μ a hg hT hs hd b cs
 cases items with
 | cons i r=>exact hc.elim
 | nil=>exact ⟨a,w,_,.returning,⟨.ret,ds,T,H,ro,μ,h,rfl,hg,hT,hs,hd,Out.refl _ _ _ _⟩,.one step_end⟩
theorem RunsX.region {l:List AOper} {kl:List Nat} (h:OpsX P l ds T H (fun ds' T' H'=>RunsX P ks nt k ds' (T'.keep kl) H' K) fun v ds' T' H'=>K (.pan v) ds' T' H'):RunsX P ks nt (.code (.region false l kl)::k) ds T H K:=by
 intro items hc w ro μ a hg hT hs hd b cs
 obtain ⟨i,r,rfl,h1,h2⟩:=cis_cons hc
 obtain ⟨c,rfl,h3⟩:=ci_code h1
 obtain ⟨id,ops,rfl,h4,rfl⟩:=ccode_inv h3
 have hops:=opsX_sound l 0 (by simpa using h4) h hg hT hs hd
 rw [Nat.sub_zero,← List.range_eq_range'] at hops
 obtain ⟨e,a1,w1,⟨ds1,T1,H1,ro1,μ1,⟨rfl,k1⟩ | ⟨v,u,rfl,hv,k1⟩,k2,k3,k4,k5,k6⟩,harr⟩:=wp_ops _ a w hops b r cs
 ·obtain ⟨a',w',todo',m,hp,hsteps⟩:=k1 r h2 w1 ro1 μ1 a1 k2 (k3.keep _) k4 k5 b cs
  exact ⟨a',w',todo',m,hp.from k6,.head step_region (Steps.trans harr hsteps)⟩
 ·obtain ⟨todo,hst⟩:=harr
  exact ⟨a1,w1,todo,_,⟨.pan v,ds1,T1,H1,ro1,μ1,k1,⟨u,rfl,hv⟩,k2,k3,k4,k5,k6⟩,.head step_region hst⟩
theorem RunsX.mono {todo:List AItem} {K':AEnd→List ADef→Env→AHeap→Prop} (h:RunsX P ks nt todo ds T H K) (hk:∀ e d T' H',K e d T' H'→K' e d T' H'):RunsX P ks nt todo ds T H K':=by
 intro items hi w ro μ a hg hT hs hd b cs
 obtain ⟨a',w',todo',m,⟨e,d,T',H',ro',μ',h1,h2⟩,h3⟩:=h items hi w ro μ a hg hT hs hd b cs
 exact ⟨a',w',todo',m,⟨e,d,T',H',ro',μ',hk _ _ _ _ h1,h2⟩,h3⟩
def DRX (P:Program) (ks:Keeps) (nt:Nat) (todo:List AItem) (ds:List ADef) (T:Env) (H:AHeap) (Q:AEnd→List ADef→Env→AHeap→Prop):Prop:=
 ∃ e d T' H',Q e d T' H'∧RunsX P ks nt todo ds T H fun e1 d1 T1 H1=>e1=e∧d1=d∧T1=T'∧H1=H'
variable {Q:AEnd→List ADef→Env→AHeap→Prop}
theorem DRX.mono {todo:List AItem} {Q':AEnd→List ADef→Env→AHeap→Prop} (h:DRX P ks nt todo ds T H Q) (hq:∀ e d T' H',Q e d T' H'→Q' e d T' H'):DRX P ks nt todo ds T H Q':=let ⟨e,d,T',H',q,r⟩:=h; ⟨e,d,T',H',hq _ _ _ _ q,r⟩
theorem DRX.lift {todo todo':List AItem} {ds1:List ADef} {T1:Env} {H1:AHeap} (f:∀ K,RunsX P ks nt todo' ds1 T1 H1 K→RunsX P ks nt todo ds T H K) (h:DRX P ks nt todo' ds1 T1 H1 Q):DRX P ks nt todo ds T H Q:=let ⟨e,d,T',H',q,r⟩:=h; ⟨e,d,T',H',q,f _ r⟩
theorem DRX.skip (h:DRX P ks nt k ds T H Q):DRX P ks nt (.code .skip::k) ds T H Q:=h.lift fun _=>RunsX.skip
theorem DRX.label {l:Nat} (h:DRX P ks nt k ds T H Q):DRX P ks nt (.code (.label l)::k) ds T H Q:=h.lift fun _=>RunsX.label
theorem DRX.seq {x y:ACode} (h:DRX P ks nt (.code x::.code y::k) ds T H Q):DRX P ks nt (.code (.seq x y)::k) ds T H Q:=h.lift fun _=>RunsX.seq
theorem DRX.cond {u:AOpnd} {x y:ACode} {t:Bool} (hu:T.val u=some (.bool t)) (h:DRX P ks nt (.code (if t=true then x else y)::k) ds T H Q):DRX P ks nt (.code (.cond u x y)::k) ds T H Q:=h.lift fun _=>RunsX.cond hu
theorem DRX.yes {u:AOpnd} {x y:ACode} (hu:T.val u=some (.bool true)) (h:DRX P ks nt (.code x::k) ds T H Q):DRX P ks nt (.code (.cond u x y)::k) ds T H Q:=DRX.cond hu h
theorem DRX.no {u:AOpnd} {x y:ACode} (hu:T.val u=some (.bool false)) (h:DRX P ks nt (.code y::k) ds T H Q):DRX P ks nt (.code (.cond u x y)::k) ds T H Q:=DRX.cond hu h
theorem DRX.block {id:Nat} {x:ACode} (h:DRX P ks nt (.code x::.inBlock id::k) ds T H Q):DRX P ks nt (.code (.block id x)::k) ds T H Q:=h.lift fun _=>RunsX.block
theorem DRX.inBlock {id:Nat} (h:DRX P ks nt k ds T H Q):DRX P ks nt (.inBlock id::k) ds T H Q:=h.lift fun _=>RunsX.inBlock
theorem DRX.loop {x:ACode} (h:DRX P ks nt (.code x::.inLoop x::k) ds T H Q):DRX P ks nt (.code (.loop x)::k) ds T H Q:=h.lift fun _=>RunsX.loop
theorem DRX.inLoop {x:ACode} (h:DRX P ks nt (.code x::.inLoop x::k) ds T H Q):DRX P ks nt (.inLoop x::k) ds T H Q:=h.lift fun _=>RunsX.inLoop
theorem DRX.scope {x:ACode} (h:DRX P ks nt (.code x::.inScope x::k) ds T H Q):DRX P ks nt (.code (.scope x)::k) ds T H Q:=h.lift fun _=>RunsX.scope
theorem DRX.inScope {x:ACode} (h:DRX P ks nt k ds T H Q):DRX P ks nt (.inScope x::k) ds T H Q:=h.lift fun _=>RunsX.inScope
theorem DRX.exit {id:Nat} {k':List AItem} (he:aexitTo id k=some k') (h:DRX P ks nt k' ds T H Q):DRX P ks nt (.code (.exit id)::k) ds T H Q:=h.lift fun _=>RunsX.exit he
theorem DRX.goto {l:Nat} {k':List AItem} (he:agotoIn l k=some k') (h:DRX P ks nt k' ds T H Q):DRX P ks nt (.code (.goto l)::k) ds T H Q:=h.lift fun _=>RunsX.goto he
theorem DRX.ret (h:Q .ret ds T H):DRX P ks nt (.code .ret::k) ds T H Q:=⟨.ret,ds,T,H,h,RunsX.ret ⟨rfl,rfl,rfl,rfl⟩⟩
theorem DRX.done (h:Q .ret ds T H):DRX P ks nt [] ds T H Q:=⟨.ret,ds,T,H,h,RunsX.done ⟨rfl,rfl,rfl,rfl⟩⟩
theorem DRX.nm1 {k':List AItem}:∀ (k:List AItem),anm1 k=some k'→DRX P ks nt k' ds T H Q→DRX P ks nt k ds T H Q:=by
 intro k e h
 unfold anm1 at e
 split at e
 all_goals first
  | contradiction
  | (injection e with e; subst e; first | exact DRX.seq h | exact DRX.block h | exact DRX.skip h | exact DRX.inBlock h | exact DRX.scope h | exact DRX.inScope h | exact DRX.label h)
theorem DRX.nm' {k':List AItem}:∀ (n:Nat) (k:List AItem),anm n k=some k'→DRX P ks nt k' ds T H Q→DRX P ks nt k ds T H Q:=by
 intro n
 induction n with
 | zero=>intro k e h; injection e with e; subst e; exact h
 | succ n ih=>
  intro k e h
  simp only [anm] at e
  cases h1:anm1 k with
  | none=>rw [h1] at e; injection e with e; subst e; exact h
  | some k1=>rw [h1] at e; exact DRX.nm1 k h1 (ih k1 e h)
theorem DRX.nm {k k':List AItem} (e:anm 60 k=some k') (h:DRX P ks nt k' ds T H Q):DRX P ks nt k ds T H Q:=DRX.nm' 60 k e h
def DOpsX (P:Program):List AOper→List ADef→Env→AHeap→(List ADef→Env→AHeap→Prop)→(AVal→List ADef→Env→AHeap→Prop)→Prop
 | [],ds,T,H,K,R=>K ds T H
 | o::r,ds,T,H,K,R=>
  match wantedA T o.guard with
  | none=>False
  | some false=>DOpsX P r ds (T.put o.dst aundef) H K R
  | some true=>
   match astep o.op T H with
   | none=>False
   | some (.value v H')=>DOpsX P r ds (T.put o.dst v) H' K R
   | some (.enter f as)=>DCallX P f as H fun x H'=>match x with
    | .ret v=>DOpsX P r ds (T.put o.dst v) H' K R
    | .pan v=>R v ds T H'
   | some (.anyOf _)=>False
   | some (.pan v)=>R v ds T H
   | some (.dfr g as)=>DOpsX P r ((g,as)::ds) (T.put o.dst aundef) H K R
theorem DOpsX.out:∀ {l:List AOper} {ds:List ADef} {T:Env} {H:AHeap} {K:List ADef→Env→AHeap→Prop} {R:AVal→List ADef→Env→AHeap→Prop},DOpsX P l ds T H K R→
  (∃ d T' H',K d T' H'∧∀ (K':List ADef→Env→AHeap→Prop) R',K' d T' H'→OpsX P l ds T H K' R')∨∃ v d T' H',R v d T' H'∧∀ K' (R':AVal→List ADef→Env→AHeap→Prop),R' v d T' H'→OpsX P l ds T H K' R'
 | [],ds,T,H,K,R,h=>.inl ⟨ds,T,H,h,fun K' R' hk=>hk⟩
 | o::r,ds,T,H,K,R,h=>by
  simp only [DOpsX] at h
  simp only [OpsX]
  cases hw:wantedA T o.guard with
  | none=>rw [hw] at h; exact h.elim
  | some c=>
   rw [hw] at h
   cases c with
   | false=>exact h.out
   | true=>
    simp only at h ⊢
    cases hs:astep o.op T H with
    | none=>rw [hs] at h; exact h.elim
    | some nx=>
     rw [hs] at h
     cases nx with
     | value v H1=>exact h.out
     | anyOf _=>exact h.elim
     | pan v=>exact .inr ⟨v,ds,T,H,h,fun K' R' hr=>hr⟩
     | dfr g as=>exact h.out
     | enter f as=>
      obtain ⟨x,H',h,hc,hd⟩:=h
      cases x with
      | ret v=>
       rcases h.out with ⟨d,T',H2,q,hk⟩ | ⟨u,d,T',H2,q,hk⟩
       ·exact .inl ⟨d,T',H2,q,fun K' R' hK=>⟨hc,hd.mono fun a b ⟨e1,e2⟩=>by subst e1; subst e2; exact hk K' R' hK⟩⟩
       ·exact .inr ⟨u,d,T',H2,q,fun K' R' hK=>⟨hc,hd.mono fun a b ⟨e1,e2⟩=>by subst e1; subst e2; exact hk K' R' hK⟩⟩
      | pan v=>exact .inr ⟨v,ds,T,H',h,fun K' R' hr=>⟨hc,hd.mono fun a b ⟨e1,e2⟩=>by subst e1; subst e2; exact hr⟩⟩
theorem DRX.region {l:List AOper} {kl:List Nat} (h:DOpsX P l ds T H (fun ds' T' H'=>DRX P ks nt k ds' (T'.keep kl) H' Q) fun v ds' T' H'=>Q (.pan v) ds' T' H'):DRX P ks nt (.code (.region false l kl)::k) ds T H Q:=by
 rcases h.out with ⟨d,T1,H1,⟨e,d2,T2,H2,q,r⟩,hk⟩ | ⟨v,d,T1,H1,q,hk⟩
 ·exact ⟨e,d2,T2,H2,q,RunsX.region (hk _ _ r)⟩
 ·exact ⟨.pan v,d,T1,H1,q,RunsX.region (hk _ _ ⟨rfl,rfl,rfl,rfl⟩)⟩
end Go.Am
namespace Go.Am
open Go.RowKit
variable {P:Program} {ks:Keeps}
def CallD (P:Program) (g:FuncId) (as:List AVal) (m:AEnd) (H:AHeap) (K:AEnd→AHeap→Prop):Prop:=
 ∀ w ro μ (argv:Array Value) (u:FrameMode),Good P w ro μ H→VRs P w ro μ as argv.toList→modeR P w ro μ m u→
  CallsD P g argv u w fun e u' w'=>∃ v m' H' ro' μ',e = .returned v∧K m' H'∧modeR P w' ro' μ' m' (settle u')∧Good P w' ro' μ' H'∧Out w ro μ H w' ro' μ' H'
theorem CallD.mono {g:FuncId} {as:List AVal} {m:AEnd} {H:AHeap} {K K':AEnd→AHeap→Prop} (h:CallD P g as m H K) (hk:∀ r H',K r H'→K' r H'):CallD P g as m H K':=
 fun w ro μ argv u hg ha hm=>(h w ro μ argv u hg ha hm).mono fun e u' w' ⟨v,m',H',ro',μ',h1,h2,h3⟩=>⟨v,m',H',ro',μ',h1,hk _ _ h2,h3⟩
def XLeave (P:Program) (al:List ARes):List ADef→AEnd→Env→AHeap→(AOut→AHeap→Prop)→Prop
 | [],.ret,T,H,K=>∃ r,aresult H T al=some r∧K (.ret r) H
 | [],.pan v,T,H,K=>K (.pan v) H
 | (g,as)::ds,m,T,H,K=>Callable P g∧CallD P g as m H fun m' H'=>XLeave P al ds m' T H' K
theorem settle_mode {w:World} {ro:Nat→Prop} {μ:Mu} {m:AEnd} {u:FrameMode} (h:modeR P w ro μ m u):settle u=u∧u≠.run:=by
 cases m with
 | ret=>simp only [modeR] at h; subst h; exact ⟨rfl,by simp⟩
 | pan v=>obtain ⟨x,rfl,_⟩:=h; exact ⟨rfl,by simp⟩
theorem leaves_sound {fn:Func} {al:List ARes} (hal:cres P fn.results.toList=some al) {tmps:Array Value}:∀ (ds:List ADef) (m:AEnd) {T:Env} {H:AHeap} {K:AOut→AHeap→Prop},XLeave P al ds m T H K→
  ∀ {w:World} {ro:Nat→Prop} {μ:Mu} {vs:List Deferred} {u:FrameMode},Good P w ro μ H→TR P w ro μ T tmps→DefRs P w ro μ ds vs→modeR P w ro μ m u→
  Leaves P fn tmps (fun e w'=>∃ o H' ro' μ',K o H'∧OutR P w' ro' μ' o e∧Good P w' ro' μ' H'∧Out w ro μ H w' ro' μ' H') vs u w:=by
 intro ds
 induction ds with
 | nil=>
  intro m T H K h w ro μ vs u hg hT hd hm
  simp only [DefRs] at hd; subst hd
  cases m with
  | ret=>
   simp only [modeR] at hm; subst hm
   obtain ⟨r,hr,hk⟩:=h
   obtain ⟨x,hx,hv⟩:=aresult_sound hg hT hal hr
   exact ⟨x,hx,.ret r,H,ro,μ,hk,⟨x,rfl,hv⟩,hg,Out.refl _ _ _ _⟩
  | pan v=>
   obtain ⟨x,rfl,hv⟩:=hm
   exact ⟨.pan v,H,ro,μ,h,⟨x,rfl,hv⟩,hg,Out.refl _ _ _ _⟩
 | cons d ds ih=>
  intro m T H K h w ro μ vs u hg hT hd hm
  obtain ⟨g,as⟩:=d
  obtain ⟨v,r,rfl,⟨cap,h1,h2⟩,h3⟩:=hd
  obtain ⟨hcb,hcall⟩:=h
  obtain ⟨tg,args⟩:=v
  simp only at h1; subst h1
  refine ⟨(settle_mode hm).2,.func g,cap,g,args++cap,rfl,?_,?_⟩
  ·simp [invoke,callFunc_run hcb]
  ·refine (hcall w ro μ (args++cap) u hg h2 hm).mono ?_
   rintro e u' w1 ⟨x,m',H1,ro1,μ1,rfl,hk,hm1,hg1,ho1⟩
   have hx:=Out.ext hg ho1
   have key:=ih m' hk hg1 (hT.ext hx) (h3.ext hx) hm1
   have mono:∀ (ds:List Deferred) {R R':Ending→World→Prop} (u:FrameMode) (w:World),(∀ e w,R e w→R' e w)→Leaves P fn tmps R ds u w→Leaves P fn tmps R' ds u w:=by
    intro ds
    induction ds with
    | nil=>
     intro R R' u w hq h
     cases u with
     | run=>exact h.elim
     | returning=>obtain ⟨v,h1,h2⟩:=h; exact ⟨v,h1,hq _ _ h2⟩
     | panicking ch=>exact hq _ _ h
    | cons d ds ih=>
     intro R R' u w hq h
     obtain ⟨h1,fv,cap,f,args,h2,h3,h4⟩:=h
     refine ⟨h1,fv,cap,f,args,h2,h3,h4.mono fun e u' w' he=> ?_⟩
     cases e with
     | returned v=>exact ih _ _ hq he
     | panicked ch=>exact ih _ _ hq he
     | outgrown=>exact hq _ _ he
   exact mono _ _ _ (fun e w' ⟨o,H',ro',μ',k1,k2,k3,k4⟩=>⟨o,H',ro',μ',k1,k2,k3,ho1.trans k4⟩) key
theorem cfunc_inv {fn:Func} {af:AFunc} (hc:cfunc P ks fn=some af):∃ body,fn.body=some body∧ccode P ks fn.ntmps body=some af.body∧cres P fn.results.toList=some af.results∧af.ntmps=fn.ntmps:=by
 unfold cfunc at hc
 split at hc
 ·cases hc
 obtain ⟨body,hb,hc⟩:=bind_some hc
 obtain ⟨x,hx,hc⟩:=bind_some hc
 obtain ⟨al,hal,hc⟩:=bind_some hc
 injection hc with hc; subst hc
 exact ⟨body,hb,hx,hal,rfl⟩
theorem enter_TR {w:World} {ro:Nat→Prop} {μ:Mu} {H:AHeap} {args:List AVal} {argv:Array Value} (n:Nat) (hg:Good P w ro μ H) (ha:VRs P w ro μ args argv.toList):TR P w ro μ (envFrom 0 args) (argv++Array.replicate n undef):=by
 have hlen:=ha.len
 simp only [Array.length_toList] at hlen
 refine ⟨fun s v hv=> ?_,hg.glob⟩
 obtain ⟨_,h2⟩:=envFrom_get args 0 s v hv
 have hs:s < args.length:=(List.getElem?_eq_some_iff.1 h2).1
 have hs':s < argv.size:=by simp at h2; omega
 rw [Array.getD_eq_getD_getElem?,Array.getElem?_append_left hs']
 simp only [hs',Array.getElem?_eq_getElem,Option.getD_some]
 exact ((VRs_iff _ _).1 ha).2 s v _ (by simpa using h2) (by simp [hs'])
theorem CallX.of_body {f:FuncId} {fn:Func} {af:AFunc} (hf:P.funcs[f]? = some fn) (hc:cfunc P ks fn=some af) {args:List AVal} (hn:args.length≤af.ntmps) {H:AHeap} {K:AOut→AHeap→Prop}
  (h:RunsX P ks af.ntmps [.code af.body] [] (envFrom 0 args) H fun e ds T' H'=>XLeave P af.results ds e T' H' K):CallX P f args H K:=by
 obtain ⟨body,hb,hx,hal,hnt⟩:=cfunc_inv hc
 rw [hnt] at hn h
 rw [← hnt] at hx
 intro w ro μ argv hg ha cs
 have hlen:=ha.len
 simp only [Array.length_toList] at hlen
 have hT:=enter_TR (fn.ntmps - argv.size) hg ha
 let b:Frame:={ (default:Frame) with fn:=f,kind:=.normal }
 have henter:Frame.enter P f argv .normal=b.at { tmps:=argv++Array.replicate (fn.ntmps - argv.size) undef,defers:=[] } [.code body]:=by
  simp [Frame.enter,Frame.at,hf,hb,b]
 obtain ⟨a',w',todo',m,⟨e,ds,T',H',ro',μ',k1,k2,k3,k4,k5,k6,k7⟩,hsteps⟩:=h [.code body] ⟨by rw [hnt] at hx; exact hx,True.intro⟩ w ro μ { tmps:=argv++Array.replicate (fn.ntmps - argv.size) undef,defers:=[] } hg hT (by simp; omega) rfl b cs
 rw [← henter] at hsteps
 have hl:=leaves_sound hal ds e k1 k3 k4 k6 k2
 obtain ⟨e',w'',fr',⟨o,H2,ro2,μ2,q1,q2,q3,q4⟩,hs,hfn',hlv⟩:=leaves_steps a'.defers m w' { b.at a' todo' with mode:=m } cs rfl rfl rfl (by exact hf) rfl hl
 exact ⟨e',w'',fr',⟨o,H2,ro2,μ2,q1,q2,q3,k7.trans q4⟩,Comes.of_steps hsteps hs,hfn',hlv⟩
theorem CallD.of_body {f:FuncId} {fn:Func} {af:AFunc} (hf:P.funcs[f]? = some fn) (hc:cfunc P ks fn=some af) {args:List AVal} (hn:args.length≤af.ntmps) {m:AEnd} {H:AHeap} {K:AEnd→AHeap→Prop}
  (h:Runs P ks af.ntmps [.code af.body] (envFrom 0 args) H fun T' H'=>∃ r,aresult H' T' af.results=some r∧K m H'):CallD P f args m H K:=by
 obtain ⟨body,hb,hx,hal,hnt⟩:=cfunc_inv hc
 rw [hnt] at hn h
 rw [← hnt] at hx
 intro w ro μ argv u hg ha hm c cs hu
 have hlen:=ha.len
 simp only [Array.length_toList] at hlen
 have hT:=enter_TR (fn.ntmps - argv.size) hg ha
 let b:Frame:={ (default:Frame) with fn:=f,kind:=.deferred }
 have henter:Frame.enter P f argv .deferred=b.at { tmps:=argv++Array.replicate (fn.ntmps - argv.size) undef,defers:=[] } [.code body]:=by
  simp [Frame.enter,Frame.at,hf,hb,b]
 obtain ⟨a',w',todo',⟨T',H',ro',μ',⟨r,hr,hk⟩,k2,k3,k4,k5,k6⟩,hsteps⟩:=h [.code body] ⟨by rw [hnt] at hx; exact hx,True.intro⟩ w ro μ { tmps:=argv++Array.replicate (fn.ntmps - argv.size) undef,defers:=[] } hg hT (by simp; omega) rfl b (c::cs)
 rw [← henter] at hsteps
 obtain ⟨v,hv,_⟩:=aresult_sound k2 k3 hal hr
 have hcc:({ c with mode:=u }:Frame)=c:=by subst hu; rfl
 refine ⟨.returned v,u,w',{ b.at a' todo' with mode:=.returning },⟨v,m,H',ro',μ',rfl,hk,?_,k2,k6⟩,?_,rfl,rfl,k5,fn,hf,hv⟩
 ·rw [(settle_mode hm).1]; exact hm.ext (Out.ext hg k6)
 ·rw [hcc]; exact hsteps
def AEnd.told:AEnd→AVal
 | .ret=>.nili
 | .pan v=>v
def DCallD (P:Program) (g:FuncId) (as:List AVal) (m:AEnd) (H:AHeap) (Q:AEnd→AHeap→Prop):Prop:=∃ m' H',Q m' H'∧Callable P g∧CallD P g as m H fun a b=>a=m'∧b=H'
theorem DCallD.mono {g:FuncId} {as:List AVal} {m:AEnd} {H:AHeap} {Q Q':AEnd→AHeap→Prop} (h:DCallD P g as m H Q) (hq:∀ r H',Q r H'→Q' r H'):DCallD P g as m H Q':=let ⟨r,H',q,d⟩:=h; ⟨r,H',hq _ _ q,d⟩
def DLeave (P:Program) (al:List ARes):List ADef→AEnd→Env→AHeap→(AOut→AHeap→Prop)→Prop
 | [],.ret,T,H,K=>∃ r,aresult H T al=some r∧K (.ret r) H
 | [],.pan v,T,H,K=>K (.pan v) H
 | (g,as)::ds,m,T,H,K=>DCallD P g as m H fun m' H'=>DLeave P al ds m' T H' K
theorem DLeave.out {al:List ARes}:∀ (ds:List ADef) (m:AEnd) {T:Env} {H:AHeap} {K:AOut→AHeap→Prop},DLeave P al ds m T H K→∃ o H',K o H'∧XLeave P al ds m T H fun a b=>a=o∧b=H'
 | [],.ret,T,H,K,⟨r,h1,h2⟩=>⟨.ret r,H,h2,r,h1,rfl,rfl⟩
 | [],.pan v,T,H,K,h=>⟨.pan v,H,h,rfl,rfl⟩
 | (g,as)::ds,m,T,H,K,⟨m',H',h,hc,hd⟩=>by
  obtain ⟨o,H2,hk,hl⟩:=DLeave.out ds m' h
  exact ⟨o,H2,hk,hc,hd.mono fun a b ⟨e1,e2⟩=>by subst e1; subst e2; exact hl⟩
theorem DCallX.of_body {f : FuncId} {fn : Func} {af : AFunc} (hf : P.funcs[f]? = some fn) (hc : cfunc P ks fn = some af) (hb : (fn.body.isSome && fn.name != "runtime.NumGoroutine") = true) {args : List AVal} (hn : args.length ≤ af.ntmps) {H : AHeap} {K : AOut → AHeap → Prop}
  (h:DRX P ks af.ntmps [.code af.body] [] (envFrom 0 args) H fun e ds T' H'=>DLeave P af.results ds e T' H' K):DCallX P f args H K:=by
 obtain ⟨e,ds,T',H',hl,hruns⟩:=h
 obtain ⟨o,H2,hk,hx⟩:=DLeave.out ds e hl
 rw [Bool.and_eq_true,bne_iff_ne] at hb
 exact ⟨o,H2,hk,⟨fn,hf,hb.1,hb.2⟩,CallX.of_body hf hc hn (hruns.mono fun e1 d1 T1 H1 ⟨e2,e3,e4,e5⟩=>by subst e2; subst e3; subst e4; subst e5; exact hx)⟩
theorem DCallD.of_body {f : FuncId} {fn : Func} {af : AFunc} (hf : P.funcs[f]? = some fn) (hc : cfunc P ks fn = some af) (hb : (fn.body.isSome && fn.name != "runtime.NumGoroutine") = true) {args : List AVal} (hn : args.length ≤ af.ntmps) {m : AEnd} {H : AHeap} {K : AEnd → AHeap → Prop}
  (h:DR P ks af.ntmps [.code af.body] (envFrom 0 args) H fun T' H'=>∃ r,aresult H' T' af.results=some r∧K m H'):DCallD P f args m H K:=by
 obtain ⟨T',H',⟨r,hr,hk⟩,hruns⟩:=h
 rw [Bool.and_eq_true,bne_iff_ne] at hb
 exact ⟨m,H',hk,⟨fn,hf,hb.1,hb.2⟩,CallD.of_body hf hc hn (hruns.mono fun a b ⟨e1,e2⟩=>by subst e1; subst e2; exact ⟨r,hr,rfl,rfl⟩)⟩
def onX (x:Option ANext) (p:AVal→AHeap→Prop) (q:FuncId→List AVal→Prop) (a:AVal→Prop) (d:FuncId→List AVal→Prop) (z1:Frz p) (z2:Frz q) (z3:Frz a) (z4:Frz d):Prop:=match x with
 | none=>False
 | some (.value v H)=>p v H
 | some (.enter f as)=>q f as
 | some (.anyOf l)=>False
 | some (.pan v)=>a v
 | some (.dfr g as)=>d g as
def DCX (P:Program) (f:FuncId) (as:List AVal) (H:AHeap) (K:AVal→AHeap→Prop) (z:Frz K) (R:AVal→AHeap→Prop) (y:Frz R):Prop:=DCallX P f as H fun x H'=>match x with
 | .ret v=>K v H'
 | .pan v=>R v H'
def DOX (P:Program):List AOper→List ADef→Env→AHeap→(K:List ADef→Env→AHeap→Prop)→Frz K→(R:AVal→List ADef→Env→AHeap→Prop)→Frz R→Prop
 | [],ds,T,H,K,_,R,_=>K ds T H
 | o::r,ds,T,H,K,z,R,y=>onW (wantedA T o.guard) (DOX P r ds (T.put o.dst aundef) H K z R y) (onX (astep o.op T H) (fun v H'=>DOX P r ds (T.put o.dst v) H' K z R y) (fun f as=>DCX P f as H (fun v H'=>DOX P r ds (T.put o.dst v) H' K z R y) .mk (fun v H'=>R v ds T H') .mk) (fun v=>R v ds T H) (fun g as=>DOX P r ((g,as)::ds) (T.put o.dst aundef) H K z R y) .mk .mk .mk .mk) .mk .mk
theorem DOX.run:∀ {l:List AOper} {ds:List ADef} {T:Env} {H:AHeap} {K:List ADef→Env→AHeap→Prop} {z:Frz K} {R:AVal→List ADef→Env→AHeap→Prop} {y:Frz R},DOX P l ds T H K z R y→DOpsX P l ds T H K R
 | [],ds,T,H,K,z,R,y,h=>h
 | o::r,ds,T,H,K,z,R,y,h=>by
  simp only [DOX] at h
  simp only [DOpsX]
  cases hw:wantedA T o.guard with
  | none=>rw [hw] at h; exact h
  | some b=>
   rw [hw] at h
   cases b with
   | false=>exact DOX.run h
   | true=>
    simp only [onW] at h ⊢
    cases hs:astep o.op T H with
    | none=>rw [hs] at h; exact h
    | some x=>
     rw [hs] at h
     cases x with
     | value v H1=>exact DOX.run h
     | enter f as=>
      refine DCallX.mono h fun x H' h=> ?_
      cases x with
      | ret v=>exact DOX.run h
      | pan v=>exact h
     | anyOf l=>exact h
     | pan v=>exact h
     | dfr g as=>exact DOX.run h
def AtX (P:Program) (ks:Keeps) (nt:Nat) (k:List AItem) (ds:List ADef) (T:Env) (H:AHeap) (Q:AEnd→List ADef→Env→AHeap→Prop) (z1:Frz k) (z2:Frz Q):Prop:=DRX P ks nt k ds T H Q
theorem DRX.ops {nt:Nat} {k:List AItem} {ds:List ADef} {T:Env} {H:AHeap} {Q:AEnd→List ADef→Env→AHeap→Prop} {l:List AOper} {kl:List Nat} (h:DOX P l ds T H (fun ds' T' H'=>AtX P ks nt k ds' (T'.keep kl) H' Q .mk .mk) .mk (fun v ds' T' H'=>Q (.pan v) ds' T' H') .mk):DRX P ks nt (.code (.region false l kl)::k) ds T H Q:=
 DRX.region (DOX.run h)
end Go.Am
namespace Go.Am
open Go.RowKit
section
variable {P:Program} {ks:Keeps} {nt:Nat} {k:List AItem} {ds:List ADef} {T:Env} {H:AHeap} {K:AEnd→List ADef→Env→AHeap→Prop}
theorem RunsX.ofLine {l:List AOper} {kl:List Nat} (hm:P.follows .mixedOrders=true) {ms:List Nat} (hk:okDraw l ms=true) {st:Nat→Env × AHeap} (hl:Line P ms l st l.length) (h0':st 0=(T,H)) (hfin:RunsX P ks nt k ds ((st l.length).1.keep kl) (st l.length).2 K) :
  RunsX P ks nt (.code (.region true l kl)::k) ds T H K:=by
 intro items hc w ro μ a hg hT hs hd b cs
 obtain ⟨i,r,rfl,h1,h2⟩:=cis_cons hc
 obtain ⟨c,rfl,h3⟩:=ci_code h1
 obtain ⟨id,ops,rfl,h4,rfl⟩:=ccode_inv h3
 obtain ⟨hlen,_⟩:=copers_at h4
 have hlen':ops.size=l.length:=by rw [← hlen]; simp
 have hwp:(Code.region id ops true).wp P (fun e a' w'=>e = .normal∧Mid P nt a.defers l st w ro μ (fun i=>i < l.length) a' w') a w:=by
  refine wp_region_any hm (draw_any h4 hk hl (fun a w h=>⟨rfl,h⟩) ops.size _ (List.range l.length) a _ (by simp [hlen']) (fun i hi _=>List.mem_range.mpr hi) (by simp [hlen']) ?_)
  have hfalse:∀ i,¬ ((Array.replicate ops.size false).getD i false=true):=by
   intro i hi
   simp only [Array.getD_eq_getD_getElem?,Array.getElem?_replicate] at hi
   split at hi <;> simp at hi
  have hx:Ext w ro μ { w with drawn:=w.drawn+1 } ro μ:=⟨fun _ h=>h,fun _ _ _ h=>h,fun _ _=>rfl,fun _ c _ fr h=>⟨c,fr,h,rfl⟩⟩
  refine ⟨fun i o ho hi=>absurd hi (hfalse i),0,fun _=>0,ro,μ,Nat.zero_le _,fun _=>Nat.zero_le _,fun e o _ _=>⟨fun hi=>absurd hi (hfalse e),fun h=>absurd h (Nat.not_lt_zero _)⟩,fun e o s _ _=>⟨fun hi=>absurd hi (hfalse e),fun h=>absurd h (Nat.not_lt_zero _)⟩,?_,?_,hs,rfl,?_⟩
  ·rw [h0']; exact hg.drawn _
  ·intro s v hv
   rw [h0'] at hv
   exact (hT.val s v hv).ext hx _ _
  ·rw [h0']; exact Out.drawn _ _ _ _ _
 obtain ⟨e,a1,w1,⟨he,hmid⟩,harr⟩:=hwp b r cs
 subst he
 obtain ⟨hd1,p,q,ro1,μ1,hp,hq,hE,hW,hg1,hT1,hs1,hdf1,hout1⟩:=hmid
 have hH:(st l.length).2=(st p).2:=hl.heap' hp (Nat.le_refl _) fun i o h1 h2 ho=>by
  cases hqo:o.op.quiet with
  | true=>rfl
  | false=>have:=(hE i o ho hqo).mp h2; omega
 have hTT:TR P w1 ro1 μ1 (st l.length).1 a1.tmps:=⟨fun s v hv=>hT1 s v (by
  rw [← hl.get' (s:=s) (hq s) (Nat.le_refl _) fun i o h1 h2 ho hds=>by have:=(hW i o s ho hds).mp h2; omega]
  exact hv),hg1.glob⟩
 rw [← hH] at hg1 hout1
 rw [h0'] at hout1
 have hd2:DefRs P w1 ro1 μ1 ds a1.defers:=by rw [hdf1]; exact hd.ext (Out.ext hg hout1)
 obtain ⟨a',w',todo',m,hp',hsteps⟩:=hfin r h2 w1 ro1 μ1 a1 hg1 (hTT.keep _) hs1 hd2 b cs
 exact ⟨a',w',todo',m,hp'.from hout1,Steps.trans harr hsteps⟩
end
structure LineB (P:Program) (ms:List Nat) (l:List AOper) (st:Nat→Env × AHeap) (p:Nat):Prop where
 step:∀ i o,i < l.length→l[i]? = some o→i≠p→(ms.getD i 0).testBit p=false→StepD P o (st i).1 (st i).2 (st (i+1)).1 (st (i+1)).2
 dead:∀ i o,i < l.length→l[i]? = some o→(i=p∨(ms.getD i 0).testBit p=true)→st (i+1)=((st i).1.put o.dst aundef,(st i).2)
 late:∀ (j e:Nat) q o v,j < e→e < l.length→e≠p→(ms.getD e 0).testBit p=false→l[j]? = some q→l[e]? = some o→j≠p→(ms.getD j 0).testBit p=false→q.op.quiet=true→q.op.reads=true→wantedA (st j).1 q.guard=some true→astep q.op (st j).1 (st j).2=some (.value v (st j).2)→
  o.op.quiet=false→wantedA (st e).1 o.guard=some true→(ms.getD e 0).testBit j=true∨astep q.op (st j).1 (st (e+1)).2=some (.value v (st (e+1)).2)
 soon:∀ (j e:Nat) q o v,e < j→j < l.length→e≠p→(ms.getD e 0).testBit p=false→l[j]? = some q→l[e]? = some o→j≠p→(ms.getD j 0).testBit p=false→q.op.quiet=true→q.op.reads=true→wantedA (st j).1 q.guard=some true→astep q.op (st j).1 (st j).2=some (.value v (st j).2)→
  o.op.quiet=false→wantedA (st e).1 o.guard=some true→(ms.getD j 0).testBit e=true∨astep q.op (st j).1 (st e).2=some (.value v (st e).2)
section
variable {P:Program} {ms:List Nat} {l:List AOper} {st:Nat→Env × AHeap} {p:Nat}
theorem LineB.get1 (hl:LineB P ms l st p) {i:Nat} {o:AOper} (hi:i < l.length) (ho:l[i]? = some o) {s:Nat} (hs:o.dst≠some s):(st (i+1)).1.get s=(st i).1.get s:=by
 by_cases h:i=p∨(ms.getD i 0).testBit p=true
 ·rw [hl.dead i o hi ho h]
  cases hd:o.dst with
  | none=>rfl
  | some d=>
   simp only [Env.put,Env.get_set]
   rw [if_neg (fun e=>hs (by rw [hd,e]))]
 ·exact (hl.step i o hi ho (fun e=>h (.inl e)) (by simpa using fun e=>h (.inr e))).get hs
theorem LineB.get (hl:LineB P ms l st p) {s:Nat}:∀ (d i0:Nat),i0+d≤l.length→(∀ i o,i0≤i→i < i0+d→l[i]? = some o→o.dst≠some s)→(st (i0+d)).1.get s=(st i0).1.get s
 | 0,_,_,_=>rfl
 | d+1,i0,hp,hn=>by
  have hlt:i0+d < l.length:=by omega
  have ho:=List.getElem?_eq_getElem hlt
  have:=hl.get1 hlt ho (hn (i0+d) _ (by omega) (by omega) ho)
  rw [show i0+(d+1)=i0+d+1 by omega,this]
  exact LineB.get hl d i0 (by omega) fun i o h1 h2=>hn i o h1 (by omega)
theorem LineB.get' (hl:LineB P ms l st p) {s i0 q:Nat} (hpq:i0≤q) (hq:q≤l.length) (hn:∀ i o,i0≤i→i < q→l[i]? = some o→o.dst≠some s):(st q).1.get s=(st i0).1.get s:=by
 have:=hl.get (s:=s) (q - i0) i0 (by omega) (fun i o h1 h2=>hn i o h1 (by omega))
 rwa [show i0+(q - i0)=q by omega] at this
theorem LineB.heap1 (hl:LineB P ms l st p) {i:Nat} {o:AOper} (hi:i < l.length) (ho:l[i]? = some o) (h:o.op.quiet=true∨i=p∨(ms.getD i 0).testBit p=true∨wantedA (st i).1 o.guard=some false):(st (i+1)).2=(st i).2:=by
 by_cases hd:i=p∨(ms.getD i 0).testBit p=true
 ·rw [hl.dead i o hi ho hd]
 ·refine (hl.step i o hi ho (fun e=>hd (.inl e)) (by simpa using fun e=>hd (.inr e))).heap ?_
  rcases h with h | h | h | h
  ·exact .inl h
  ·exact absurd (.inl h) hd
  ·exact absurd (.inr h) hd
  ·exact .inr h
theorem LineB.heap (hl:LineB P ms l st p):∀ (d i0:Nat),i0+d≤l.length→(∀ i o,i0≤i→i < i0+d→l[i]? = some o→o.op.quiet=true)→(st (i0+d)).2=(st i0).2
 | 0,_,_,_=>rfl
 | d+1,i0,hp,hn=>by
  have hlt:i0+d < l.length:=by omega
  have ho:=List.getElem?_eq_getElem hlt
  have:=hl.heap1 hlt ho (.inl (hn (i0+d) _ (by omega) (by omega) ho))
  rw [show i0+(d+1)=i0+d+1 by omega,this]
  exact LineB.heap hl d i0 (by omega) fun i o h1 h2=>hn i o h1 (by omega)
theorem LineB.heap' (hl:LineB P ms l st p) {i0 q:Nat} (hpq:i0≤q) (hq:q≤l.length) (hn:∀ i o,i0≤i→i < q→l[i]? = some o→o.op.quiet=true):(st q).2=(st i0).2:=by
 have:=hl.heap (q - i0) i0 (by omega) (fun i o h1 h2=>hn i o h1 (by omega))
 rwa [show i0+(q - i0)=q by omega] at this
theorem LineB.later (hl:LineB P ms l st p) {j:Nat} {q:AOper} {v:AVal} (hj:l[j]? = some q) (hjp:j≠p) (hjb:(ms.getD j 0).testBit p=false) (hq:q.op.quiet=true) (hw:wantedA (st j).1 q.guard=some true) (hv:astep q.op (st j).1 (st j).2=some (.value v (st j).2)) :
  ∀ (d:Nat),j+d≤l.length→(∀ (e:Nat) o,j < e→e < j+d→l[e]? = some o→o.op.quiet=false→(ms.getD e 0).testBit j=false)→astep q.op (st j).1 (st (j+d)).2=some (.value v (st (j+d)).2)
 | 0,_,_=>hv
 | d+1,hd,hn=>by
  by_cases hr:q.op.reads=true
  ·have hlt:j+d < l.length:=by omega
   have ho:=List.getElem?_eq_getElem hlt
   have ih:=LineB.later hl hj hjp hjb hq hw hv d (by omega) fun e o h1 h2=>hn e o h1 (by omega)
   rw [show j+(d+1)=j+d+1 by omega]
   by_cases hdd:j+d=p∨(ms.getD (j+d) 0).testBit p=true
   ·rw [hl.dead _ _ hlt ho hdd]; exact ih
   ·have hstep:=hl.step (j+d) _ hlt ho (fun e=>hdd (.inl e)) (by simpa using fun e=>hdd (.inr e))
    by_cases hqo:(l[j+d]).op.quiet=true∨wantedA (st (j+d)).1 (l[j+d]).guard=some false
    ·rw [hstep.heap hqo]; exact ih
    ·have hq1:(l[j+d]).op.quiet=false:=by
      cases h:(l[j+d]).op.quiet with
      | false=>rfl
      | true=>exact absurd (.inl h) hqo
     have hw1:wantedA (st (j+d)).1 (l[j+d]).guard=some true:=hstep.wanted.resolve_right fun h=>hqo (.inr h)
     have hd0:0 < d:=by
      rcases Nat.eq_zero_or_pos d with h | h
      ·subst h
       have e:=hj.symm.trans ho
       injection e with e
       have e':l[j+0]=q:=e.symm
       rw [e',hq] at hq1; cases hq1
      ·exact h
     have:=hl.late j (j+d) q _ v (by omega) hlt (fun e=>hdd (.inl e)) (by simpa using fun e=>hdd (.inr e)) hj ho hjp hjb hq hr hw hv hq1 hw1
     rw [hn (j+d) _ (by omega) (by omega) ho hq1] at this
     exact this.resolve_left (by simp)
  ·exact astep_noread hq (by simpa using hr) hv _
theorem LineB.earlier (hl:LineB P ms l st p) {j:Nat} {q:AOper} {v:AVal} (hj:l[j]? = some q) (hjp:j≠p) (hjb:(ms.getD j 0).testBit p=false) (hq:q.op.quiet=true) (hw:wantedA (st j).1 q.guard=some true) (hv:astep q.op (st j).1 (st j).2=some (.value v (st j).2)) :
  ∀ (d i0:Nat),i0+d=j→(∀ (e:Nat) o,i0≤e→e < j→l[e]? = some o→o.op.quiet=false→(ms.getD j 0).testBit e=false)→astep q.op (st j).1 (st i0).2=some (.value v (st i0).2)
 | 0,i0,hp,_=>by
  obtain rfl:i0=j:=(by omega)
  exact hv
 | d+1,i0,hp,hn=>by
  by_cases hr:q.op.reads=true
  ·have hjl:j < l.length:=(List.getElem?_eq_some_iff.mp hj).1
   have hlt:i0 < l.length:=by omega
   have ho:=List.getElem?_eq_getElem hlt
   have ih:=LineB.earlier hl hj hjp hjb hq hw hv d (i0+1) (by omega) fun e o h1 h2=>hn e o (by omega) h2
   by_cases hdd:i0=p∨(ms.getD i0 0).testBit p=true
   ·rw [hl.dead _ _ hlt ho hdd] at ih; exact ih
   ·have hstep:=hl.step i0 _ hlt ho (fun e=>hdd (.inl e)) (by simpa using fun e=>hdd (.inr e))
    by_cases hqo:(l[i0]).op.quiet=true∨wantedA (st i0).1 (l[i0]).guard=some false
    ·rw [hstep.heap hqo] at ih; exact ih
    ·have hq1:(l[i0]).op.quiet=false:=by
      cases h:(l[i0]).op.quiet with
      | false=>rfl
      | true=>exact absurd (.inl h) hqo
     have hw1:wantedA (st i0).1 (l[i0]).guard=some true:=hstep.wanted.resolve_right fun h=>hqo (.inr h)
     have:=hl.soon j i0 q _ v (by omega) hjl (fun e=>hdd (.inl e)) (by simpa using fun e=>hdd (.inr e)) hj ho hjp hjb hq hr hw hv hq1 hw1
     rw [hn i0 _ (by omega) (by omega) ho hq1] at this
     exact this.resolve_left (by simp)
  ·exact astep_noread hq (by simpa using hr) hv _
end
def Pans (P:Program) (o:AOper) (T:Env) (H:AHeap) (R:AVal→AHeap→Prop):Prop:=
 wantedA T o.guard=some true∧∃ f as,astep o.op T H=some (.enter f as)∧Callable P f∧CallX P f as H fun x H'=>∃ v,x = .pan v∧R v H'
theorem Mid.goB {P:Program} {nt:Nat} {dv:List Deferred} {ms:List Nat} {l:List AOper} {st:Nat→Env × AHeap} {ops:Array Oper} {p0:Nat} {op0:AOper} {R:AVal→AHeap→Prop} (hc:copers P nt ops ops.toList=some l) (hk:okDraw l ms=true) (hl:LineB P ms l st p0) (hop0:l[p0]? = some op0) (hpan:Pans P op0 (st p0).1 (st p0).2 R)
  {w0:World} {ro0:Nat→Prop} {μ0:Mu} {S:Nat→Prop} {a:Act} {w:World} (hm:Mid P nt dv l st w0 ro0 μ0 S a w) (hnp:¬ S p0) {i:Nat} {o:Oper} {ao:AOper} (ho:ops[i]? = some o) (hao:l[i]? = some ao) (hco:coper P nt ops o=some ao)
  (hS:¬ S i) (hr:∀ j ∈ ao.after,S j) {Q:Exit→Act→World→Prop} {K:Act→World→Prop} (hQ:∀ v u H' ro' μ' a' w',VR P w' ro' μ' v u→R v H'→Good P w' ro' μ' H'→a'.tmps.size=nt→a'.defers=dv→Out w0 ro0 μ0 (st 0).2 w' ro' μ' H'→Q (.panic [{ v:=u,recovered:=false }]) a' w')
  (hK0:∀ a w,Mid P nt dv l st w0 ro0 μ0 (fun j=>j=i∨S j) a w→¬ (p0=i∨S p0)→K a w):wpOp P ops Q i K a w:=by
 obtain ⟨hd,p,q,ro,μ,hp,hq,hE,hW,hg,hT,hs,hdf,hout⟩:=hm
 obtain ⟨h1,h2,h3,h4⟩:=coper_inv hco
 obtain ⟨k1,k2,k3⟩:=okDraw_at hk hao
 have hil:i < l.length:=(List.getElem?_eq_some_iff.mp hao).1
 have hfor:∀ {j},(ms.getD i 0).testBit j=true→S j:=fun hj=>hd.bit hk hao hr hj
 have hback:∀ {j o'},l[j]? = some o'→(ms.getD j 0).testBit i=true→¬ S j:=fun {j o'} hj hb hSj=>hS (hd.bit hk hj (fun k hk'=>hd j o' hj hSj k hk') hb)
 have hslot:∀ s ∈ ao.slots,(st (q s)).1.get s=(st i).1.get s:=by
  intro s hsl
  rcases Nat.lt_or_ge (q s) i with hlt | hge
  ·refine (hl.get' (Nat.le_of_lt hlt) (Nat.le_of_lt hil) fun j o' hj1 hj2 hj hds=> ?_).symm
   have hns:¬ S j:=fun h=>by have:=(hW j o' s hj hds).mp h; omega
   rcases k3 j o' hj2 hj with hb | hb
   ·exact hns (hfor hb)
   ·exact (apart_inv hb).1 s hds hsl
  ·refine hl.get' hge (hq s) fun j o' hj1 hj2 hj hds=> ?_
   have hSj:S j:=(hW j o' s hj hds).mpr hj2
   rcases Nat.lt_or_ge i j with hij | hij
   ·rcases (okDraw_at hk hj).2.2 i ao hij hao with hb | hb
    ·exact hback hj hb hSj
    ·exact (apart_inv hb).2.2.1 s hds hsl
   ·have hji:j=i:=by omega
    rw [hji] at hSj; exact hS hSj
 have hTi:TR P w ro μ ((st i).1.keep ao.slots) a.tmps:=⟨fun s v hv=>by
  obtain ⟨b1,b2⟩:=Env.keep_in _ _ _ _ hv
  exact hT s v (by rw [hslot s b1]; exact b2),hg.glob⟩
 have hval:∀ x ∈ ao.op.opnds,((st i).1.keep ao.slots).val x=(st i).1.val x:=by
  intro x hx
  cases x with
  | c v=>rfl
  | t s=>exact Env.keep_get _ _ _ (List.mem_append_left _ (List.mem_flatMap.mpr ⟨_,hx,List.mem_singleton.mpr rfl⟩))
 have hgd:wantedA ((st i).1.keep ao.slots) ao.guard=wantedA (st i).1 ao.guard:=by
  cases hgu:ao.guard with
  | none=>rfl
  | some gb=>
   obtain ⟨g,b⟩:=gb
   have:g ∈ ao.slots:=List.mem_append_right _ (by rw [hgu]; exact List.mem_singleton.mpr rfl)
   simp only [wantedA,Env.keep_get _ _ _ this]
 have hdown':Down l (fun j=>j=i∨S j):=by
  intro j o' hj hSj k hk'
  rcases hSj with rfl | hSj
  ·rw [hao] at hj; cases hj; exact .inr (hr k hk')
  ·exact .inr (hd j o' hj hSj k hk')
 have hW':∀ (j:Nat) o' s,l[j]? = some o'→o'.dst=some s→((j=i∨S j)↔j < (if ao.dst=some s then i+1 else q s)):=by
  intro j o' s hj hds
  by_cases hsi:ao.dst=some s
  ·rw [if_pos hsi]
   rcases Nat.lt_trichotomy j i with hji | hji | hji
   ·refine ⟨fun _=>by omega,fun _=>.inr ?_⟩
    rcases k3 j o' hji hj with hb | hb
    ·exact hfor hb
    ·exact absurd hsi ((apart_inv hb).2.1 s hds)
   ·exact ⟨fun _=>by omega,fun _=>.inl hji⟩
   ·refine ⟨fun h=> ?_,fun h=>by omega⟩
    have hSj:S j:=h.resolve_left (by omega)
    rcases (okDraw_at hk hj).2.2 i ao hji hao with hb | hb
    ·exact absurd hSj (hback hj hb)
    ·exact absurd hds ((apart_inv hb).2.1 s hsi)
  ·rw [if_neg hsi]
   have hne:j≠i:=by rintro rfl; rw [hao] at hj; cases hj; exact hsi hds
   rw [← hW j o' s hj hds]
   exact ⟨fun h=>h.resolve_left hne,.inr⟩
 have hq':∀ s,(if ao.dst=some s then i+1 else q s)≤l.length:=fun s=>by split <;> first | exact hil | exact hq s
 have hTT:∀ {w1:World} {ro1:Nat→Prop} {μ1:Mu} {v:AVal} {v':Value},(∀ s u,(st (q s)).1.get s=some u→VR P w1 ro1 μ1 u (a.tmps.getD s undef))→VR P w1 ro1 μ1 v v'→(st (i+1)).1=(st i).1.put ao.dst v→
   (∀ s u,(st (if ao.dst=some s then i+1 else q s)).1.get s=some u→VR P w1 ro1 μ1 u ((a.put o.dst v').tmps.getD s undef))∧(a.put o.dst v').tmps.size=nt∧(a.put o.dst v').defers=dv:=by
  intro w1 ro1 μ1 v v' hT1 hv he
  rw [← h3]
  rw [← h3] at h4
  cases hds:ao.dst with
  | none=>exact ⟨fun s u hu=>hT1 s u (by simpa using hu),hs,hdf⟩
  | some d=>
   rw [hds] at h4 he
   simp only [dstOk,decide_eq_true_eq] at h4
   refine ⟨fun s u hu=> ?_,by simp [Act.put,hs],by simp [Act.put,hdf]⟩
   by_cases hsd:s=d
   ·subst hsd
    rw [if_pos rfl,he] at hu
    simp only [Env.put,Env.get_set,if_true] at hu
    cases hu
    simp only [Act.put,Array.getD_eq_getD_getElem?,Array.getElem?_setIfInBounds,if_true,hs,h4]
    exact hv
   ·rw [if_neg (by simpa using Ne.symm hsd)] at hu
    have:=hT1 s u hu
    simp only [Act.put,Array.getD_eq_getD_getElem?,Array.getElem?_setIfInBounds,if_neg (Ne.symm hsd)] at this ⊢
    exact this
 have hget:ops[i]? = some o:=ho
 simp only [wpOp,hget]
 by_cases hip:i=p0
 ·subst hip
  rw [hao] at hop0; injection hop0 with hop0; subst hop0
  obtain ⟨hw,f,as,hsv,hcb,hcall⟩:=hpan
  have hwt:=wantedA_sound hTi h2 (hgd.trans hw)
  simp only [hwt,if_true]
  have hcong:∀ H,astep ao.op ((st i).1.keep ao.slots) H=astep ao.op (st i).1 H:=fun H=>astep_congr _ _ hval
  have hqt:=enter_quiet hsv
  have hEi:∀ (e:Nat) o',l[e]? = some o'→o'.op.quiet=false→e < i→S e:=by
   intro e o' he hqe hei
   rcases k3 e o' hei he with hb | hb
   ·exact hfor hb
   ·rcases (apart_inv hb).2.2.2 with h | h
    ·rw [hqe] at h; cases h
    ·rw [hqt] at h; cases h
  have hpi:p≤i:=by
   rcases Nat.lt_or_ge i p with h | h
   ·exact absurd ((hE i ao hao hqt).mpr h) hS
   ·exact h
  have hheap:(st i).2=(st p).2:=hl.heap' hpi (Nat.le_of_lt hil) fun j o' hj1 hj2 hj=>by
   cases hqj:o'.op.quiet with
   | true=>rfl
   | false=>have:=(hE j o' hj hqj).mp (hEi j o' hj hqj hj2); omega
  rw [hheap] at hsv hcall
  obtain ⟨args,hrun,hargs⟩:=cop_enter (w:=w) hTi h1 ((hcong _).trans hsv) hcb
  refine .inl ?_
  unfold Oper.wp
  rw [hrun]
  show Calls P f args w _
  refine (hcall w ro μ args hg hargs).mono ?_
  rintro e w1 ⟨x,H1,ro1,μ1,⟨v,rfl,hRv⟩,⟨u,rfl,hv⟩,hg1,ho1⟩
  exact hQ v u H1 ro1 μ1 a w1 hv hRv hg1 hs hdf (hout.trans ho1)
 have hal:(ms.getD i 0).testBit p0=false:=by
  cases hb:(ms.getD i 0).testBit p0 with
  | false=>rfl
  | true=>exact absurd (hfor hb) hnp
 have hstep:=hl.step i ao hil hao hip hal
 have hK:∀ a w,Mid P nt dv l st w0 ro0 μ0 (fun j=>j=i∨S j) a w→K a w:=fun a w h=>hK0 a w h fun e=>e.elim (fun e=>hip e.symm) hnp
 rcases hstep.wanted with hw | hw
 ·
  have hwt:=wantedA_sound hTi h2 (hgd.trans hw)
  simp only [hwt,if_true]
  have hcong:∀ H,astep ao.op ((st i).1.keep ao.slots) H=astep ao.op (st i).1 H:=fun H=>astep_congr _ _ hval
  cases hqt:ao.op.quiet with
  | true=>
   have hst0:=hstep
   simp only [StepD,hw] at hst0
   cases hsv:astep ao.op (st i).1 (st i).2 with
   | none=>rw [hsv] at hst0; exact hst0.elim
   | some nx=>
    obtain ⟨v,rfl⟩:=astep_quiet hqt hsv
    rw [hsv] at hst0
    obtain ⟨e1,e2⟩:=hst0
    have hsee:astep ao.op (st i).1 (st p).2=some (.value v (st p).2):=by
     rcases Nat.lt_or_ge p i with hlt | hge
     ·refine hl.earlier hao hip hal hqt hw hsv (i - p) p (by omega) fun e o' he1 he2 he hqe=> ?_
      cases hb:(ms.getD i 0).testBit e with
      | false=>rfl
      | true=>have:=(hE e o' he hqe).mp (hfor hb); omega
     ·have:=hl.later hao hip hal hqt hw hsv (p - i) (by omega) fun e o' he1 he2 he hqe=>by
       cases hb:(ms.getD e 0).testBit i with
       | false=>rfl
       | true=>exact absurd ((hE e o' he hqe).mpr (by omega)) (hback he hb)
      rwa [show i+(p - i)=p by omega] at this
    obtain ⟨v',w1,ro1,μ1,hrun,hv,hg1,ho1⟩:=cop_sound hg hTi h1 ((hcong _).trans hsee)
    have hx:=Out.ext hg ho1
    obtain ⟨t1,t2,t3⟩:=hTT (fun s u hu=>(hT s u hu).ext hx _ _) hv e1
    have hmid:Mid P nt dv l st w0 ro0 μ0 (fun j=>j=i∨S j) (a.put o.dst v') w1:=
     ⟨hdown',p,_,ro1,μ1,hp,hq',fun e o' he hqe=>by
      have hne:e≠i:=by rintro rfl; rw [hao] at he; cases he; rw [hqt] at hqe; cases hqe
      rw [← hE e o' he hqe]; exact ⟨fun h=>h.resolve_left hne,.inr⟩,hW',hg1,t1,t2,t3,hout.trans ho1⟩
    refine .inl ?_
    unfold Oper.wp
    rcases hrun with hrun | ⟨hrun,rfl⟩
    ·rw [hrun]; exact hK _ _ hmid
    ·rw [hrun]; exact hK _ _ hmid
  | false=>
   have hEi:∀ (e:Nat) o',l[e]? = some o'→o'.op.quiet=false→e < i→S e:=by
    intro e o' he hqe hei
    rcases k3 e o' hei he with hb | hb
    ·exact hfor hb
    ·rcases (apart_inv hb).2.2.2 with h | h
     ·rw [hqe] at h; cases h
     ·rw [hqt] at h; cases h
   have hEi':∀ (e:Nat) o',l[e]? = some o'→o'.op.quiet=false→i < e→¬ S e:=by
    intro e o' he hqe hei
    rcases (okDraw_at hk he).2.2 i ao hei hao with hb | hb
    ·exact hback he hb
    ·rcases (apart_inv hb).2.2.2 with h | h
     ·rw [hqt] at h; cases h
     ·rw [hqe] at h; cases h
   have hpi:p≤i:=by
    rcases Nat.lt_or_ge i p with h | h
    ·exact absurd ((hE i ao hao hqt).mpr h) hS
    ·exact h
   have hheap:(st i).2=(st p).2:=hl.heap' hpi (Nat.le_of_lt hil) fun j o' hj1 hj2 hj=>by
    cases hqj:o'.op.quiet with
    | true=>rfl
    | false=>have:=(hE j o' hj hqj).mp (hEi j o' hj hqj hj2); omega
   have hE':∀ (e:Nat) o',l[e]? = some o'→o'.op.quiet=false→((e=i∨S e)↔e < i+1):=by
    intro e o' he hqe
    rcases Nat.lt_trichotomy e i with h | h | h
    ·exact ⟨fun _=>by omega,fun _=>.inr (hEi e o' he hqe h)⟩
    ·exact ⟨fun _=>by omega,fun _=>.inl h⟩
    ·exact ⟨fun hh=>absurd (hh.resolve_left (by omega)) (hEi' e o' he hqe h),fun hh=>by omega⟩
   have hst0:=hstep
   simp only [StepD,hw] at hst0
   cases hsv:astep ao.op (st i).1 (st i).2 with
   | none=>rw [hsv] at hst0; exact hst0.elim
   | some nx=>
    rw [hsv] at hst0
    rw [hheap] at hsv
    cases nx with
    | anyOf _=>exact hst0.elim
    | pan _=>exact hst0.elim
    | dfr _ _=>exact hst0.elim
    | value v H1=>
     obtain ⟨e1,e2⟩:=hst0
     obtain ⟨v',w1,ro1,μ1,hrun,hv,hg1,ho1⟩:=cop_sound hg hTi h1 ((hcong _).trans hsv)
     have hx:=Out.ext hg ho1
     obtain ⟨t1,t2,t3⟩:=hTT (fun s u hu=>(hT s u hu).ext hx _ _) hv e1
     rw [← e2] at hg1 ho1
     have hmid:Mid P nt dv l st w0 ro0 μ0 (fun j=>j=i∨S j) (a.put o.dst v') w1:=
      ⟨hdown',i+1,_,ro1,μ1,hil,hq',hE',hW',hg1,t1,t2,t3,hout.trans ho1⟩
     refine .inl ?_
     unfold Oper.wp
     rcases hrun with hrun | ⟨hrun,rfl⟩
     ·rw [hrun]; exact hK _ _ hmid
     ·rw [hrun]; exact hK _ _ hmid
    | enter f as=>
     obtain ⟨r,⟨hcb,hcall⟩,e1⟩:=hst0
     rw [hheap] at hcall
     obtain ⟨args,hrun,hargs⟩:=cop_enter (w:=w) hTi h1 ((hcong _).trans hsv) hcb
     refine .inl ?_
     unfold Oper.wp
     rw [hrun]
     show Calls P f args w _
     refine (hcall w ro μ args hg hargs).mono ?_
     rintro e w1 ⟨v',r1,H1,ro1,μ1,rfl,⟨rfl,rfl⟩,hv,hg1,ho1⟩
     have hx:=Out.ext hg ho1
     obtain ⟨t1,t2,t3⟩:=hTT (fun s u hu=>(hT s u hu).ext hx _ _) hv e1
     exact hK _ _ ⟨hdown',i+1,_,ro1,μ1,hil,hq',hE',hW',hg1,t1,t2,t3,hout.trans ho1⟩
 ·
  have hwt:=wantedA_sound hTi h2 (hgd.trans hw)
  simp only [hwt,Bool.false_eq_true,if_false]
  have hst0:=hstep
  simp only [StepD,hw] at hst0
  obtain ⟨e1,e2⟩:=hst0
  obtain ⟨t1,t2,t3⟩:=hTT hT (v:=aundef) (v':=undef) ⟨#[],rfl,rfl⟩ e1
  refine hK _ _ ?_
  cases hqt:ao.op.quiet with
  | true=>
   exact ⟨hdown',p,_,ro,μ,hp,hq',fun e o' he hqe=>by
      have hne:e≠i:=by rintro rfl; rw [hao] at he; cases he; rw [hqt] at hqe; cases hqe
      rw [← hE e o' he hqe]; exact ⟨fun h=>h.resolve_left hne,.inr⟩,hW',hg,t1,t2,t3,hout⟩
  | false=>
   have hEi:∀ (e:Nat) o',l[e]? = some o'→o'.op.quiet=false→e < i→S e:=by
    intro e o' he hqe hei
    rcases k3 e o' hei he with hb | hb
    ·exact hfor hb
    ·rcases (apart_inv hb).2.2.2 with h | h
     ·rw [hqe] at h; cases h
     ·rw [hqt] at h; cases h
   have hEi':∀ (e:Nat) o',l[e]? = some o'→o'.op.quiet=false→i < e→¬ S e:=by
    intro e o' he hqe hei
    rcases (okDraw_at hk he).2.2 i ao hei hao with hb | hb
    ·exact hback he hb
    ·rcases (apart_inv hb).2.2.2 with h | h
     ·rw [hqt] at h; cases h
     ·rw [hqe] at h; cases h
   have hpi:p≤i:=by
    rcases Nat.lt_or_ge i p with h | h
    ·exact absurd ((hE i ao hao hqt).mpr h) hS
    ·exact h
   have hheap:(st i).2=(st p).2:=hl.heap' hpi (Nat.le_of_lt hil) fun j o' hj1 hj2 hj=>by
    cases hqj:o'.op.quiet with
    | true=>rfl
    | false=>have:=(hE j o' hj hqj).mp (hEi j o' hj hqj hj2); omega
   have hE':∀ (e:Nat) o',l[e]? = some o'→o'.op.quiet=false→((e=i∨S e)↔e < i+1):=by
    intro e o' he hqe
    rcases Nat.lt_trichotomy e i with h | h | h
    ·exact ⟨fun _=>by omega,fun _=>.inr (hEi e o' he hqe h)⟩
    ·exact ⟨fun _=>by omega,fun _=>.inl h⟩
    ·exact ⟨fun hh=>absurd (hh.resolve_left (by omega)) (hEi' e o' he hqe h),fun hh=>by omega⟩
   rw [hheap] at e2
   exact ⟨hdown',i+1,_,ro,μ,hil,hq',hE',hW',by rw [e2]; exact hg,t1,t2,t3,by rw [e2]; exact hout⟩
theorem draw_anyB {P:Program} {nt:Nat} {dv:List Deferred} {ms:List Nat} {l:List AOper} {st:Nat→Env × AHeap} {ops:Array Oper} {p0:Nat} {op0:AOper} {R:AVal→AHeap→Prop} (hc:copers P nt ops ops.toList=some l) (hk:okDraw l ms=true) (hl:LineB P ms l st p0) (hop0:l[p0]? = some op0) (hpan:Pans P op0 (st p0).1 (st p0).2 R)
  {w0:World} {ro0:Nat→Prop} {μ0:Mu} {Q:Exit→Act→World→Prop} (hQ:∀ v u H' ro' μ' a' w',VR P w' ro' μ' v u→R v H'→Good P w' ro' μ' H'→a'.tmps.size=nt→a'.defers=dv→Out w0 ro0 μ0 (st 0).2 w' ro' μ' H'→Q (.panic [{ v:=u,recovered:=false }]) a' w') :
  ∀ (fuel:Nat) (listed:Array Bool) (rem:List Nat) (a:Act) (w:World),listed.size=l.length→(∀ i,i < l.length→listed.getD i false=false→i ∈ rem)→rem.length≤fuel→Mid P nt dv l st w0 ro0 μ0 (fun i=>listed.getD i false=true) a w→¬ (listed.getD p0 false=true)→wpAny P .any ops Q fuel listed a w:=by
 obtain ⟨hlen,hat⟩:=copers_at hc
 have hlen':ops.size=l.length:=by rw [← hlen]; simp
 have aft:∀ {i:Nat} {o:Oper} {ao:AOper},ops[i]? = some o→l[i]? = some ao→coper P nt ops o=some ao∧ao.after=(o.after.toList.filter (Region.binds .any)).map (·.on):=by
  intro i o ao ho hao
  obtain ⟨ao',h1,h2⟩:=hat i o (by simpa using ho)
  rw [hao] at h1; cases h1
  exact ⟨h2,coper_after h2⟩
 have gd:∀ (listed:Array Bool) (i:Nat) (b:Bool),i < listed.size→listed.getD i b=listed.getD i false:=by
  intro listed i b hi
  simp [Array.getD_eq_getD_getElem?,hi]
 have done:∀ (listed:Array Bool) (a:Act) (w:World),listed.size=l.length→Mid P nt dv l st w0 ro0 μ0 (fun i=>listed.getD i false=true) a w→¬ (listed.getD p0 false=true)→Region.ready .any ops listed=[]→Q .normal a w:=by
  intro listed a w hsz hm hnp hr
  have all:∀ i,i < l.length→listed.getD i false=true:=by
   intro i
   induction i using Nat.strongRecOn with
   | ind i ih=>
    intro hi
    cases hb:listed.getD i false with
    | true=>rfl
    | false=>
     have hio:i < ops.size:=by omega
     have ho:ops[i]? = some ops[i]:=by simp [hio]
     have hao:=List.getElem?_eq_getElem hi
     obtain ⟨a1,a2⟩:=aft ho hao
     have:i ∈ Region.ready .any ops listed:=ready_mem ((gd listed i true (by omega)).trans hb) ho fun j hj=>by
      rw [← a2] at hj
      have hji:=(okDraw_at hk hao).1 j hj
      exact ih j hji (by omega)
     rw [hr] at this; cases this
  exact absurd (all p0 (List.getElem?_eq_some_iff.mp hop0).1) hnp
 have step:∀ (listed:Array Bool) (a:Act) (w:World),listed.size=l.length→Mid P nt dv l st w0 ro0 μ0 (fun i=>listed.getD i false=true) a w→¬ (listed.getD p0 false=true)→∀ i ∈ Region.ready .any ops listed,∀ {K:Act→World→Prop},
   (∀ a w,Mid P nt dv l st w0 ro0 μ0 (fun j=>(listed.setIfInBounds i true).getD j false=true) a w→¬ ((listed.setIfInBounds i true).getD p0 false=true)→K a w)→wpOp P ops Q i K a w:=by
  intro listed a w hsz hm hnp i hi K hK
  obtain ⟨h1,h2,o,ho,h3⟩:=mem_ready hi
  have hil:i < l.length:=by omega
  have hao:=List.getElem?_eq_getElem hil
  obtain ⟨a1,a2⟩:=aft ho hao
  have hSi:¬ (listed.getD i false=true):=by rw [← gd listed i true (by omega),h2]; simp
  refine hm.goB hc hk hl hop0 hpan hnp ho hao a1 hSi (by rw [a2]; exact h3) hQ fun a w hmid hne=>hK a w (hmid.congr (fun j o' hj=> ?_) fun i o ho=>(okDraw_at hk ho).1) fun hx=>hne ?_
  rotate_left
  ·by_cases hpi:p0=i
   ·exact .inl hpi
   ·simp only [Array.getD_eq_getD_getElem?,Array.getElem?_setIfInBounds,if_neg (Ne.symm hpi)] at hx ⊢
    exact .inr hx
  by_cases hji:j=i
  ·subst hji
   simp [Array.getD_eq_getD_getElem?,Array.getElem?_setIfInBounds,hsz,hil]
  ·simp [Array.getD_eq_getD_getElem?,Array.getElem?_setIfInBounds,Ne.symm hji,hji]
 intro fuel
 induction fuel with
 | zero=>
  intro listed rem a w hsz hrem hle hm hnp
  have hnil:rem=[]:=List.length_eq_zero_iff.mp (by omega)
  have hr:Region.ready .any ops listed=[]:=by
   cases hR:Region.ready .any ops listed with
   | nil=>rfl
   | cons x xs=>
    obtain ⟨h1,h2,_⟩:=mem_ready (i:=x) (by rw [hR]; exact List.mem_cons_self)
    have:=hrem x (by omega) (by rw [← gd listed x true (by omega)]; exact h2)
    rw [hnil] at this; cases this
  exact ⟨hr,done listed a w hsz hm hnp hr⟩
 | succ fuel ih=>
  intro listed rem a w hsz hrem hle hm hnp
  refine ⟨done listed a w hsz hm hnp,fun i hi=>step listed a w hsz hm hnp i hi fun a' w' hm' hnp'=> ?_⟩
  obtain ⟨h1,h2,_⟩:=mem_ready hi
  have him:i ∈ rem:=hrem i (by omega) (by rw [← gd listed i true (by omega)]; exact h2)
  refine ih _ (rem.erase i) a' w' (by simp [hsz]) (fun j hj hlj=> ?_) (by rw [List.length_erase_of_mem him]; omega) hm' hnp'
  have hne:j≠i:=by
   rintro rfl
   simp [Array.getD_eq_getD_getElem?,Array.getElem?_setIfInBounds,hsz,hj] at hlj
  refine (List.mem_erase_of_ne hne).mpr (hrem j hj ?_)
  simpa [Array.getD_eq_getD_getElem?,Array.getElem?_setIfInBounds,Ne.symm hne] using hlj
section
variable {P:Program} {ks:Keeps} {nt:Nat} {k:List AItem} {ds:List ADef} {T:Env} {H:AHeap} {K:AEnd→List ADef→Env→AHeap→Prop}
theorem RunsX.ofLineB {l:List AOper} {kl:List Nat} (hm:P.follows .mixedOrders=true) {ms:List Nat} (hk:okDraw l ms=true) {st:Nat→Env × AHeap} {p0:Nat} {op0:AOper} {R:AVal→AHeap→Prop} (hl:LineB P ms l st p0) (hop0:l[p0]? = some op0) (hpan:Pans P op0 (st p0).1 (st p0).2 R) (h0':st 0=(T,H)) (hR:∀ v H',R v H'→K (.pan v) ds [] H') :
  RunsX P ks nt (.code (.region true l kl)::k) ds T H K:=by
 intro items hc w ro μ a hg hT hs hd b cs
 obtain ⟨i,r,rfl,h1,h2⟩:=cis_cons hc
 obtain ⟨c,rfl,h3⟩:=ci_code h1
 obtain ⟨id,ops,rfl,h4,rfl⟩:=ccode_inv h3
 obtain ⟨hlen,_⟩:=copers_at h4
 have hlen':ops.size=l.length:=by rw [← hlen]; simp
 have hwp:(Code.region id ops true).wp P (fun e a' w'=>∃ v u H' ro' μ',e = .panic [{ v:=u,recovered:=false }]∧VR P w' ro' μ' v u∧R v H'∧Good P w' ro' μ' H'∧a'.tmps.size=nt∧a'.defers=a.defers∧Out w ro μ (st 0).2 w' ro' μ' H') a w:=by
  have hfalse:∀ i,¬ ((Array.replicate ops.size false).getD i false=true):=by
   intro i hi
   simp only [Array.getD_eq_getD_getElem?,Array.getElem?_replicate] at hi
   split at hi <;> simp at hi
  refine wp_region_any hm (draw_anyB (dv:=a.defers) h4 hk hl hop0 hpan (fun v u H' ro' μ' a' w' q1 q2 q3 q4 q5 q6=>⟨v,u,H',ro',μ',rfl,q1,q2,q3,q4,q5,q6⟩) ops.size _ (List.range l.length) a _ (by simp [hlen']) (fun i hi _=>List.mem_range.mpr hi) (by simp [hlen']) ?_ (hfalse p0))
  have hx:Ext w ro μ { w with drawn:=w.drawn+1 } ro μ:=⟨fun _ h=>h,fun _ _ _ h=>h,fun _ _=>rfl,fun _ c _ fr h=>⟨c,fr,h,rfl⟩⟩
  refine ⟨fun i o ho hi=>absurd hi (hfalse i),0,fun _=>0,ro,μ,Nat.zero_le _,fun _=>Nat.zero_le _,fun e o _ _=>⟨fun hi=>absurd hi (hfalse e),fun h=>absurd h (Nat.not_lt_zero _)⟩,fun e o s _ _=>⟨fun hi=>absurd hi (hfalse e),fun h=>absurd h (Nat.not_lt_zero _)⟩,?_,?_,hs,rfl,?_⟩
  ·rw [h0']; exact hg.drawn _
  ·intro s v hv
   rw [h0'] at hv
   exact (hT.val s v hv).ext hx _ _
  ·rw [h0']; exact Out.drawn _ _ _ _ _
 obtain ⟨e,a1,w1,⟨v,u,H1,ro1,μ1,rfl,q1,q2,q3,q4,q5,q6⟩,todo,hst⟩:=hwp b r cs
 rw [h0'] at q6
 have hd2:DefRs P w1 ro1 μ1 ds a1.defers:=by rw [q5]; exact hd.ext (Out.ext hg q6)
 exact ⟨a1,w1,todo,_,⟨.pan v,ds,[],H1,ro1,μ1,hR v H1 q2,⟨u,rfl,q1⟩,q3,⟨fun s v hv=>(by cases hv),q3.glob⟩,q4,hd2,q6⟩,hst⟩
end
end Go.Am
namespace Go.Am
open Go.RowKit
def RB (ms:List Nat) (p:Nat):Nat→List AOper→(hs:List (Nat × AHeap))→Frz hs→Env→AHeap→Prop
 | _,[],_,_,_,_=>True
 | i,o::r,hs,y,T,H=>onB (abit (ms.getD i 0) p) (RB ms p (i+1) r hs y (T.put o.dst aundef) H)
   (onB o.op.quiet (onW (wantedA T o.guard) (RB ms p (i+1) r hs y (T.put o.dst aundef) H)
    (onX (astep o.op T H) (fun v H'=>onB o.op.reads (seesAll (ms.getD i 0) o.op T v hs∧RB ms p (i+1) r hs y (T.put o.dst v) H) (RB ms p (i+1) r hs y (T.put o.dst v) H) .mk .mk) (fun _ _=>False) (fun _=>False) (fun _ _=>False) .mk .mk .mk .mk) .mk .mk) False .mk .mk) .mk .mk
def DSX (P:Program) (ms:List Nat):Nat→List AOper→(hs:List (Nat × AHeap))→Frz hs→(rs:List Seen)→Frz rs→Env→AHeap→(K:Env→AHeap→Prop)→Frz K→(R:AVal→AHeap→Prop)→Frz R→Prop
 | _,[],_,_,_,_,T,H,K,_,_,_=>K T H
 | i,o::r,hs,y1,rs,y2,T,H,K,z,R,y=>
  onW (wantedA T o.guard) (DSX P ms (i+1) r hs y1 rs y2 (T.put o.dst aundef) H K z R y) (onX (astep o.op T H)
   (fun v H'=>onB o.op.quiet (onB o.op.reads (seesAll (ms.getD i 0) o.op T v hs∧DSX P ms (i+1) r hs y1 (⟨i,o.op,T,v⟩::rs) .mk (T.put o.dst v) H K z R y) (DSX P ms (i+1) r hs y1 rs y2 (T.put o.dst v) H K z R y) .mk .mk)
    (staysAll (ms.getD i 0) H' rs∧DSX P ms (i+1) r ((i,H)::hs) .mk rs y2 (T.put o.dst v) H' K z R y) .mk .mk)
   (fun f as=>DCX P f as H (fun v H'=>staysAll (ms.getD i 0) H' rs∧DSX P ms (i+1) r ((i,H)::hs) .mk rs y2 (T.put o.dst v) H' K z R y) .mk (fun v H'=>R v H'∧RB ms i (i+1) r hs y1 (T.put o.dst aundef) H) .mk)
   (fun _=>False) (fun _ _=>False) .mk .mk .mk .mk) .mk .mk
theorem DetX.det {P:Program} {f:FuncId} {as:List AVal} {H:AHeap} {v:AVal} {H':AHeap} (h:DetX P f as H (.ret v) H'):Det P f as H v H':=by
 refine ⟨h.1,fun w ro μ argv hg ha=>(h.2 w ro μ argv hg ha).mono fun e w' ⟨o,H1,ro',μ',⟨h1,h2⟩,h3,h4,h5⟩=> ?_⟩
 subst h1; subst h2
 obtain ⟨u,h6,h7⟩:=h3
 exact ⟨u,v,H1,ro',μ',h6,⟨rfl,rfl⟩,h7,h4,h5⟩
structure HalfB (P:Program) (ms:List Nat) (l:List AOper) (st:Nat→Env × AHeap) (p m:Nat) (hs:List (Nat × AHeap)):Prop where
 lt:p < m
 step:∀ i o,i < m→l[i]? = some o→i≠p→(ms.getD i 0).testBit p=false→StepD P o (st i).1 (st i).2 (st (i+1)).1 (st (i+1)).2
 dead:∀ i o,i < m→l[i]? = some o→(i=p∨(ms.getD i 0).testBit p=true)→st (i+1)=((st i).1.put o.dst aundef,(st i).2)
 late:∀ (j e:Nat) q o v,j < e→e < m→e≠p→(ms.getD e 0).testBit p=false→l[j]? = some q→l[e]? = some o→j≠p→(ms.getD j 0).testBit p=false→q.op.quiet=true→q.op.reads=true→wantedA (st j).1 q.guard=some true→astep q.op (st j).1 (st j).2=some (.value v (st j).2)→
  o.op.quiet=false→wantedA (st e).1 o.guard=some true→(ms.getD e 0).testBit j=true∨astep q.op (st j).1 (st (e+1)).2=some (.value v (st (e+1)).2)
 soon:∀ (j e:Nat) q o v,e < j→j < m→e≠p→(ms.getD e 0).testBit p=false→l[j]? = some q→l[e]? = some o→j≠p→(ms.getD j 0).testBit p=false→q.op.quiet=true→q.op.reads=true→wantedA (st j).1 q.guard=some true→astep q.op (st j).1 (st j).2=some (.value v (st j).2)→
  o.op.quiet=false→wantedA (st e).1 o.guard=some true→(ms.getD j 0).testBit e=true∨astep q.op (st j).1 (st e).2=some (.value v (st e).2)
 hs:∀ e o,e < m→e≠p→(ms.getD e 0).testBit p=false→l[e]? = some o→o.op.quiet=false→wantedA (st e).1 o.guard=some true→(e,(st e).2) ∈ hs
section
variable {P:Program} {ms:List Nat} {l:List AOper} {p:Nat} {hs:List (Nat × AHeap)}
theorem HalfB.snoc {st:Nat→Env × AHeap} {i:Nat} (h:HalfB P ms l st p i hs) {o:AOper} (ho:l[i]? = some o) {T T1:Env} {H:AHeap} (hst:st i=(T,H))
  (hd:(ms.getD i 0).testBit p=true→T1=T.put o.dst aundef)
  (ha:(ms.getD i 0).testBit p=false→o.op.quiet=true∧StepD P o T H T1 H∧∀ v,o.op.reads=true→wantedA T o.guard=some true→astep o.op T H=some (.value v H)→∀ q ∈ hs,(ms.getD i 0).testBit q.1=true∨astep o.op T q.2=some (.value v q.2)) :
  HalfB P ms l (fun j=>if j≤i then st j else (T1,H)) p (i+1) hs:=by
 have e0:∀ j,j≤i→(if j≤i then st j else (T1,H))=st j:=fun j hj=>if_pos hj
 have e1:(if i+1≤i then st (i+1) else (T1,H))=(T1,H):=if_neg (by omega)
 have hT:(st i).1=T:=by rw [hst]
 have hH:(st i).2=H:=by rw [hst]
 have hpi:=h.lt
 refine ⟨by omega,fun j x hj hx hjp hjb=> ?_,fun j x hj hx hdd=> ?_,fun j e q x v a1 a2 a3 a4 a5 a6 a7 a8 a9 a10 a11 a12 a13 a14=> ?_,fun j e q x v a1 a2 a3 a4 a5 a6 a7 a8 a9 a10 a11 a12 a13 a14=> ?_,fun e x a1 a2 a3 a4 a5 a6=> ?_⟩
 ·rcases Nat.lt_or_ge j i with hji | hji
  ·rw [e0 j (by omega),e0 (j+1) (by omega)]; exact h.step j x hji hx hjp hjb
  ·obtain rfl:j=i:=by omega
   rw [ho] at hx; cases hx
   simp only [Nat.le_refl,if_true,e1,hT,hH]
   exact (ha hjb).2.1
 ·rcases Nat.lt_or_ge j i with hji | hji
  ·rw [e0 j (by omega),e0 (j+1) (by omega)]; exact h.dead j x hji hx hdd
  ·obtain rfl:j=i:=by omega
   rw [ho] at hx; cases hx
   have hb:=hdd.resolve_left (by omega)
   show (if j+1≤j then st (j+1) else (T1,H))=_
   rw [e1,e0 j (Nat.le_refl _),hT,hH,hd hb]
 ·rcases Nat.lt_or_ge e i with hei | hei
  ·rw [e0 j (by omega),e0 e (by omega)] at *
   rw [e0 (e+1) (by omega)]
   exact h.late j e q x v a1 hei a3 a4 a5 a6 a7 a8 a9 a10 a11 a12 a13 a14
  ·obtain rfl:e=i:=by omega
   rw [ho] at a6; cases a6
   rw [(ha a4).1] at a13; cases a13
 ·rcases Nat.lt_or_ge j i with hji | hji
  ·rw [e0 j (by omega),e0 e (by omega)] at *
   exact h.soon j e q x v a1 hji a3 a4 a5 a6 a7 a8 a9 a10 a11 a12 a13 a14
  ·obtain rfl:j=i:=by omega
   rw [ho] at a5; cases a5
   simp only [Nat.le_refl,if_true,hT,hH] at a11 a12 ⊢
   rw [e0 e (by omega)] at a14 ⊢
   have hm:=h.hs e x a1 a3 a4 a6 a13 a14
   exact (ha a8).2.2 v a10 a11 a12 _ hm
 ·rcases Nat.lt_or_ge e i with hei | hei
  ·rw [e0 e (by omega)] at a6 ⊢
   exact h.hs e x hei a2 a3 a4 a5 a6
  ·obtain rfl:e=i:=by omega
   rw [ho] at a4; cases a4
   rw [(ha a3).1] at a5; cases a5
theorem HalfB.fill:∀ (r:List AOper) (i:Nat) (y:Frz hs) (T:Env) (H:AHeap),l.drop i=r→i≤l.length→RB ms p i r hs y T H→∀ st,HalfB P ms l st p i hs→st i=(T,H)→
  ∃ st',LineB P ms l st' p∧∀ j,j≤i→st' j=st j
 | [],i,y,T,H,hd,hi,hr,st,h,hst=>by
  have hlen:l.length≤i:=List.drop_eq_nil_iff.mp hd
  obtain rfl:i=l.length:=by omega
  exact ⟨st,⟨h.step,h.dead,h.late,h.soon⟩,fun j hj=>rfl⟩
 | o::r,i,y,T,H,hd,hi,hr,st,h,hst=>by
  have hlt:i < l.length:=by
   rcases Nat.lt_or_ge i l.length with h | h
   ·exact h
   ·rw [List.drop_eq_nil_of_le h] at hd; cases hd
  have hcons:=List.drop_eq_getElem_cons hlt
  rw [hd] at hcons
  obtain ⟨e1,e2⟩:=List.cons.inj hcons
  have ho:l[i]? = some o:=by rw [List.getElem?_eq_getElem hlt,e1]
  have go:∀ {T1:Env},HalfB P ms l (fun j=>if j≤i then st j else (T1,H)) p (i+1) hs→RB ms p (i+1) r hs y T1 H→∃ st',LineB P ms l st' p∧∀ j,j≤i→st' j=st j:=by
   intro T1 h1 h2
   obtain ⟨st',d1,d2⟩:=HalfB.fill r (i+1) y T1 H e2.symm (by omega) h2 _ h1 (if_neg (by omega))
   exact ⟨st',d1,fun j hj=>(d2 j (by omega)).trans (if_pos hj)⟩
  simp only [RB] at hr
  rw [abit_eq] at hr
  cases hb:(ms.getD i 0).testBit p with
  | true=>
   rw [hb] at hr
   simp only [onB] at hr
   exact go (h.snoc ho hst (fun _=>rfl) (fun h=>absurd (hb.symm.trans h) (by simp))) hr
  | false=>
   rw [hb] at hr
   simp only [onB] at hr
   cases hq:o.op.quiet with
   | false=>rw [hq] at hr; exact hr.elim
   | true=>
    rw [hq] at hr
    simp only at hr
    cases hw:wantedA T o.guard with
    | none=>rw [hw] at hr; exact hr.elim
    | some b=>
     rw [hw] at hr
     cases b with
     | false=>exact go (h.snoc ho hst (fun h=>absurd (hb.symm.trans h) (by simp)) fun _=>⟨hq,by simp [StepD,hw],fun v _ h=>by rw [hw] at h; cases h⟩) hr
     | true=>
      simp only [onW] at hr
      cases hs1:astep o.op T H with
      | none=>rw [hs1] at hr; exact hr.elim
      | some x=>
       rw [hs1] at hr
       obtain ⟨v,rfl⟩:=astep_quiet hq hs1
       simp only [onX] at hr
       cases hre:o.op.reads with
       | false=>
        rw [hre] at hr
        exact go (h.snoc ho hst (fun h=>absurd (hb.symm.trans h) (by simp)) fun _=>⟨hq,by simp [StepD,hw,hs1],fun v h=>by rw [hre] at h; cases h⟩) hr
       | true=>
        rw [hre] at hr
        obtain ⟨k1,k2⟩:=hr
        refine go (h.snoc ho hst (fun h=>absurd (hb.symm.trans h) (by simp)) fun _=>⟨hq,by simp [StepD,hw,hs1],fun u _ _ hu=> ?_⟩) k2
        rw [hs1] at hu; cases hu
        intro q hq
        rw [← abit_eq]
        exact seesAll_iff k1 q hq
end
theorem DSX.line {P:Program} {ms:List Nat} {l:List AOper} (hk:okDraw l ms=true) {K:Env→AHeap→Prop} {R:AVal→AHeap→Prop}:∀ (r:List AOper) (i:Nat) (hs:List (Nat × AHeap)) (y1:Frz hs) (rs:List Seen) (y2:Frz rs) (T:Env) (H:AHeap) (z:Frz K) (y:Frz R),l.drop i=r→i≤l.length→DSX P ms i r hs y1 rs y2 T H K z R y→
  ∀ st,Line P ms l st i→Acc l st i hs rs→st i=(T,H)→
  (∃ st',Line P ms l st' l.length∧K (st' l.length).1 (st' l.length).2∧(∀ j,j≤i→st' j=st j))∨
  ∃ st' p op v H',LineB P ms l st' p∧l[p]? = some op∧Pans P op (st' p).1 (st' p).2 (fun a b=>a=v∧b=H')∧R v H'∧∀ j,j≤i→st' j=st j
 | [],i,hs,y1,rs,y2,T,H,z,y,hd,hi,hr,st,hl,ha,hst=>by
  have hlen:l.length≤i:=List.drop_eq_nil_iff.mp hd
  obtain rfl:i=l.length:=by omega
  refine .inl ⟨st,hl,?_,fun j hj=>rfl⟩
  rw [hst]; exact hr
 | o::r,i,hs,y1,rs,y2,T,H,z,y,hd,hi,hr,st,hl,ha,hst=>by
  have hlt:i < l.length:=by
   rcases Nat.lt_or_ge i l.length with h | h
   ·exact h
   ·rw [List.drop_eq_nil_of_le h] at hd; cases hd
  have hcons:=List.drop_eq_getElem_cons hlt
  rw [hd] at hcons
  obtain ⟨e1,e2⟩:=List.cons.inj hcons
  have ho:l[i]? = some o:=by rw [List.getElem?_eq_getElem hlt,e1]
  have go:∀ {T1:Env} {H1:AHeap} {hs':List (Nat × AHeap)} {rs':List Seen} {y1':Frz hs'} {y2':Frz rs'},StepD P o T H T1 H1→(∀ x ∈ hs,x ∈ hs')→(∀ x ∈ rs,x ∈ rs')→
    (o.op.quiet=false→wantedA T o.guard=some true→(i,H) ∈ hs'∧∀ q ∈ rs,(ms.getD i 0).testBit q.at_=true∨astep q.op q.env H1=some (.value q.val H1))→
    (∀ v,o.op.quiet=true→o.op.reads=true→wantedA T o.guard=some true→astep o.op T H=some (.value v H)→(⟨i,o.op,T,v⟩:Seen) ∈ rs'∧∀ p ∈ hs,(ms.getD i 0).testBit p.1=true∨astep o.op T p.2=some (.value v p.2))→
    DSX P ms (i+1) r hs' y1' rs' y2' T1 H1 K z R y→
    (∃ st',Line P ms l st' l.length∧K (st' l.length).1 (st' l.length).2∧(∀ j,j≤i→st' j=st j))∨
    ∃ st' p op v H',LineB P ms l st' p∧l[p]? = some op∧Pans P op (st' p).1 (st' p).2 (fun a b=>a=v∧b=H')∧R v H'∧∀ j,j≤i→st' j=st j:=by
   intro T1 H1 hs' rs' y1' y2' b1 b2 b3 b4 b5 b6
   obtain ⟨c1,c2⟩:=snoc ho hl ha hst b1 b2 b3 b4 b5
   rcases DSX.line hk r (i+1) hs' y1' rs' y2' T1 H1 z y e2.symm (by omega) b6 _ c1 c2 (if_neg (by omega)) with ⟨st',d1,d2,d3⟩ | ⟨st',p,op,v,H',d1,d2,d3,d4,d5⟩
   ·exact .inl ⟨st',d1,d2,fun j hj=>(d3 j (by omega)).trans (if_pos hj)⟩
   ·exact .inr ⟨st',p,op,v,H',d1,d2,d3,d4,fun j hj=>(d5 j (by omega)).trans (if_pos hj)⟩
  have sees:∀ {v:AVal},seesAll (ms.getD i 0) o.op T v hs→∀ p ∈ hs,(ms.getD i 0).testBit p.1=true∨astep o.op T p.2=some (.value v p.2):=fun h p hp=>by rw [← abit_eq]; exact seesAll_iff h p hp
  have stays:∀ {H1:AHeap},staysAll (ms.getD i 0) H1 rs→∀ q ∈ rs,(ms.getD i 0).testBit q.at_=true∨astep q.op q.env H1=some (.value q.val H1):=fun h q hq=>by rw [← abit_eq]; exact staysAll_iff h q hq
  simp only [DSX] at hr
  cases hw:wantedA T o.guard with
  | none=>rw [hw] at hr; exact hr.elim
  | some b=>
   rw [hw] at hr
   cases b with
   | false=>exact go (by simp [StepD,hw]) (fun _ h=>h) (fun _ h=>h) (fun _ h=>by rw [hw] at h; cases h) (fun _ _ _ h=>by rw [hw] at h; cases h) hr
   | true=>
    simp only [onW] at hr
    cases hs1:astep o.op T H with
    | none=>rw [hs1] at hr; exact hr.elim
    | some nx=>
     rw [hs1] at hr
     cases nx with
     | anyOf _=>exact hr.elim
     | pan _=>exact hr.elim
     | dfr _ _=>exact hr.elim
     | value v H1=>
      simp only [onX] at hr
      have hstep:StepD P o T H (T.put o.dst v) H1:=by simp [StepD,hw,hs1]
      cases hq:o.op.quiet with
      | true=>
       obtain ⟨v',hv'⟩:=astep_quiet hq hs1
       cases hv'
       rw [hq] at hr
       simp only [onB] at hr
       cases hre:o.op.reads with
       | true=>
        rw [hre] at hr
        simp only at hr
        exact go hstep (fun _ h=>h) (fun _ h=>List.mem_cons_of_mem _ h) (fun h=>by rw [hq] at h; cases h) (fun u _ _ _ hu=>by rw [hs1] at hu; cases hu; exact ⟨List.mem_cons_self,sees hr.1⟩) hr.2
       | false=>
        rw [hre] at hr
        simp only at hr
        exact go hstep (fun _ h=>h) (fun _ h=>h) (fun h=>by rw [hq] at h; cases h) (fun u _ h=>by rw [hre] at h; cases h) hr
      | false=>
       rw [hq] at hr
       simp only [onB] at hr
       exact go hstep (fun _ h=>List.mem_cons_of_mem _ h) (fun _ h=>h) (fun _ _=>⟨List.mem_cons_self,stays hr.1⟩) (fun u h=>by rw [hq] at h; cases h) hr.2
     | enter f as=>
      simp only [onX] at hr
      obtain ⟨x,H1,hx,hdet⟩:=hr
      have hq:=enter_quiet hs1
      cases x with
      | ret v=>
       obtain ⟨hsee,hr⟩:=hx
       exact go (by simp only [StepD,hw,hs1]; exact ⟨v,hdet.det,rfl⟩) (fun _ h=>List.mem_cons_of_mem _ h) (fun _ h=>h) (fun _ _=>⟨List.mem_cons_self,stays hsee⟩) (fun u h=>by rw [hq] at h; cases h) hr
      | pan v=>
       obtain ⟨hR,hB⟩:=hx
       have hbit:∀ j,j≤i→(ms.getD j 0).testBit i=false:=by
        intro j hj
        cases hb:(ms.getD j 0).testBit i with
        | false=>rfl
        | true=>
         have:=bit_lt hk (List.getElem?_eq_getElem (show j < l.length by omega)) hb
         omega
       have e0:∀ j,j≤i→(if j≤i then st j else (T.put o.dst aundef,H))=st j:=fun j hj=>if_pos hj
       have hpart:HalfB P ms l (fun j=>if j≤i then st j else (T.put o.dst aundef,H)) i (i+1) hs:=by
        refine ⟨Nat.lt_succ_self _,fun j x hj hx hjp hjb=> ?_,fun j x hj hx hdd=> ?_,fun j e q x v a1 a2 a3 a4 a5 a6 a7 a8 a9 a10 a11 a12 a13 a14=> ?_,fun j e q x v a1 a2 a3 a4 a5 a6 a7 a8 a9 a10 a11 a12 a13 a14=> ?_,fun e x a1 a2 a3 a4 a5 a6=> ?_⟩
        ·rw [e0 j (by omega),e0 (j+1) (by omega)]; exact hl.step j x (by omega) hx
        ·have hji:j=i:=by
          rcases hdd with h | h
          ·exact h
          ·rw [hbit j (by omega)] at h; cases h
         subst hji
         rw [ho] at hx; cases hx
         rw [e0 j (Nat.le_refl _),if_neg (by omega),hst]
        ·rw [e0 j (by omega),e0 e (by omega)] at *
         rw [e0 (e+1) (by omega)]
         exact hl.late j e q x v a1 (by omega) a5 a6 a9 a10 a11 a12 a13 a14
        ·rw [e0 j (by omega),e0 e (by omega)] at *
         exact hl.soon j e q x v a1 (by omega) a5 a6 a9 a10 a11 a12 a13 a14
        ·rw [e0 e (by omega)] at a6 ⊢
         exact ha.hs e x (by omega) a4 a5 a6
       obtain ⟨st',d1,d2⟩:=hpart.fill r (i+1) y1 _ H e2.symm (by omega) hB _ (if_neg (by omega))
       have di:st' i=(T,H):=by rw [d2 i (by omega),e0 i (Nat.le_refl _),hst]
       refine .inr ⟨st',i,o,v,H1,d1,ho,?_,hR,fun j hj=>by rw [d2 j (by omega),e0 j hj]⟩
       rw [di]
       exact ⟨hw,f,as,hs1,hdet.1,hdet.2.mono fun a b ⟨e1,e2⟩=>⟨v,e1,rfl,e2⟩⟩
section
variable {P:Program} {ks:Keeps} {nt:Nat} {k:List AItem} {ds:List ADef} {T:Env} {H:AHeap} {Q:AEnd→List ADef→Env→AHeap→Prop}
theorem DRX.draw {l:List AOper} {kl:List Nat} {ms:List Nat} (hm:P.follows .mixedOrders=true) (hk:okDraw l ms=true) (h:DSX P ms 0 l [] .mk [] .mk T H (fun T' H'=>AtX P ks nt k ds (T'.keep kl) H' Q .mk .mk) .mk (fun v H'=>Q (.pan v) ds [] H') .mk):DRX P ks nt (.code (.region true l kl)::k) ds T H Q:=by
 rcases DSX.line hk l 0 [] .mk [] .mk T H .mk .mk rfl (Nat.zero_le _) h (fun _=>(T,H)) ⟨fun i o hi=>by omega,fun j e q o v h1 h2=>by omega,fun j e q o v h1 h2=>by omega⟩ ⟨fun e o hi=>by omega,fun j q v hi=>by omega⟩ rfl with ⟨st,hl,⟨e,d,T',H',q,r⟩,h0⟩ | ⟨st,p,op,v,H',hl,hop,hpan,hR,h0⟩
 ·exact ⟨e,d,T',H',q,RunsX.ofLine hm hk hl (h0 0 (Nat.le_refl _)) r⟩
 ·exact ⟨.pan v,ds,[],H',hR,RunsX.ofLineB hm hk hl hop hpan (h0 0 (Nat.le_refl _)) fun a b ⟨e1,e2⟩=>by subst e1; subst e2; exact ⟨rfl,rfl,rfl,rfl⟩⟩
end
end Go.Am
namespace Go.Am
section
variable {P:Program} {ks:Keeps} {nt:Nat} {k:List AItem} {T:Env} {H:AHeap}
theorem DR.x {todo:List AItem} {Q:Env→AHeap→Prop} (h:DR P ks nt todo T H Q):∃ T' H',Q T' H'∧Runs P ks nt todo T H fun a b=>a=T'∧b=H':=h
end
theorem DRX.go {P:Program} {ks:Keeps} {nt:Nat} {ds:List ADef} {T:Env} {H:AHeap} {Q:AEnd→List ADef→Env→AHeap→Prop} {k k2:List AItem} {l:List AOper} {kl:List Nat} (e:anm 60 k=some (.code (.region false l kl)::k2)) (h:DOX P l ds T H (fun ds' T' H'=>AtX P ks nt k2 ds' (T'.keep kl) H' Q .mk .mk) .mk (fun v ds' T' H'=>Q (.pan v) ds' T' H') .mk):DRX P ks nt k ds T H Q:=DRX.nm e (DRX.ops h)
theorem DRX.ye {P:Program} {ks:Keeps} {nt:Nat} {ds:List ADef} {T:Env} {H:AHeap} {Q:AEnd→List ADef→Env→AHeap→Prop} {k k2:List AItem} {u:AOpnd} {x y:ACode} (e:anm 60 k=some (.code (.cond u x y)::k2)) (hu:T.val u=some (.bool true)) (h:DRX P ks nt (.code x::k2) ds T H Q):DRX P ks nt k ds T H Q:=DRX.nm e (DRX.yes hu h)
theorem DRX.ne {P:Program} {ks:Keeps} {nt:Nat} {ds:List ADef} {T:Env} {H:AHeap} {Q:AEnd→List ADef→Env→AHeap→Prop} {k k2:List AItem} {u:AOpnd} {x y:ACode} (e:anm 60 k=some (.code (.cond u x y)::k2)) (hu:T.val u=some (.bool false)) (h:DRX P ks nt (.code y::k2) ds T H Q):DRX P ks nt k ds T H Q:=DRX.nm e (DRX.no hu h)
abbrev ACode.g (l:List AOper) (k:List Nat):ACode:=.region false l k
end Go.Am
