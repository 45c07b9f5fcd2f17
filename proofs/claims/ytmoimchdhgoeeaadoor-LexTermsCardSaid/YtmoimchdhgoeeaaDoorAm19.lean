/- Whole bodies: the rules. -/
import Derived.Test.YtmoimchdhgoeeaaDoorAm18
import Derived.ScopeJumps
set_option linter.unusedVariables false
set_option linter.unusedSimpArgs false
namespace Go.Am
open Go.RowKit
variable {P:Program} {ks:Keeps} {nt:Nat} {k:List AItem} {T:Env} {H:AHeap} {K:Env→AHeap→Prop}
theorem Post.trans {w w1:World} {ro ro1:Nat→Prop} {μ μ1:Mu} {H1:AHeap} {a':Act} {w':World} (ho:Out w ro μ H w1 ro1 μ1 H1) (h:Post P nt w1 ro1 μ1 H1 K a' w'):Post P nt w ro μ H K a' w':=by
 obtain ⟨T',H',ro',μ',k1,k2,k3,k4,k5,k6⟩:=h
 exact ⟨T',H',ro',μ',k1,k2,k3,k4,k5,ho.trans k6⟩
theorem Runs.one {todo k:List AItem} (hi:∀ items,CIs P ks nt items todo→∃ items',CIs P ks nt items' k∧∀ (b:Frame) (a:Act) (cs:List Frame) (w:World) (ro:Nat→Prop) (μ:Mu),TR P w ro μ T a.tmps→Steps P (lone (b.at a items) cs w) (lone (b.at a items') cs w)) (h:Runs P ks nt k T H K):Runs P ks nt todo T H K:=by
 intro items hc w ro μ a hg hT hs hd b cs
 obtain ⟨items',hc',hst⟩:=hi items hc
 obtain ⟨a',w',todo',hp,hsteps⟩:=h items' hc' w ro μ a hg hT hs hd b cs
 exact ⟨a',w',todo',hp,(hst b a cs w ro μ hT).trans hsteps⟩
theorem cis_cons {items:List Item} {x:AItem} {k:List AItem} (h:CIs P ks nt items (x::k)):∃ i r,items=i::r∧CI P ks nt i x∧CIs P ks nt r k:=by
 cases items with
 | nil=>exact h.elim
 | cons i r=>exact ⟨i,r,rfl,h.1,h.2⟩
theorem ci_code {i:Item} {x:ACode} (h:CI P ks nt i (.code x)):∃ c,i = .code c∧ccode P ks nt c=some x:=by
 cases i <;> first | exact h.elim | exact ⟨_,rfl,h⟩
theorem ccode_inv {c:Code} {x:ACode} (h:ccode P ks nt c=some x) :
  match x with
  | .skip=>c = .skip
  | .region d l kl=>∃ id ops,c = .region id ops d∧copers P nt ops ops.toList=some l∧kl=ks id
  | .seq x y=>∃ p q,c = .seq p q∧ccode P ks nt p=some x∧ccode P ks nt q=some y
  | .cond u x y=>∃ v p q,c = .cond v p q∧copd v=some u∧ccode P ks nt p=some x∧ccode P ks nt q=some y
  | .block id x=>∃ p,c = .block id p∧ccode P ks nt p=some x
  | .loop x=>∃ p,c = .loop p∧ccode P ks nt p=some x
  | .exit id=>c = .exit id
  | .scope x=>∃ p,c = .scope p∧ccode P ks nt p=some x
  | .label l=>c = .label l
  | .goto l=>c = .goto l
  | .ret=>c = .ret:=by
 cases c <;> simp only [ccode] at h
 case skip=>injection h with h; subst h; rfl
 case region id ops d=>
  obtain ⟨l,hl,h⟩:=bind_some h
  injection h with h; subst h
  exact ⟨id,ops,rfl,hl,rfl⟩
 case seq p q=>
  obtain ⟨x,hx,h⟩:=bind_some h
  obtain ⟨y,hy,h⟩:=bind_some h
  injection h with h; subst h
  exact ⟨p,q,rfl,hx,hy⟩
 case cond v p q=>
  obtain ⟨u,hu,h⟩:=bind_some h
  obtain ⟨x,hx,h⟩:=bind_some h
  obtain ⟨y,hy,h⟩:=bind_some h
  injection h with h; subst h
  exact ⟨v,p,q,rfl,hu,hx,hy⟩
 case block id p=>obtain ⟨x,hx,rfl⟩:=map_some h; exact ⟨p,rfl,hx⟩
 case loop p=>obtain ⟨x,hx,rfl⟩:=map_some h; exact ⟨p,rfl,hx⟩
 case exit id=>injection h with h; subst h; rfl
 case scope p=>obtain ⟨x,hx,rfl⟩:=map_some h; exact ⟨p,rfl,hx⟩
 case label l=>injection h with h; subst h; rfl
 case goto l=>injection h with h; subst h; rfl
 case ret=>injection h with h; subst h; rfl
 all_goals (cases h)
theorem Runs.skip (h:Runs P ks nt k T H K):Runs P ks nt (.code .skip::k) T H K:=
 .one (fun items hc=>by
  obtain ⟨i,r,rfl,h1,h2⟩:=cis_cons hc
  obtain ⟨c,rfl,h3⟩:=ci_code h1
  have e3:=ccode_inv h3; simp only at e3; subst e3
  exact ⟨r,h2,fun b a cs w ro μ _=>.one step_skip⟩) h
theorem Runs.label {l:Nat} (h:Runs P ks nt k T H K):Runs P ks nt (.code (.label l)::k) T H K:=
 .one (fun items hc=>by
  obtain ⟨i,r,rfl,h1,h2⟩:=cis_cons hc
  obtain ⟨c,rfl,h3⟩:=ci_code h1
  have e3:=ccode_inv h3; simp only at e3; subst e3
  exact ⟨r,h2,fun b a cs w ro μ _=>.one step_label⟩) h
theorem Runs.seq {x y:ACode} (h:Runs P ks nt (.code x::.code y::k) T H K):Runs P ks nt (.code (.seq x y)::k) T H K:=
 .one (fun items hc=>by
  obtain ⟨i,r,rfl,h1,h2⟩:=cis_cons hc
  obtain ⟨c,rfl,h3⟩:=ci_code h1
  obtain ⟨p,q,rfl,h4,h5⟩:=ccode_inv h3
  exact ⟨.code p::.code q::r,⟨h4,h5,h2⟩,fun b a cs w ro μ _=>.one step_seq⟩) h
theorem Runs.cond {u:AOpnd} {x y:ACode} {t:Bool} (hu:T.val u=some (.bool t)) (h:Runs P ks nt (.code (if t=true then x else y)::k) T H K):Runs P ks nt (.code (.cond u x y)::k) T H K:=by
 intro items hc w ro μ a hg hT hs hd b cs
 obtain ⟨i,r,rfl,h1,h2⟩:=cis_cons hc
 obtain ⟨c,rfl,h3⟩:=ci_code h1
 obtain ⟨v,p,q,rfl,h4,h5,h6⟩:=ccode_inv h3
 have hv:=copd_sound hT h4 hu
 simp only [VR] at hv
 obtain ⟨a',w',todo',hp,hsteps⟩:=h (.code (if t then p else q)::r) ⟨by cases t <;> first | exact h6 | exact h5,h2⟩ w ro μ a hg hT hs hd b cs
 exact ⟨a',w',todo',hp,.head (step_cond hv) hsteps⟩
theorem Runs.block {id:Nat} {x:ACode} (h:Runs P ks nt (.code x::.inBlock id::k) T H K):Runs P ks nt (.code (.block id x)::k) T H K:=
 .one (fun items hc=>by
  obtain ⟨i,r,rfl,h1,h2⟩:=cis_cons hc
  obtain ⟨c,rfl,h3⟩:=ci_code h1
  obtain ⟨p,rfl,h4⟩:=ccode_inv h3
  exact ⟨.code p::.inBlock id::r,⟨h4,rfl,h2⟩,fun b a cs w ro μ _=>.one step_block⟩) h
theorem Runs.inBlock {id:Nat} (h:Runs P ks nt k T H K):Runs P ks nt (.inBlock id::k) T H K:=
 .one (fun items hc=>by
  obtain ⟨i,r,rfl,h1,h2⟩:=cis_cons hc
  cases i <;> first | exact h1.elim | skip
  exact ⟨r,h2,fun b a cs w ro μ _=>.one step_inBlock⟩) h
theorem Runs.loop {x:ACode} (h:Runs P ks nt (.code x::.inLoop x::k) T H K):Runs P ks nt (.code (.loop x)::k) T H K:=
 .one (fun items hc=>by
  obtain ⟨i,r,rfl,h1,h2⟩:=cis_cons hc
  obtain ⟨c,rfl,h3⟩:=ci_code h1
  obtain ⟨p,rfl,h4⟩:=ccode_inv h3
  exact ⟨.code p::.inLoop p::r,⟨h4,h4,h2⟩,fun b a cs w ro μ _=>.one step_loop⟩) h
theorem Runs.inLoop {x:ACode} (h:Runs P ks nt (.code x::.inLoop x::k) T H K):Runs P ks nt (.inLoop x::k) T H K:=
 .one (fun items hc=>by
  obtain ⟨i,r,rfl,h1,h2⟩:=cis_cons hc
  cases i <;> first | exact h1.elim | skip
  rename_i p
  exact ⟨.code p::.inLoop p::r,⟨h1,h1,h2⟩,fun b a cs w ro μ _=>.one step_inLoop⟩) h
theorem Runs.scope {x:ACode} (h:Runs P ks nt (.code x::.inScope x::k) T H K):Runs P ks nt (.code (.scope x)::k) T H K:=
 .one (fun items hc=>by
  obtain ⟨i,r,rfl,h1,h2⟩:=cis_cons hc
  obtain ⟨c,rfl,h3⟩:=ci_code h1
  obtain ⟨p,rfl,h4⟩:=ccode_inv h3
  exact ⟨.code p::.inScope p::r,⟨h4,h4,h2⟩,fun b a cs w ro μ _=>.one step_scope⟩) h
theorem Runs.inScope {x:ACode} (h:Runs P ks nt k T H K):Runs P ks nt (.inScope x::k) T H K:=
 .one (fun items hc=>by
  obtain ⟨i,r,rfl,h1,h2⟩:=cis_cons hc
  cases i <;> first | exact h1.elim | skip
  exact ⟨r,h2,fun b a cs w ro μ _=>.one step_inScope⟩) h
def aexitTo (id:Nat):List AItem→Option (List AItem)
 | .inBlock id'::k=>if id'==id then some k else aexitTo id k
 | _::k=>aexitTo id k
 | []=>none
theorem exitTo_sound {id:Nat}:∀ {items:List Item} {k k':List AItem},CIs P ks nt items k→aexitTo id k=some k'→∃ items',exitTo id items=some items'∧CIs P ks nt items' k'
 | [],[],_,_,h=>by cases h
 | i::r,x::s,k',h,he=>by
  obtain ⟨h1,h2⟩:=h
  cases x with
  | inBlock j=>
   cases i <;> simp only [CI] at h1
   subst h1
   simp only [aexitTo] at he
   simp only [exitTo]
   split at he
   ·rename_i e; injection he with he; subst he; rw [if_pos e]; exact ⟨r,rfl,h2⟩
   ·rename_i e; rw [if_neg e]; exact exitTo_sound h2 he
  | _=>
   cases i <;> simp only [CI] at h1 <;> simp only [aexitTo] at he <;> simp only [exitTo] <;> exact exitTo_sound h2 he
 | [],_::_,_,h,_=>h.elim
 | _::_,[],_,h,_=>h.elim
theorem Runs.exit {id:Nat} {k':List AItem} (he:aexitTo id k=some k') (h:Runs P ks nt k' T H K):Runs P ks nt (.code (.exit id)::k) T H K:=
 .one (fun items hc=>by
  obtain ⟨i,r,rfl,h1,h2⟩:=cis_cons hc
  obtain ⟨c,rfl,h3⟩:=ci_code h1
  have e3:=ccode_inv h3; simp only at e3; subst e3
  obtain ⟨r',h4,h5⟩:=exitTo_sound h2 he
  exact ⟨r',h5,fun b a cs w ro μ _=>.one (step_exit h4)⟩) h
def afindLabel:ACode→Nat→Option ACode
 | .seq a b,l=>match afindLabel a l with
  | some rest=>some (.seq rest b)
  | none=>afindLabel b l
 | .label l',l=>if l'==l then some .skip else none
 | _,_=>none
def agotoIn (l:Nat):List AItem→Option (List AItem)
 | .inScope body::k=>match afindLabel body l with
  | some rest=>some (.code rest::.inScope body::k)
  | none=>agotoIn l k
 | _::k=>agotoIn l k
 | []=>none
theorem findLabel_sound {l:Nat}:∀ {x:ACode} {c:Code},ccode P ks nt c=some x→match afindLabel x l with | none=>findLabel c l=none | some y=>∃ d,findLabel c l=some d∧ccode P ks nt d=some y
 | .seq x y,c,h=>by
  obtain ⟨p,q,rfl,h1,h2⟩:=ccode_inv h
  have i1:=findLabel_sound (l:=l) h1
  have i2:=findLabel_sound (l:=l) h2
  simp only [afindLabel,findLabel]
  cases hx:afindLabel x l with
  | none=>
   rw [hx] at i1; simp only at i1
   rw [i1]; exact i2
  | some z=>
   rw [hx] at i1; simp only at i1
   obtain ⟨d,hd,hd2⟩:=i1
   rw [hd]
   exact ⟨.seq d q,rfl,by simp [ccode,hd2,h2]⟩
 | .label l',c,h=>by
  have e3:=ccode_inv h; simp only at e3; subst e3
  simp only [afindLabel,findLabel]
  by_cases e:(l'==l)=true
  ·simp only [e,if_true]; exact ⟨.skip,rfl,rfl⟩
  ·simp only [e]; rfl
 | .skip,c,h=>by have e3:=ccode_inv h; simp only at e3; subst e3; rfl
 | .region ..,c,h=>by obtain ⟨_,_,rfl,_⟩:=ccode_inv h; rfl
 | .cond ..,c,h=>by obtain ⟨_,_,_,rfl,_⟩:=ccode_inv h; rfl
 | .block ..,c,h=>by obtain ⟨_,rfl,_⟩:=ccode_inv h; rfl
 | .loop ..,c,h=>by obtain ⟨_,rfl,_⟩:=ccode_inv h; rfl
 | .exit ..,c,h=>by have e3:=ccode_inv h; simp only at e3; subst e3; rfl
 | .scope ..,c,h=>by obtain ⟨_,rfl,_⟩:=ccode_inv h; rfl
 | .goto ..,c,h=>by have e3:=ccode_inv h; simp only at e3; subst e3; rfl
 | .ret,c,h=>by have e3:=ccode_inv h; simp only at e3; subst e3; rfl
theorem gotoIn_sound {l:Nat}:∀ {items:List Item} {k k':List AItem},CIs P ks nt items k→agotoIn l k=some k'→∃ items',gotoIn l items=some items'∧CIs P ks nt items' k'
 | [],[],_,_,h=>by cases h
 | i::r,x::s,k',h,he=>by
  obtain ⟨h1,h2⟩:=h
  cases x with
  | inScope y=>
   cases i <;> simp only [CI] at h1
   rename_i c
   simp only [agotoIn] at he
   simp only [gotoIn]
   have hf:=findLabel_sound (l:=l) h1
   split at he
   ·rename_i z hz
    rw [hz] at hf
    obtain ⟨d,hd,hd2⟩:=hf
    injection he with he; subst he
    rw [hd]
    exact ⟨_,rfl,hd2,h1,h2⟩
   ·rename_i hz
    rw [hz] at hf
    simp only at hf
    rw [hf]
    exact gotoIn_sound h2 he
  | _=>
   cases i <;> simp only [CI] at h1 <;> simp only [agotoIn] at he <;> simp only [gotoIn] <;> exact gotoIn_sound h2 he
 | [],_::_,_,h,_=>h.elim
 | _::_,[],_,h,_=>h.elim
theorem Runs.goto {l:Nat} {k':List AItem} (he:agotoIn l k=some k') (h:Runs P ks nt k' T H K):Runs P ks nt (.code (.goto l)::k) T H K:=
 .one (fun items hc=>by
  obtain ⟨i,r,rfl,h1,h2⟩:=cis_cons hc
  obtain ⟨c,rfl,h3⟩:=ci_code h1
  have e3:=ccode_inv h3; simp only at e3; subst e3
  obtain ⟨r',h4,h5⟩:=gotoIn_sound h2 he
  exact ⟨r',h5,fun b a cs w ro μ _=>.one (step_goto h4)⟩) h
theorem Runs.ret (h:K T H):Runs P ks nt (.code .ret::k) T H K:=by
 intro items hc w ro μ a hg hT hs hd b cs
 obtain ⟨i,r,rfl,h1,h2⟩:=cis_cons hc
 obtain ⟨c,rfl,h3⟩:=ci_code h1
 have e3:=ccode_inv h3; simp only at e3; subst e3
 exact ⟨a,w,_,⟨T,H,ro,μ,h,hg,hT,hs,hd,Out.refl _ _ _ _⟩,.one step_ret⟩
theorem Runs.done (h:K T H):Runs P ks nt [] T H K:=by
 intro items hc w ro μ a hg hT hs hd b cs
 cases items with
 | cons i r=>exact hc.elim
 | nil=>exact ⟨a,w,_,⟨T,H,ro,μ,h,hg,hT,hs,hd,Out.refl _ _ _ _⟩,.one step_end⟩
theorem TR.keep {w:World} {ro:Nat→Prop} {μ:Mu} {tmps:Array Value} (h:TR P w ro μ T tmps) (l:List Nat):TR P w ro μ (T.keep l) tmps:=⟨fun s v hv=>h.val s v (Env.get_keep T l s v hv),h.glob⟩
theorem Runs.region {l:List AOper} {kl:List Nat} (h:OpsRun P l T H fun T' H'=>Runs P ks nt k (T'.keep kl) H' K):Runs P ks nt (.code (.region false l kl)::k) T H K:=by
 intro items hc w ro μ a hg hT hs hd b cs
 obtain ⟨i,r,rfl,h1,h2⟩:=cis_cons hc
 obtain ⟨c,rfl,h3⟩:=ci_code h1
 obtain ⟨id,ops,rfl,h4,rfl⟩:=ccode_inv h3
 have hops:=ops_sound l 0 (by simpa using h4) h hg hT hs hd
 rw [Nat.sub_zero,← List.range_eq_range'] at hops
 obtain ⟨e,a1,w1,⟨he,T1,H1,ro1,μ1,k1,k2,k3,k4,k5,k6⟩,harr⟩:=wp_ops _ a w hops b r cs
 subst he
 obtain ⟨a',w',todo',hp,hsteps⟩:=k1 r h2 w1 ro1 μ1 a1 k2 (k3.keep _) k4 k5 b cs
 exact ⟨a',w',todo',hp.trans k6,.head step_region (Steps.trans harr hsteps)⟩
def envFrom:Nat→List AVal→Env
 | _,[]=>[]
 | i,v::r=>(i,v)::envFrom (i+1) r
theorem envFrom_get:∀ (vs:List AVal) (i s:Nat) (v:AVal),(envFrom i vs).get s=some v→i≤s∧vs[s - i]? = some v
 | [],i,s,v,h=>by simp [envFrom,Env.get] at h
 | u::r,i,s,v,h=>by
  simp only [envFrom,Env.get] at h
  split at h
  ·rename_i e; subst e; injection h with h; subst h; exact ⟨Nat.le_refl _,by simp⟩
  ·rename_i e
   obtain ⟨h1,h2⟩:=envFrom_get r (i+1) s v h
   exact ⟨by omega,by rw [show s - i=(s - (i+1))+1 by omega]; simpa using h2⟩
def ares (H:AHeap) (T:Env):List ARes→Option (List AVal)
 | []=>some []
 | .tmp t::r=>do
  let v ← T.get t
  let vs ← ares H T r
  pure (v::vs)
 | .cell a n::r=>do
  let p ← T.get a
  let v ← aload H n p
  let vs ← ares H T r
  pure (v::vs)
def aresult (H:AHeap) (T:Env) (l:List ARes):Option AVal:=
 match ares H T l with
 | some [v]=>some v
 | some vs=>some (.tup vs)
 | none=>none
theorem ares_sound {w:World} {ro:Nat→Prop} {μ:Mu} {tmps:Array Value} (hg:Good P w ro μ H) (hT:TR P w ro μ T tmps):∀ {l:List ResultVar} {al:List ARes} {vs:List AVal},cres P l=some al→ares H T al=some vs→
  ∃ us:List Value,(l.mapM (fun | .tmp t=>pure (tmps.getD t undef) | .cell a t=>do loadVar t (← asAddr (tmps.getD a undef)):ResultVar→Sem Value)).run P w = .ok us w∧VRs P w ro μ vs us
 | [],al,vs,h1,h2=>by
  simp only [cres] at h1; injection h1 with h1; subst h1
  simp only [ares] at h2; injection h2 with h2; subst h2
  exact ⟨[],by simp,rfl⟩
 | .tmp t::l,al,vs,h1,h2=>by
  simp only [cres] at h1
  obtain ⟨ar,har,rfl⟩:=map_some h1
  simp only [ares] at h2
  obtain ⟨v,hv,h2⟩:=bind_some h2
  obtain ⟨vr,hvr,h2⟩:=bind_some h2
  injection h2 with h2; subst h2
  obtain ⟨us,hus,hvs⟩:=ares_sound hg hT har hvr
  exact ⟨tmps.getD t undef::us,by simp only [List.mapM_cons,Sem.run_bind,Sem.run_pure,Result.andThen_ok,hus],⟨_,_,rfl,hT.val t v hv,hvs⟩⟩
 | .cell q t::l,al,vs,h1,h2=>by
  simp only [cres] at h1
  obtain ⟨n,hn,h1⟩:=bind_some h1
  obtain ⟨ar,har,h1⟩:=bind_some h1
  injection h1 with h1; subst h1
  simp only [ares] at h2
  obtain ⟨p,hp,h2⟩:=bind_some h2
  obtain ⟨v,hv,h2⟩:=bind_some h2
  obtain ⟨vr,hvr,h2⟩:=bind_some h2
  injection h2 with h2; subst h2
  obtain ⟨us,hus,hvs⟩:=ares_sound hg hT har hvr
  have hpv:=hT.val q p hp
  obtain ⟨v',hv',hvv⟩:=do_load hg hpv hn hv
  have hsure:∃ ad,tmps.getD q undef = .pointer (some ad):=by
   have hcs:∃ cs,cellsAt H p=some cs:=by
    unfold aload at hv
    split at hv
    ·exact ⟨_, ‹_›⟩
    ·exact ⟨_, ‹_›⟩
    ·cases hv
   obtain ⟨cs,hcs⟩:=hcs
   obtain ⟨b,o,sp,he,_⟩:=cellsAt_sound hg hpv hcs
   exact ⟨_,he⟩
  obtain ⟨ad,had⟩:=hsure
  have hload:(loadVar t ad).run P w = .ok v' w:=by
   have:=hv'
   rw [had] at this
   simpa [Instr.loadAt,Instr.sureAddr] using this
  exact ⟨v'::us,by
   have hasa:(asAddr (tmps.getD q undef)).run P w = .ok ad w:=by rw [had]; rfl
   simp only [List.mapM_cons,Sem.run_bind,hasa,Sem.run_pure,Result.andThen_ok,hload,hus],⟨_,_,rfl,hvv,hvs⟩⟩
theorem aresult_sound {w:World} {ro:Nat→Prop} {μ:Mu} {tmps:Array Value} (hg:Good P w ro μ H) (hT:TR P w ro μ T tmps) {fn:Func} {al:List ARes} {v:AVal} (h1:cres P fn.results.toList=some al) (h2:aresult H T al=some v) :
  ∃ u,(results fn tmps).run P w = .ok u w∧VR P w ro μ v u:=by
 unfold aresult at h2
 have key:∀ vs,ares H T al=some vs→∃ us:List Value,VRs P w ro μ vs us∧(results fn tmps).run P w = .ok (if h:us.length=1 then us[0] else .tuple us.toArray) w:=by
  intro vs hvs
  obtain ⟨us,hus,hvr⟩:=ares_sound hg hT h1 hvs
  refine ⟨us,hvr,?_⟩
  unfold results
  rw [Array.mapM_eq_mapM_toList]
  rw [Sem.run_bind,Sem.run_map]
  have hus':=hus
  rw [show (fun (x:ResultVar)=>(match x with | .tmp t=>pure (tmps.getD t undef) | .cell a t=>do loadVar t (← asAddr (tmps.getD a undef)):Sem Value))=_ from rfl] at hus'
  erw [hus']
  simp only [Result.andThen_ok,Sem.run_pure]
  congr 1
 split at h2
 ·rename_i x hx
  injection h2 with h2; subst h2
  obtain ⟨us,hvr,hrun⟩:=key _ hx
  have hl:=hvr.len
  obtain ⟨u,r,rfl,hu,hr⟩:=hvr
  have:r=[]:=by simpa [VRs] using hr
  subst this
  exact ⟨u,by simpa using hrun,hu⟩
 ·rename_i vs hne hx
  injection h2 with h2; subst h2
  obtain ⟨us,hvr,hrun⟩:=key _ hx
  have hl:=hvr.len
  have h1:us.length≠1:=by
   intro e
   obtain ⟨u,rfl⟩:=List.length_eq_one_iff.1 e
   obtain ⟨x,rfl⟩:=List.length_eq_one_iff.1 (by omega:vs.length=1)
   exact hne x rfl
  exact ⟨.tuple us.toArray,by rw [hrun,dif_neg h1],⟨_,rfl,by simpa using hvr⟩⟩
 ·cases h2
theorem CallEv.of_body {f:FuncId} {fn:Func} {af:AFunc} (hf:P.funcs[f]? = some fn) (hc:cfunc P ks fn=some af) {args:List AVal} (hn:args.length≤af.ntmps) {K:AVal→AHeap→Prop}
  (h:Runs P ks af.ntmps [.code af.body] (envFrom 0 args) H fun T' H'=>∃ r,aresult H' T' af.results=some r∧K r H'):CallEv P f args H K:=by
 unfold cfunc at hc
 split at hc
 ·cases hc
 obtain ⟨body,hb,hc⟩:=bind_some hc
 obtain ⟨x,hx,hc⟩:=bind_some hc
 obtain ⟨al,hal,hc⟩:=bind_some hc
 injection hc with hc; subst hc
 intro w ro μ argv hg ha cs
 have hlen:=ha.len
 simp only [Array.length_toList] at hlen
 simp only at hn h
 have hT:TR P w ro μ (envFrom 0 args) (argv++Array.replicate (fn.ntmps - argv.size) undef):=by
  refine ⟨fun s v hv=> ?_,hg.glob⟩
  obtain ⟨_,h2⟩:=envFrom_get args 0 s v hv
  have hs:s < args.length:=(List.getElem?_eq_some_iff.1 h2).1
  have hs':s < argv.size:=by simp at h2; omega
  rw [Array.getD_eq_getD_getElem?,Array.getElem?_append_left hs']
  simp only [hs',Array.getElem?_eq_getElem,Option.getD_some]
  exact ((VRs_iff _ _).1 ha).2 s v _ (by simpa using h2) (by simp [hs'])
 let b:Frame:={ (default:Frame) with fn:=f,kind:=.normal }
 have henter:Frame.enter P f argv .normal=b.at { tmps:=argv++Array.replicate (fn.ntmps - argv.size) undef,defers:=[] } [.code body]:=by
  simp [Frame.enter,Frame.at,hf,hb,b]
 obtain ⟨a',w',todo',⟨T',H',ro',μ',⟨r,hr,hk⟩,k2,k3,k4,k5,k6⟩,hsteps⟩:=h [.code body] ⟨hx,True.intro⟩ w ro μ { tmps:=argv++Array.replicate (fn.ntmps - argv.size) undef,defers:=[] } hg hT (by simp; omega) rfl b cs
 rw [← henter] at hsteps
 obtain ⟨u,hu,hv⟩:=aresult_sound k2 k3 hal hr
 exact ⟨.returned u,w',_,⟨u,r,H',ro',μ',rfl,hk,hv,k2,k6⟩,hsteps,rfl,rfl,k5,rfl,fn,hf,hu⟩
end Go.Am
