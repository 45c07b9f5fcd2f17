/- Parts: BR1, BR2, BR3, BR4, BR5, BR6, PG, BL1, BL2. -/
import Derived.Test.YtcphfgcfmphlfaaDoorPA
import Derived.Test.YtcphfgcfmphlfaaDoorGA
import Derived.Test.YtcphfgcfmphlfaaDoorPD
set_option linter.unusedVariables false
set_option linter.unusedSimpArgs false
namespace Go.Am.Rl
open Go.Proofs
inductive Mn:Nat→Nat→List ND→IT→Prop
 | done {p D:Nat} {N:List ND} {v:Val} {st:PS}:p≤st.at_→N <+: st.nodes→st.deep=D→Mn p D N (.done v st)
 | fail {p D:Nat} {N:List ND} {e q:Int}:Mn p D N (.fail e q)
 | call {p D:Nat} {N:List ND} {c:NT} {st:PS} {k:Val→PS→IT}:p≤st.at_→N <+: st.nodes→(∀ v s,st.at_≤s.at_→st.nodes <+: s.nodes→s.deep=st.deep→Mn s.at_ D s.nodes (k v s))→Mn p D N (.call c st k)
theorem Mn.ite {p D:Nat} {N:List ND} {c:Prop} [Decidable c] {a b:IT} (h1:Mn p D N a) (h2:Mn p D N b):Mn p D N (if c then a else b):=by
 by_cases h:c
 ·rw [if_pos h]; exact h1
 ·rw [if_neg h]; exact h2
theorem Mn.laySigns {p D:Nat} {N:List ND}:∀ (l:List TK) (a:Nat) (st:PS),p≤st.at_→N <+: st.nodes→st.deep=D→Mn p D N (laySigns l a st)
 | [],a,st,h,h2,h3=>.done h h2 h3
 | t::r,a,st,h,h2,h3=>by
  unfold Rl.laySigns lay
  split
  ·exact .fail
  ·exact Mn.laySigns r _ _ h (h2.trans (List.prefix_append _ _)) h3
variable {ts:List TK}
theorem pre2 {N:List ND} {a b:ND}:N <+: N++[a]++[b]:=(List.prefix_append _ _).trans (List.prefix_append _ _)
theorem pre3 {N:List ND} {a b c:ND}:N <+: N++[a]++[b]++[c]:=pre2.trans (List.prefix_append _ _)
theorem mn_rule (c:NT) (st:PS):Mn st.at_ st.deep st.nodes (rule ts c st):=by
 cases c <;> simp only [rule,kind,must,lay,none1,pass1,callN,callL,callD]
 all_goals repeat' (first | exact Mn.fail | (refine Mn.laySigns _ _ _ ?_ ?_ ?_ <;> first | omega | rfl | assumption | (simp only [adv] at *; omega) | exact List.prefix_rfl | exact List.prefix_append _ _ | exact pre2 | exact pre3) | (refine Mn.done ?_ ?_ ?_ <;> first | omega | rfl | assumption | (simp only [adv] at *; omega) | exact List.prefix_rfl | exact List.prefix_append _ _ | exact pre2 | exact pre3) | (refine Mn.call (by first | omega | rfl | assumption | (simp only [adv] at *; omega) | exact List.prefix_rfl | exact List.prefix_append _ _ | exact pre2 | exact pre3) (by first | omega | rfl | assumption | (simp only [adv] at *; omega) | exact List.prefix_rfl | exact List.prefix_append _ _ | exact pre2 | exact pre3) fun _ _ _ _ _=> ?_) | refine Mn.ite ?_ ?_ | split)
theorem run_mn:∀ (n:Nat) {t:IT} {p D:Nat} {N:List ND} {v:Val} {st:PS},Mn p D N t→run ts n t=some (.ok v st)→p≤st.at_∧N <+: st.nodes∧st.deep=D
 | 0,_,_,_,_,_,_,.done h h2 h3,e=>by simp only [run,Option.some.injEq,Out1.ok.injEq] at e; rw [← e.2]; exact ⟨h,h2,h3⟩
 | n+1,_,_,_,_,_,_,.done h h2 h3,e=>by simp only [run,Option.some.injEq,Out1.ok.injEq] at e; rw [← e.2]; exact ⟨h,h2,h3⟩
 | 0,_,_,_,_,_,_,.fail,e=>by simp [run] at e
 | n+1,_,_,_,_,_,_,.fail,e=>by simp [run] at e
 | 0,_,_,_,_,_,_,.call _ _ _,e=>by simp [run] at e
 | n+1,_,_,_,_,_,_,.call (c:=c) (st:=st) h h2 hk,e=>by
  simp only [run] at e
  cases h1:run ts n (rule ts c st) with
  | none=>rw [h1] at e; cases e
  | some x=>
   rw [h1] at e
   cases x with
   | err e1 p1=>simp at e
   | ok v1 st1=>
    obtain ⟨a1,a2,a3⟩:=run_mn n (mn_rule c st) h1
    obtain ⟨b1,b2,b3⟩:=run_mn n (hk v1 st1 a1 a2 a3) e
    exact ⟨by omega,h2.trans (a2.trans b2),b3⟩
theorem Ev.mn {t:IT} {p D:Nat} {N:List ND} {v:Val} {st:PS} (h:Ev ts t (.ok v st)) (hs:Mn p D N t):p≤st.at_∧N <+: st.nodes∧st.deep=D:=by
 obtain ⟨n,h⟩:=h; exact run_mn n hs h
theorem Ev.grow {c:NT} {st st':PS} {v:Val} (h:Ev ts (rule ts c st) (.ok v st')):st.at_≤st'.at_∧st.nodes <+: st'.nodes∧st'.deep=st.deep:=h.mn (mn_rule c st)
end Go.Am.Rl
namespace Go.Am.Rl
open Go.Proofs
def rbT:TK:=⟨6,w_rb,0,0,0⟩
def lbT:TK:=⟨6,w_lb,0,0,0⟩
structure TwH (E1 E2:List TK) (lo e:Nat):Prop where
 p1:∀ i,(tk E1 i).p=0
 p2:∀ i,(tk E2 i).p=0
 eq:∀ i,lo≤i→i < e→tk E2 (i+1)=tk E1 i
 k1:tk E1 e=rbT
 k2:tk E2 (e+1)=rpT∨tk E2 (e+1)=rbT
def sh (st:PS):PS:=⟨st.at_+1,st.deep+1,st.nodes⟩
def okS (s:ByteArray):Bool:= !seq w_rb s&& !seq w_rp s
def NT.okc:NT→Prop
 | .right x y g=>x.okc∧y.okc∧g.all okS=true
 | .left x g=>x.okc∧g.all okS=true
 | .leftL x g _ _=>x.okc∧g.all okS=true
 | .parted x=>x.okc
 | .partedL x _ _=>x.okc
 | .list s m=>(s=w_rp∨s=w_rb)∧(m=0∨m=16)
 | .module=>False
 | .moduleL _ _ _=>False
 | .function=>False
 | .functionL _ _=>False
 | .named=>False
 | _=>True
section
variable {E1 E2:List TK} {lo e n:Nat} {st:PS}
def G (E1 E2:List TK) (e n:Nat) (t1 t2:IT):Prop:=∀ p D N,Mn p D N t1→∀ m,m≤n→∀ v s',run E1 m t1=some (.ok v s')→s'.at_≤e→(Ev E2 t2 (.ok v (sh s'))∨∃ q,Ev E2 t2 (.err 25 q))
def Pn (E1 E2:List TK) (lo e n:Nat):Prop:=∀ (c:NT) (st:PS),c.okc→lo≤st.at_→∀ m,m < n→∀ v s',run E1 m (rule E1 c st)=some (.ok v s')→s'.at_≤e→(Ev E2 (rule E2 c (sh st)) (.ok v (sh s'))∨∃ q,Ev E2 (rule E2 c (sh st)) (.err 25 q))
theorem G.done {v:Val}:G E1 E2 e n (.done v st) (.done v (sh st)):=fun p D N _ m _ v' s' hr _=>by
 have:v'=v∧s'=st:=by cases m <;> (simp only [run,Option.some.injEq,Out1.ok.injEq] at hr; exact ⟨hr.1.symm,hr.2.symm⟩)
 rw [this.1,this.2]; exact .inl .done
theorem G.out {v:Val} {t2:IT} (h:e < st.at_):G E1 E2 e n (.done v st) t2:=fun p D N _ m _ v' s' hr hs=>by
 have:s'=st:=by cases m <;> (simp only [run,Option.some.injEq,Out1.ok.injEq] at hr; exact hr.2.symm)
 rw [this] at hs; omega
theorem G.fail {a q:Int} {t2:IT}:G E1 E2 e n (.fail a q) t2:=fun p D N _ m _ v' s' hr _=>by cases m <;> simp [run] at hr
theorem G.deep {t1 t2:IT} {q:Int} (h:Ev E2 t2 (.err 25 q)):G E1 E2 e n t1 t2:=fun _ _ _ _ _ _ _ _ _ _=>.inr ⟨q,h⟩
theorem G.ite {c:Prop} [Decidable c] {a b a' b':IT} (h1:c→G E1 E2 e n a a') (h2:¬ c→G E1 E2 e n b b'):G E1 E2 e n (if c then a else b) (if c then a' else b'):=by
 by_cases h:c
 ·rw [if_pos h,if_pos h]; exact h1 h
 ·rw [if_neg h,if_neg h]; exact h2 h
theorem G.call {c:NT} {k k':Val→PS→IT} (ih:Pn E1 E2 lo e n) (hc:c.okc) (hl:lo≤st.at_) (hk:∀ v s,st.at_≤s.at_→s.at_≤e→s.deep=st.deep→G E1 E2 e n (k v s) (k' v (sh s))):G E1 E2 e n (.call c st k) (.call c (sh st) k'):=by
 intro p D N hm m hmn v s' hr hs
 cases hm with
 | call h1 h2 hmk=>
  cases m with
  | zero=>simp [run] at hr
  | succ m=>
   simp only [run] at hr
   cases h3:run E1 m (rule E1 c st) with
   | none=>rw [h3] at hr; cases hr
   | some x=>
    rw [h3] at hr
    cases x with
    | err a q=>simp at hr
    | ok v1 s1=>
     obtain ⟨a1,a2,a3⟩:=run_mn m (mn_rule c st) h3
     have hm1:=hmk v1 s1 a1 a2 a3
     obtain ⟨b1,_⟩:=run_mn m hm1 hr
     have hle:s1.at_≤e:=by omega
     rcases ih c st hc hl m (by omega) v1 s1 h3 hle with ok | ⟨q,er⟩
     ·rcases hk v1 s1 a1 hle a3 _ _ _ hm1 m (by omega) v s' hr hs with A | ⟨q,B⟩
      ·exact .inl (Ev.call ok A)
      ·exact .inr ⟨q,Ev.call ok B⟩
     ·exact .inr ⟨q,Ev.callE er⟩
variable (H:TwH E1 E2 lo e)
include H
theorem tk_sh (hl:lo≤st.at_) (hlt:st.at_ < e):tk E2 (sh st).at_=tk E1 st.at_:=H.eq _ hl hlt
theorem pos_sh:pos E2 (sh st)=pos E1 st:=by unfold pos; rw [H.p1,H.p2]
omit H in
theorem rbT_seq {s:ByteArray} (hs:okS s=true):seq w_rb s=false∧seq w_rp s=false:=by
 unfold okS at hs
 rw [Bool.and_eq_true] at hs
 simpa using hs
theorem isS_at (hst:st.at_=e) (s:ByteArray):isS E1 st s=seq w_rb s:=by
 unfold isS; rw [hst,H.k1]; rfl
theorem isS_at2 (hst:st.at_=e) {s:ByteArray} (hs:okS s=true):isS E2 (sh st) s=false:=by
 have e1:(sh st).at_=e+1:=by show st.at_+1=_; omega
 have h:=rbT_seq hs
 unfold isS
 rw [e1]
 rcases H.k2 with k | k <;> rw [k]
 ·show (true&&seq w_rp s)=false; rw [h.2]; rfl
 ·show (true&&seq w_rb s)=false; rw [h.1]; rfl
theorem isS_lt (hl:lo≤st.at_) (hlt:st.at_ < e) (s:ByteArray):isS E2 (sh st) s=isS E1 st s:=by
 unfold isS; rw [tk_sh H hl hlt]
theorem isS_sh (hl:lo≤st.at_) (hle:st.at_≤e) {s:ByteArray} (hs:okS s=true):isS E2 (sh st) s=isS E1 st s:=by
 rcases Nat.lt_or_eq_of_le hle with h | h
 ·exact isS_lt H hl h s
 ·rw [isS_at H h,isS_at2 H h hs,(rbT_seq hs).1]
theorem isS_in (hle:st.at_≤e) {s:ByteArray} (hs:okS s=true) (h:isS E1 st s=true):st.at_ < e:=by
 rcases Nat.lt_or_eq_of_le hle with h1 | h1
 ·exact h1
 ·rw [isS_at H h1,(rbT_seq hs).1] at h; cases h
theorem anyS_sh (hl:lo≤st.at_) (hle:st.at_≤e):∀ l,l.all okS=true→anyS E2 (sh st) l=anyS E1 st l
 | [],_=>rfl
 | s::r,h=>by
  rw [List.all_cons,Bool.and_eq_true] at h
  unfold anyS; rw [isS_sh H hl hle h.1,anyS_sh hl hle r h.2]
theorem anyS_end (hst:st.at_=e):∀ l,l.all okS=true→anyS E1 st l=⟨#[]⟩
 | [],_=>rfl
 | s::r,h=>by
  rw [List.all_cons,Bool.and_eq_true] at h
  unfold anyS; rw [isS_at H hst,(rbT_seq h.1).1,anyS_end hst r h.2]; rfl
theorem any_in (hle:st.at_≤e) {l:List ByteArray} (h:l.all okS=true) {w:ByteArray} (hw:seq ⟨#[]⟩ w=false) (ha:seq (anyS E1 st l) w=true):st.at_ < e:=by
 rcases Nat.lt_or_eq_of_le hle with h1 | h1
 ·exact h1
 ·rw [anyS_end H h1 l h,hw] at ha; cases ha
theorem G.ifS (hl:lo≤st.at_) (hle:st.at_≤e) {s:ByteArray} (hs:okS s=true) {a b a' b':IT} (h1:st.at_ < e→G E1 E2 e n a a') (h2:G E1 E2 e n b b'):G E1 E2 e n (if isS E1 st s=true then a else b) (if isS E2 (sh st) s=true then a' else b'):=by
 rw [isS_sh H hl hle hs]
 exact G.ite (fun h=>h1 (isS_in H hle hs h)) fun _=>h2
theorem G.ifA (hl:lo≤st.at_) (hle:st.at_≤e) {l:List ByteArray} (h:l.all okS=true) {w:ByteArray} {a b a' b':IT} (h1:(seq ⟨#[]⟩ w=false→st.at_ < e)→G E1 E2 e n a a') (h2:(seq ⟨#[]⟩ w=true→st.at_ < e)→G E1 E2 e n b b'):G E1 E2 e n (if seq (anyS E1 st l) w=true then a else b) (if seq (anyS E2 (sh st) l) w=true then a' else b'):=by
 rw [anyS_sh H hl hle l h]
 refine G.ite (fun hc=>h1 fun hw=>any_in H hle h hw hc) fun hc=>h2 fun hw=> ?_
 rcases Nat.lt_or_eq_of_le hle with h1 | h1
 ·exact h1
 ·rw [anyS_end H h1 l h] at hc; exact absurd hw hc
theorem G.must (hl:lo≤st.at_) (hle:st.at_≤e) {s:ByteArray} (hs:seq w_rb s=false) {k k':PS→IT} (hk:st.at_ < e→G E1 E2 e n (k (adv st)) (k' (sh (adv st)))):G E1 E2 e n (Rl.must E1 st s k) (Rl.must E2 (sh st) s k'):=by
 unfold Rl.must
 rcases Nat.lt_or_eq_of_le hle with h | h
 ·rw [isS_lt H hl h]; exact G.ite (fun _=>hk h) fun _=>.fail
 ·rw [isS_at H h,hs,if_neg (by simp)]; exact .fail
theorem G.kind (hl:lo≤st.at_) (hle:st.at_≤e) {d:Int} (hd:d≠6) {k k':TK→PS→IT} (hk:st.at_ < e→G E1 E2 e n (k (tk E1 st.at_) (adv st)) (k' (tk E1 st.at_) (sh (adv st)))):G E1 E2 e n (Rl.kind E1 st d k) (Rl.kind E2 (sh st) d k'):=by
 unfold Rl.kind
 rcases Nat.lt_or_eq_of_le hle with h | h
 ·rw [tk_sh H hl h]; exact G.ite (fun _=>hk h) fun _=>.fail
 ·have:((tk E1 st.at_).k==d)=false:=by rw [h,H.k1]; simpa using fun e=>hd e.symm
  rw [this,if_neg (by simp)]; exact .fail
omit H in
theorem G.lay {m:ND} {k k':Nat→PS→IT} (hk:G E1 E2 e n (k st.nodes.length { st with nodes:=st.nodes++[m] }) (k' st.nodes.length (sh { st with nodes:=st.nodes++[m] }))):G E1 E2 e n (Rl.lay st m k) (Rl.lay (sh st) m k'):=by
 unfold Rl.lay
 exact G.ite (c:=st.nodes.length=16384) (fun _=>.fail) fun _=>hk
theorem G.none1 {d:Int} {k k':Nat→PS→IT} (hk:∀ s:PS,s.at_=st.at_→s.deep=st.deep→G E1 E2 e n (k st.nodes.length s) (k' st.nodes.length (sh s))):G E1 E2 e n (Rl.none1 E1 st d k) (Rl.none1 E2 (sh st) d k'):=by
 unfold Rl.none1; rw [pos_sh H]; exact G.lay (hk _ rfl rfl)
omit H in
theorem G.callN {c:NT} {k k':Nat→PS→IT} (ih:Pn E1 E2 lo e n) (hc:c.okc) (hl:lo≤st.at_) (hk:∀ i s,st.at_≤s.at_→s.at_≤e→s.deep=st.deep→G E1 E2 e n (k i s) (k' i (sh s))):G E1 E2 e n (Rl.callN c st k) (Rl.callN c (sh st) k'):=
 G.call ih hc hl fun v s h1 h2 h3=>by cases v <;> first | exact hk _ s h1 h2 h3 | exact .fail
omit H in
theorem G.callL {c:NT} {k k':List Nat→PS→IT} (ih:Pn E1 E2 lo e n) (hc:c.okc) (hl:lo≤st.at_) (hk:∀ i s,st.at_≤s.at_→s.at_≤e→s.deep=st.deep→G E1 E2 e n (k i s) (k' i (sh s))):G E1 E2 e n (Rl.callL c st k) (Rl.callL c (sh st) k'):=
 G.call ih hc hl fun v s h1 h2 h3=>by cases v <;> first | exact hk _ s h1 h2 h3 | exact .fail
omit H in
theorem G.callD {c:NT} {k k':ND→PS→IT} (ih:Pn E1 E2 lo e n) (hc:c.okc) (hl:lo≤st.at_) (hk:∀ i s,st.at_≤s.at_→s.at_≤e→s.deep=st.deep→G E1 E2 e n (k i s) (k' i (sh s))):G E1 E2 e n (Rl.callD c st k) (Rl.callD c (sh st) k'):=
 G.call ih hc hl fun v s h1 h2 h3=>by cases v <;> first | exact hk _ s h1 h2 h3 | exact .fail
omit H in
theorem G.pass {c:NT} (ih:Pn E1 E2 lo e n) (hc:c.okc) (hl:lo≤st.at_):G E1 E2 e n (pass1 c st) (pass1 c (sh st)):=
 G.call ih hc hl fun v s _ _ _=>.done
omit H in
theorem G.laySigns:∀ (l:List TK) (a:Nat) (st:PS),G E1 E2 e n (Rl.laySigns l a st) (Rl.laySigns l a (sh st))
 | [],a,st=>.done
 | t::r,a,st=>G.lay (G.laySigns r _ _)
def NoE (E:List TK) (e:Nat) (c:NT):Prop:=∀ st:PS,st.at_=e→∀ v s,¬ Ev E (rule E c st) (.ok v s)
omit H in
theorem NoE.call {c c0:NT} (h:NoE E1 e c) (k:PS→Val→PS→IT) (hr:∀ st:PS,st.at_=e→∃ d,rule E1 c0 st = .call c { st with deep:=d } (k st)):NoE E1 e c0:=fun st hst v s ev=>by
 obtain ⟨d,hd⟩:=hr st hst
 rw [hd] at ev
 rcases ev.inv with ⟨a,q,h1,_⟩ | ⟨v1,s1,h1,_⟩
 ·cases h1
 ·exact h { st with deep:=d } hst v1 s1 h1
theorem noE_some:NoE E1 e (.some 0)∧NoE E1 e (.some 16):=by
 have kk:∀ st:PS,st.at_=e→(tk E1 st.at_).k=6:=fun st hst=>by rw [hst,H.k1]; rfl
 have other:∀ m,NoE E1 e (.other m):=fun m st hst v s ev=>by
  have:rule E1 (.other m) st = .fail 24 m.p:=by
   simp only [rule,anyS_end H hst _ (show ([w_lp,w_lb,w_lk,w_begin,w_case,w_fun,w_try,w_receive]:List ByteArray).all okS=true by kernel_rfl)]
   rw [if_pos seq_nil]
  rw [this] at ev
  have:=Ev.det ev .fail
  cases this
 have primary:NoE E1 e .primary:=fun st hst v s ev=>by
  have:rule E1 .primary st=pass1 (.other (node 0 [] (tk E1 st.at_).p)) st:=by
   simp only [rule,kk st hst]; rfl
  rw [this] at ev
  rcases ev.inv with ⟨a,q,h1,_⟩ | ⟨v1,s1,h1,_⟩
  ·cases h1
  ·exact other _ st hst v1 s1 h1
 have call:NoE E1 e .call:=NoE.call primary (fun st v s=>match v with | .n a=>pass1 (.calls a (pos E1 st)) s | _=>.fail 0 0) fun st hst=>⟨st.deep,by simp only [rule,kk st hst]; rfl⟩
 have unaryL:∀ g,NoE E1 e (.unaryL g):=fun g=>NoE.call call (fun st v s=>match v with | .n a=>Rl.laySigns g.reverse a s | _=>.fail 0 0) fun st hst=>⟨st.deep,by
  simp only [rule,anyS_end H hst _ (show ([w_minus,w_not]:List ByteArray).all okS=true by kernel_rfl)]
  rw [if_pos seq_nil]; rfl⟩
 have pass:∀ c c0,NoE E1 e c→(∀ st,rule E1 c0 st=pass1 c st)→NoE E1 e c0:=fun c c0 h hr=>NoE.call h (fun _=>.done) fun st _=>⟨st.deep,hr st⟩
 have unary:NoE E1 e .unary:=pass _ _ (unaryL []) fun st=>rfl
 have left:∀ x g,NoE E1 e x→NoE E1 e (.left x g):=fun x g h=>NoE.call h (fun st v s=>match v with | .n a=>pass1 (.leftL x g a (pos E1 st)) s | _=>.fail 0 0) fun st _=>⟨st.deep,rfl⟩
 have right:∀ x y g,NoE E1 e x→NoE E1 e (.right x y g):=fun x y g h=>NoE.call h (fun st v s=>match v with | .n a=>(if seq (anyS E1 s g) empty=true then .done (.n a) s else callN y (adv s) fun b st2=>lay st2 ⟨9,anyS E1 s g,0,0,[a,b],pos E1 st⟩ fun i st3=>.done (.n i) st3) | _=>.fail 0 0) fun st _=>⟨st.deep,rfl⟩
 have mul:=pass _ .mul (left _ [w_star,w_slash,w_div,w_rem] unary) fun st=>rfl
 have add:=pass _ .add (left _ [w_plus,w_minus] mul) fun st=>rfl
 have append:=pass _ .append (right _ .append [w_cat] add) fun st=>rfl
 have compare:=pass _ .compare (right _ .append [w_eqeq,w_ne,w_le,w_lt,w_ge,w_gt,w_same,w_nsame] append) fun st=>rfl
 have both:=pass _ .both (right _ .both [w_andalso] compare) fun st=>rfl
 have either:=pass _ .either (right _ .either [w_orelse] both) fun st=>rfl
 have expr:NoE E1 e .expr:=fun st hst v s ev=>by
  simp only [rule] at ev
  split at ev
  ·have:=Ev.det ev .fail; cases this
  ·have hcat:isS E1 { st with deep:=st.deep+1 } w_catch=false:=by rw [isS_at H (st:={ st with deep:=st.deep+1 }) hst]; kernel_rfl
   rw [hcat,if_neg (by simp)] at ev
   rcases ev.inv with ⟨a,q,h1,_⟩ | ⟨v1,s1,h1,_⟩
   ·cases h1
   ·exact either { st with deep:=st.deep+1 } hst v1 s1 h1
 have some:∀ m,NoE E1 e (.some m):=fun m=>NoE.call expr (fun st v s=>match v with | .n a=>pass1 (.someL m [a]) s | _=>.fail 0 0) fun st _=>⟨st.deep,rfl⟩
 exact ⟨some 0,some 16⟩
end
end Go.Am.Rl
namespace Go.Am.Rl
open Go.Proofs
section
variable {E1 E2:List TK} {lo e n:Nat} {st:PS}
theorem G.none {t1 t2:IT} (h:∀ v s,¬ Ev E1 t1 (.ok v s)):G E1 E2 e n t1 t2:=fun _ _ _ _ m _ v s hr _=>absurd ⟨m,hr⟩ (h v s)
variable (H:TwH E1 E2 lo e) (ih:Pn E1 E2 lo e n) (hl:lo≤st.at_) (hle:st.at_≤e)
include H ih hl hle
theorem g_list {s:ByteArray} {m:Int} (hs:s=w_rp∨s=w_rb) (hm:m=0∨m=16):G E1 E2 e n (rule E1 (.list s m) st) (rule E2 (.list s m) (sh st)):=by
 have body:G E1 E2 e n (callL (.some m) st fun l st1=>must E1 st1 s fun st2=>.done (.l l) st2) (callL (.some m) (sh st) fun l st1=>must E2 st1 s fun st2=>.done (.l l) st2):=by
  refine G.callL ih trivial hl fun l s1 h1 h2 h3=> ?_
  rcases Nat.lt_or_eq_of_le h2 with h | h
  ·unfold must
   rw [isS_lt H (by omega) h]; exact G.ite (fun _=>.done (st:=adv s1)) fun _=>.fail
  ·unfold must
   rw [isS_at H h]
   rcases hs with rfl | rfl
   ·rw [if_neg (by rw [show seq w_rb w_rp=false from by kernel_rfl]; simp)]; exact .fail
   ·rw [if_pos (by kernel_rfl)]; exact .out (st:=adv s1) (by simp only [adv] at *; omega)
 rcases Nat.lt_or_eq_of_le hle with h | h
 ·show G E1 E2 e n (if isS E1 st s=true then _ else _) (if isS E2 (sh st) s=true then _ else _)
  rw [isS_lt H hl h]; exact G.ite (fun _=>.done (st:=adv st)) fun _=>body
 ·show G E1 E2 e n (if isS E1 st s=true then .done (.l []) (adv st) else _) _
  rw [isS_at H h]
  rcases hs with rfl | rfl
  ·rw [if_neg (by rw [show seq w_rb w_rp=false from by kernel_rfl]; simp)]
   refine .none fun v s1 ev=> ?_
   rcases ev.inv with ⟨a,q,h1,_⟩ | ⟨v1,s1,h1,_⟩
   ·cases h1
   ·rcases hm with rfl | rfl
    ·exact (noE_some H).1 st h v1 s1 h1
    ·exact (noE_some H).2 st h v1 s1 h1
  ·rw [if_pos (by kernel_rfl)]; exact .out (st:=adv st) (by simp only [adv] at *; omega)
theorem g_tail {m:ND} {l:List Nat}:G E1 E2 e n (rule E1 (.tail m l) st) (rule E2 (.tail m l) (sh st)):=by
 have fin:∀ (g:Nat) (s:PS),lo≤s.at_→s.at_≤e→G E1 E2 e n (must E1 s w_arrow fun st1=>callN .body st1 fun b st2=>lay st2 { m with n:=(l.length:Nat),l:=l++[g,b] } fun i st3=>.done (.n i) st3) (must E2 (sh s) w_arrow fun st1=>callN .body st1 fun b st2=>lay st2 { m with n:=(l.length:Nat),l:=l++[g,b] } fun i st3=>.done (.n i) st3):=fun g s h1 h2=>
  G.must H h1 h2 (by kernel_rfl) fun h=>G.callN (st:=adv s) ih trivial (by simp only [adv] at *; omega) fun b s2 _ _ _=>G.lay .done
 refine G.ifS H hl hle (by kernel_rfl) (fun h=> ?_) ?_
 ·refine G.callL (st:=adv st) ih trivial (by simp only [adv] at *; omega) fun g s1 h1 h2 h3=> ?_
  rw [show adv (sh st)=sh (adv st) from rfl,pos_sh H]
  exact G.lay (fin _ _ (by show lo≤s1.at_; simp only [adv] at *; omega) h2)
 ·rw [pos_sh H]
  exact G.lay (fin _ _ hl hle)
theorem g_expr:G E1 E2 e n (rule E1 .expr st) (rule E2 .expr (sh st)):=by
 have hp:pos E2 (sh st)=pos E1 st:=pos_sh H
 have out:∀ (i:Nat) (s:PS),1≤s.deep→G E1 E2 e n (.done (.n i) { s with deep:=s.deep - 1 }) (.done (.n i) { sh s with deep:=(sh s).deep - 1 }):=fun i s h=>by
  have:({ sh s with deep:=(sh s).deep - 1 }:PS)=sh { s with deep:=s.deep - 1 }:=by
   unfold sh; simp; omega
  rw [this]; exact .done
 show G E1 E2 e n (if st.deep=200 then .fail 25 (pos E1 st) else _) _
 by_cases h1:st.deep=200
 ·rw [if_pos h1]; exact .fail
 rw [if_neg h1]
 by_cases h2:st.deep+1=200
 ·refine .deep (q:=pos E2 (sh st)) ?_
  show Ev E2 (if st.deep+1=200 then .fail 25 (pos E2 (sh st)) else _) _
  rw [if_pos h2]; exact .fail
 show G E1 E2 e n _ (if st.deep+1=200 then .fail 25 (pos E2 (sh st)) else _)
 rw [if_neg h2]
 refine G.ifS (st:={ st with deep:=st.deep+1 }) H hl hle (by kernel_rfl) (fun h=> ?_) ?_
 ·refine G.callN (st:=adv { st with deep:=st.deep+1 }) ih trivial (by simp only [adv] at *; omega) fun a s2 _ _ h3=> ?_
  rw [hp]
  exact G.lay (out _ _ (by simp only [adv] at *; omega))
 ·refine G.callN (st:={ st with deep:=st.deep+1 }) ih trivial hl fun a s2 a1 a2 a3=>G.ifA H (by simp only [adv] at *; omega) a2 (by kernel_rfl) (fun h=> ?_) fun _=>G.ifA H (by simp only [adv] at *; omega) a2 (by kernel_rfl) (fun h=> ?_) fun _=>out _ _ (by simp only [adv] at *; omega)
  ·have h:=h (by kernel_rfl)
   refine G.callN (st:=adv s2) ih trivial (by simp only [adv] at *; omega) fun b s3 _ _ b3=> ?_
   rw [hp]
   exact G.lay (out _ _ (by simp only [adv] at *; omega))
  ·have h:=h (by kernel_rfl)
   refine G.callN (st:=adv s2) ih trivial (by simp only [adv] at *; omega) fun b s3 _ _ b3=> ?_
   rw [hp,anyS_sh H (by simp only [adv] at *; omega) a2 _ (by kernel_rfl)]
   exact G.lay (out _ _ (by simp only [adv] at *; omega))
omit hle in
theorem g_right {x y:NT} {g:List ByteArray} (hx:x.okc) (hy:y.okc) (hg:g.all okS=true):G E1 E2 e n (rule E1 (.right x y g) st) (rule E2 (.right x y g) (sh st)):=by
 have hp:pos E2 (sh st)=pos E1 st:=pos_sh H
 refine G.callN ih hx hl fun a s1 h1 h2 _=>G.ifA H (by omega) h2 hg (fun _=>.done) fun h=> ?_
 have h:=h seq_nil
 refine G.callN (st:=adv s1) ih hy (by simp only [adv] at *; omega) fun b s2 _ _ _=> ?_
 rw [hp,anyS_sh H (by omega) h2 _ hg]
 exact G.lay .done
theorem g_leftL {x:NT} {g:List ByteArray} {a:Nat} {p:Int} (hx:x.okc) (hg:g.all okS=true):G E1 E2 e n (rule E1 (.leftL x g a p) st) (rule E2 (.leftL x g a p) (sh st)):=by
 refine G.ifA H hl hle hg (fun _=>.done) fun h=> ?_
 have h:=h seq_nil
 refine G.callN (st:=adv st) ih hx (by simp only [adv] at *; omega) fun b s1 h1 _ _=> ?_
 rw [anyS_sh H hl hle _ hg]
 exact G.lay (G.pass (st:={ s1 with nodes:=_ }) ih ⟨hx,hg⟩ (by show lo≤s1.at_; simp only [adv] at *; omega))
theorem g_unaryL {g:List TK}:G E1 E2 e n (rule E1 (.unaryL g) st) (rule E2 (.unaryL g) (sh st)):=by
 refine G.ifA H hl hle (by kernel_rfl) (fun _=>G.callN ih trivial hl fun a s1 _ _ _=>G.laySigns _ _ _) fun h=> ?_
 have h:=h seq_nil
 rw [tk_sh H hl h]
 exact G.pass (st:=adv st) ih trivial (by simp only [adv] at *; omega)
theorem g_call:G E1 E2 e n (rule E1 .call st) (rule E2 .call (sh st)):=by
 have hp:pos E2 (sh st)=pos E1 st:=pos_sh H
 have prim:G E1 E2 e n (callN .primary st fun a st1=>pass1 (.calls a (pos E1 st)) st1) (callN .primary (sh st) fun a st1=>pass1 (.calls a (pos E1 st)) st1):=
  G.callN ih trivial hl fun a s1 h1 _ _=>G.pass ih trivial (by omega)
 have whole:∀ b b':Bool,(b=true→st.at_+1 < e)→b'=b→G E1 E2 e n (if b=true then callL (.list w_rp 16) (adv (adv st)) fun l st1=>lay st1 ⟨11,(tk E1 st.at_).s,0,0,l,pos E1 st⟩ fun a st2=>pass1 (.calls a (pos E1 st)) st2 else callN .primary st fun a st1=>pass1 (.calls a (pos E1 st)) st1)
   (if b'=true then callL (.list w_rp 16) (adv (adv (sh st))) fun l st1=>lay st1 ⟨11,(tk E2 (sh st).at_).s,0,0,l,pos E1 st⟩ fun a st2=>pass1 (.calls a (pos E1 st)) st2 else callN .primary (sh st) fun a st1=>pass1 (.calls a (pos E1 st)) st1):=by
  intro b b' h1 h2
  subst h2
  refine G.ite (fun hb=> ?_) fun _=>prim
  have h1:=h1 hb
  rw [tk_sh H hl (by omega)]
  exact G.callL (st:=adv (adv st)) ih ⟨.inl rfl,.inr rfl⟩ (by simp only [adv] at *; omega) fun l s1 a1 _ _=>G.lay (G.pass (st:={ s1 with nodes:=_ }) ih trivial (by show lo≤s1.at_; simp only [adv] at *; omega))
 simp only [rule,hp]
 refine whole _ _ (fun hb=> ?_) ?_
 ·rw [Bool.and_eq_true,Bool.and_eq_true] at hb
  rcases Nat.lt_or_eq_of_le hle with h | h
  ·rcases Nat.lt_or_eq_of_le (show st.at_+1≤e from h) with h' | h'
   ·exact h'
   ·have h3:=hb.2
    rw [h',H.k1] at h3
    exact absurd h3 (by rw [show seq rbT.s w_lp=false from by kernel_rfl]; simp)
  ·have h3:=hb.1.1
   rw [h,H.k1] at h3; cases h3
 ·show (((tk E2 (st.at_+1)).k==1)&&((tk E2 (st.at_+1+1)).k==6)&&seq (tk E2 (st.at_+1+1)).s w_lp)=_
  rcases Nat.lt_or_eq_of_le hle with h | h
  ·rw [H.eq _ hl h]
   rcases Nat.lt_or_eq_of_le (show st.at_+1≤e from h) with h' | h'
   ·rw [H.eq (st.at_+1) (by omega) h']
   ·rw [h',H.k1]
    have e1:seq (tk E2 (e+1)).s w_lp=false:=by rcases H.k2 with k | k <;> rw [k] <;> kernel_rfl
    rw [e1,show seq rbT.s w_lp=false from by kernel_rfl,Bool.and_false,Bool.and_false]
  ·rw [h,H.k1]
   rcases H.k2 with k | k <;> rw [k] <;> rfl
theorem g_primary:G E1 E2 e n (rule E1 .primary st) (rule E2 .primary (sh st)):=by
 have out:∀ m:ND,G E1 E2 e n (lay (adv st) m fun i st1=>.done (.n i) st1) (lay (adv (sh st)) m fun i st1=>.done (.n i) st1):=fun m=>G.lay (st:=adv st) .done
 have oth:G E1 E2 e n (pass1 (.other (node 0 [] (tk E1 st.at_).p)) st) (pass1 (.other (node 0 [] (tk E1 st.at_).p)) (sh st)):=G.pass ih trivial hl
 rcases Nat.lt_or_eq_of_le hle with h | h
 ·simp only [rule,tk_sh H hl h]
  exact G.ite (fun _=>out _) fun _=>G.ite (fun _=>out _) fun _=>G.ite (fun _=>out _) fun _=>G.ite (fun _=>out _) fun _=>G.ite (fun _=>out _) fun _=>oth
 ·have k2:(tk E2 (sh st).at_).k=6:=by
   rw [show (sh st).at_=e+1 from by show st.at_+1=_; omega]
   rcases H.k2 with k | k <;> rw [k] <;> rfl
  have k1:(tk E1 st.at_).k=6:=by rw [h,H.k1]; rfl
  have e1:rule E1 .primary st=pass1 (.other (node 0 [] (tk E1 st.at_).p)) st:=by simp only [rule,k1]; rfl
  have e2:rule E2 .primary (sh st)=pass1 (.other (node 0 [] (tk E2 (sh st).at_).p)) (sh st):=by simp only [rule,k2]; rfl
  rw [e1,e2,H.p1,H.p2]
  exact G.pass ih trivial hl
theorem g_other {m:ND}:G E1 E2 e n (rule E1 (.other m) st) (rule E2 (.other m) (sh st)):=by
 refine G.ifA H hl hle (by kernel_rfl) (fun _=>.fail) fun h=> ?_
 have h:=h seq_nil
 refine G.ifA H hl hle (by kernel_rfl) (fun _=> ?_) fun _=>G.ifA H hl hle (by kernel_rfl) (fun _=> ?_) fun _=>G.ifA H hl hle (by kernel_rfl) (fun _=> ?_) fun _=>G.ifA H hl hle (by kernel_rfl) (fun _=> ?_) fun _=>G.ifA H hl hle (by kernel_rfl) (fun _=> ?_) fun _=>G.ifA H hl hle (by kernel_rfl) (fun _=> ?_) fun _=>G.ifA H hl hle (by kernel_rfl) (fun _=> ?_) fun _=>G.ifA H hl hle (by kernel_rfl) (fun _=> ?_) fun _=> ?_
 ·exact G.callN (st:=adv st) ih trivial (by simp only [adv] at *; omega) fun a s2 _ h2 _=>G.must H (by simp only [adv] at *; omega) h2 (by kernel_rfl) fun _=>.done
 ·exact G.callL (st:=adv st) ih ⟨.inr rfl,.inl rfl⟩ (by simp only [adv] at *; omega) fun l s2 _ _ _=>G.lay .done
 ·exact G.call (st:=adv st) (c:=.elements) ih trivial (by simp only [adv] at *; omega) fun v s2 _ _ _=>by cases v <;> first | exact .fail | exact G.lay .done
 ·exact G.callL (st:=adv st) ih trivial (by simp only [adv] at *; omega) fun l s2 _ h2 _=>G.must H (by simp only [adv] at *; omega) h2 (by kernel_rfl) fun _=>G.lay .done
 ·exact G.callN (st:=adv st) ih trivial (by simp only [adv] at *; omega) fun x s2 _ h2 _=>G.must H (by simp only [adv] at *; omega) h2 (by kernel_rfl) fun _=>G.callN (st:=adv s2) ih trivial (by simp only [adv] at *; omega) fun c s4 _ h4 _=>G.must H (by simp only [adv] at *; omega) h4 (by kernel_rfl) fun _=>G.lay .done
 ·exact G.callD (st:=adv st) ih trivial (by simp only [adv] at *; omega) fun m s2 _ _ _=>G.lay .done
 ·exact G.callD (st:=adv st) ih trivial (by simp only [adv] at *; omega) fun m s2 _ _ _=>G.lay .done
 ·exact G.callD (st:=adv st) ih trivial (by simp only [adv] at *; omega) fun m s2 _ _ _=>G.lay .done
 ·exact G.lay (st:=adv st) .done
theorem g_catches:G E1 E2 e n (rule E1 .catches st) (rule E2 .catches (sh st)):=by
 have out:∀ (m:ND) (s:PS) (p:Int),lo≤s.at_→G E1 E2 e n (lay s m fun k s1=>callN .expr s1 fun a s2=>pass1 (.tail (node 21 [] p) [k,a]) s2) (lay (sh s) m fun k s1=>callN .expr s1 fun a s2=>pass1 (.tail (node 21 [] p) [k,a]) s2):=fun m s p h=>
  G.lay (G.callN (st:={ s with nodes:=_ }) ih trivial h fun a s2 (h1:s.at_≤s2.at_) _ _=>G.pass ih trivial (by omega))
 rcases Nat.lt_or_eq_of_le hle with h | h
 ·have hk:=tk_sh H hl h
  have whole:∀ b b':Bool,b'=b→G E1 E2 e n (if b=true then (if ((tk E1 st.at_).k==2&&seq (tk E1 st.at_).s w_under)=true then lay (adv (adv st)) ⟨4,(tk E1 st.at_).s,0,0,[],(tk E1 st.at_).p⟩ fun k s1=>callN .expr s1 fun a s2=>pass1 (.tail (node 21 [] (tk E1 st.at_).p) [k,a]) s2 else if ((tk E1 st.at_).k==1&&((seq (tk E1 st.at_).s w_error || seq (tk E1 st.at_).s w_exit) || seq (tk E1 st.at_).s w_throw))=true then lay (adv (adv st)) ⟨3,(tk E1 st.at_).s,0,0,[],(tk E1 st.at_).p⟩ fun k s1=>callN .expr s1 fun a s2=>pass1 (.tail (node 21 [] (tk E1 st.at_).p) [k,a]) s2 else .fail 24 (tk E1 st.at_).p) else lay st ⟨3,w_throw,0,0,[],(tk E1 st.at_).p⟩ fun k s1=>callN .expr s1 fun a s2=>pass1 (.tail (node 21 [] (tk E1 st.at_).p) [k,a]) s2)
    (if b'=true then (if ((tk E1 st.at_).k==2&&seq (tk E1 st.at_).s w_under)=true then lay (adv (adv (sh st))) ⟨4,(tk E1 st.at_).s,0,0,[],(tk E1 st.at_).p⟩ fun k s1=>callN .expr s1 fun a s2=>pass1 (.tail (node 21 [] (tk E1 st.at_).p) [k,a]) s2 else if ((tk E1 st.at_).k==1&&((seq (tk E1 st.at_).s w_error || seq (tk E1 st.at_).s w_exit) || seq (tk E1 st.at_).s w_throw))=true then lay (adv (adv (sh st))) ⟨3,(tk E1 st.at_).s,0,0,[],(tk E1 st.at_).p⟩ fun k s1=>callN .expr s1 fun a s2=>pass1 (.tail (node 21 [] (tk E1 st.at_).p) [k,a]) s2 else .fail 24 (tk E1 st.at_).p) else lay (sh st) ⟨3,w_throw,0,0,[],(tk E1 st.at_).p⟩ fun k s1=>callN .expr s1 fun a s2=>pass1 (.tail (node 21 [] (tk E1 st.at_).p) [k,a]) s2):=by
   intro b b' h2
   subst h2
   exact G.ite (fun _=>G.ite (fun _=>out _ (adv (adv st)) _ (by simp only [adv] at *; omega)) fun _=>G.ite (fun _=>out _ (adv (adv st)) _ (by simp only [adv] at *; omega)) fun _=>.fail) fun _=>out _ st _ hl
  simp only [rule,hk]
  refine whole _ _ ?_
  show (((tk E1 st.at_).k==1 || (tk E1 st.at_).k==2)&&((tk E2 (st.at_+1+1)).k==6)&&seq (tk E2 (st.at_+1+1)).s w_colon)=_
  rcases Nat.lt_or_eq_of_le (show st.at_+1≤e from h) with h' | h'
  ·rw [H.eq (st.at_+1) (by omega) h']
  ·rw [h',H.k1]
   have e1:seq (tk E2 (e+1)).s w_colon=false:=by rcases H.k2 with k | k <;> rw [k] <;> kernel_rfl
   rw [e1,show seq rbT.s w_colon=false from by kernel_rfl,Bool.and_false,Bool.and_false]
 ·have k2:(tk E2 (sh st).at_).k=6:=by
   rw [show (sh st).at_=e+1 from by show st.at_+1=_; omega]
   rcases H.k2 with k | k <;> rw [k] <;> rfl
  have k1:(tk E1 st.at_).k=6:=by rw [h,H.k1]; rfl
  have e1:rule E1 .catches st=lay st ⟨3,w_throw,0,0,[],(tk E1 st.at_).p⟩ fun k s1=>callN .expr s1 fun a s2=>pass1 (.tail (node 21 [] (tk E1 st.at_).p) [k,a]) s2:=by simp only [rule,k1]; rfl
  have e2:rule E2 .catches (sh st)=lay (sh st) ⟨3,w_throw,0,0,[],(tk E2 (sh st).at_).p⟩ fun k s1=>callN .expr s1 fun a s2=>pass1 (.tail (node 21 [] (tk E2 (sh st).at_).p) [k,a]) s2:=by simp only [rule,k2]; rfl
  rw [e1,e2,H.p1,H.p2]
  exact out _ st _ hl
theorem g_fun {m:ND}:G E1 E2 e n (rule E1 (.fun_ m) st) (rule E2 (.fun_ m) (sh st)):=by
 have two:G E1 E2 e n (callN (.parted .fun1) st fun a st1=>must E1 st1 w_end fun st2=>.done (.d { m with k:=13,l:=[a] }) st2) (callN (.parted .fun1) (sh st) fun a st1=>must E2 st1 w_end fun st2=>.done (.d { m with k:=13,l:=[a] }) st2):=
  G.callN ih (show NT.okc .fun1 from trivial) hl fun a s1 _ h2 _=>G.must H (by omega) h2 (by kernel_rfl) fun _=>.done
 rcases Nat.lt_or_eq_of_le hle with h | h
 ·simp only [rule,tk_sh H hl h]
  refine G.ite (fun _=> ?_) fun _=>two
  refine G.must (st:=adv st) H (by simp only [adv] at *; omega) h (by kernel_rfl) fun h1=> ?_
  exact G.kind (st:=adv (adv st)) H (by simp only [adv] at *; omega) h1 (by decide) fun _=>G.ite (fun _=>.fail) fun _=>.done (st:=adv (adv (adv st)))
 ·have k2:(tk E2 (sh st).at_).k=6:=by
   rw [show (sh st).at_=e+1 from by show st.at_+1=_; omega]
   rcases H.k2 with k | k <;> rw [k] <;> rfl
  have k1:(tk E1 st.at_).k=6:=by rw [h,H.k1]; rfl
  simp only [rule,k1,k2]
  exact two
omit hle in
theorem g_try {m:ND}:G E1 E2 e n (rule E1 (.try_ m) st) (rule E2 (.try_ m) (sh st)):=by
 have k3:∀ (l:List Nat) (q:Int) (s:PS),lo≤s.at_→s.at_≤e→G E1 E2 e n (must E1 s w_end fun s1=>.done (.d { m with k:=16,n:=q,l }) s1) (must E2 (sh s) w_end fun s1=>.done (.d { m with k:=16,n:=q,l }) s1):=fun l q s h1 h2=>G.must H h1 h2 (by kernel_rfl) fun _=>.done
 have k2:∀ (c:Bool) (l:List Nat) (s:PS),lo≤s.at_→s.at_≤e→G E1 E2 e n (if isS E1 s w_after=true then callN .body (adv s) fun b s1=>must E1 s1 w_end fun s2=>.done (.d { m with k:=16,n:=1,l:=l++[b] }) s2 else if c=true then none1 E1 s 19 fun b s1=>must E1 s1 w_end fun s2=>.done (.d { m with k:=16,n:=m.n,l:=l++[b] }) s2 else .fail 24 (pos E1 s))
   (if isS E2 (sh s) w_after=true then callN .body (adv (sh s)) fun b s1=>must E2 s1 w_end fun s2=>.done (.d { m with k:=16,n:=1,l:=l++[b] }) s2 else if c=true then none1 E2 (sh s) 19 fun b s1=>must E2 s1 w_end fun s2=>.done (.d { m with k:=16,n:=m.n,l:=l++[b] }) s2 else .fail 24 (pos E2 (sh s))):=fun c l s h1 h2=>
  G.ifS H h1 h2 (by kernel_rfl) (fun h=>G.callN (st:=adv s) ih trivial (by simp only [adv] at *; omega) fun b s1 _ h3 _=>k3 _ _ _ (by simp only [adv] at *; omega) h3) (G.ite (fun _=>G.none1 H fun s1 h3 _=>k3 _ _ _ (by omega) (by omega)) fun _=>.fail)
 have k1:∀ (l:List Nat) (s:PS),lo≤s.at_→s.at_≤e→G E1 E2 e n (if isS E1 s w_catch=true then callN (.parted .catches) (adv s) fun c s1=>(if isS E1 s1 w_after=true then callN .body (adv s1) fun b s2=>must E1 s2 w_end fun s3=>.done (.d { m with k:=16,n:=1,l:=(l++[c])++[b] }) s3 else if true=true then none1 E1 s1 19 fun b s2=>must E1 s2 w_end fun s3=>.done (.d { m with k:=16,n:=m.n,l:=(l++[c])++[b] }) s3 else .fail 24 (pos E1 s1)) else none1 E1 s 20 fun c s1=>(if isS E1 s1 w_after=true then callN .body (adv s1) fun b s2=>must E1 s2 w_end fun s3=>.done (.d { m with k:=16,n:=1,l:=(l++[c])++[b] }) s3 else if false=true then none1 E1 s1 19 fun b s2=>must E1 s2 w_end fun s3=>.done (.d { m with k:=16,n:=m.n,l:=(l++[c])++[b] }) s3 else .fail 24 (pos E1 s1)))
   (if isS E2 (sh s) w_catch=true then callN (.parted .catches) (adv (sh s)) fun c s1=>(if isS E2 s1 w_after=true then callN .body (adv s1) fun b s2=>must E2 s2 w_end fun s3=>.done (.d { m with k:=16,n:=1,l:=(l++[c])++[b] }) s3 else if true=true then none1 E2 s1 19 fun b s2=>must E2 s2 w_end fun s3=>.done (.d { m with k:=16,n:=m.n,l:=(l++[c])++[b] }) s3 else .fail 24 (pos E2 s1)) else none1 E2 (sh s) 20 fun c s1=>(if isS E2 s1 w_after=true then callN .body (adv s1) fun b s2=>must E2 s2 w_end fun s3=>.done (.d { m with k:=16,n:=1,l:=(l++[c])++[b] }) s3 else if false=true then none1 E2 s1 19 fun b s2=>must E2 s2 w_end fun s3=>.done (.d { m with k:=16,n:=m.n,l:=(l++[c])++[b] }) s3 else .fail 24 (pos E2 s1))):=fun l s h1 h2=>
  G.ifS H h1 h2 (by kernel_rfl) (fun h=>G.callN (st:=adv s) ih (show NT.okc .catches from trivial) (by simp only [adv] at *; omega) fun c s1 _ h3 _=>k2 true _ _ (by simp only [adv] at *; omega) h3) (G.none1 H fun s1 h3 _=>k2 false _ _ (by omega) (by omega))
 exact G.callN ih trivial hl fun b s1 a1 a2 _=>G.ifS H (by omega) a2 (by kernel_rfl) (fun h=>G.callN (st:=adv s1) ih trivial (by simp only [adv] at *; omega) fun c s2 _ h3 _=>k1 _ _ (by simp only [adv] at *; omega) h3) (G.none1 H fun s2 h3 _=>k1 _ _ (by omega) (by omega))
theorem g_receive {m:ND}:G E1 E2 e n (rule E1 (.receive m) st) (rule E2 (.receive m) (sh st)):=by
 have k3:∀ (l:List Nat) (q:Int) (s:PS),lo≤s.at_→s.at_≤e→G E1 E2 e n (must E1 s w_end fun s1=>.done (.d { m with k:=18,n:=q,l }) s1) (must E2 (sh s) w_end fun s1=>.done (.d { m with k:=18,n:=q,l }) s1):=fun l q s h1 h2=>G.must H h1 h2 (by kernel_rfl) fun _=>.done
 have k4:∀ (l:List Nat) (q:Int) (s:PS),lo≤s.at_→s.at_+1 < e→G E1 E2 e n (must E1 (adv (adv s)) w_arrow fun s1=>callN .body s1 fun b s2=>must E1 s2 w_end fun s3=>.done (.d { m with k:=18,n:=q,l:=l++[b] }) s3) (must E2 (adv (adv (sh s))) w_arrow fun s1=>callN .body s1 fun b s2=>must E2 s2 w_end fun s3=>.done (.d { m with k:=18,n:=q,l:=l++[b] }) s3):=fun l q s h1 h2=>
  G.must (st:=adv (adv s)) H (by simp only [adv] at *; omega) (by simp only [adv] at *; omega) (by kernel_rfl) fun h=>G.callN (st:=adv (adv (adv s))) ih trivial (by simp only [adv] at *; omega) fun b s2 _ h3 _=>k3 _ _ _ (by simp only [adv] at *; omega) h3
 have k2:∀ (c:Bool) (l:List Nat) (s:PS),lo≤s.at_→s.at_≤e→G E1 E2 e n (if isS E1 s w_after=true then
    (if ((tk E1 (s.at_+1)).k==3&&(tk E1 (s.at_+1)).n==0)=true then must E1 (adv (adv s)) w_arrow fun s1=>callN .body s1 fun b s2=>must E1 s2 w_end fun s3=>.done (.d { m with k:=18,n:=1,l:=l++[b] }) s3
    else if ((tk E1 (s.at_+1)).k==1&&seq (tk E1 (s.at_+1)).s w_infinity)=true then must E1 (adv (adv s)) w_arrow fun s1=>callN .body s1 fun b s2=>must E1 s2 w_end fun s3=>.done (.d { m with k:=18,n:=2,l:=l++[b] }) s3 else .fail 24 (tk E1 (s.at_+1)).p)
    else if c=true then none1 E1 s 19 fun b s1=>must E1 s1 w_end fun s2=>.done (.d { m with k:=18,n:=m.n,l:=l++[b] }) s2 else .fail 24 (pos E1 s))
   (if isS E2 (sh s) w_after=true then
    (if ((tk E2 ((sh s).at_+1)).k==3&&(tk E2 ((sh s).at_+1)).n==0)=true then must E2 (adv (adv (sh s))) w_arrow fun s1=>callN .body s1 fun b s2=>must E2 s2 w_end fun s3=>.done (.d { m with k:=18,n:=1,l:=l++[b] }) s3
    else if ((tk E2 ((sh s).at_+1)).k==1&&seq (tk E2 ((sh s).at_+1)).s w_infinity)=true then must E2 (adv (adv (sh s))) w_arrow fun s1=>callN .body s1 fun b s2=>must E2 s2 w_end fun s3=>.done (.d { m with k:=18,n:=2,l:=l++[b] }) s3 else .fail 24 (tk E2 ((sh s).at_+1)).p)
    else if c=true then none1 E2 (sh s) 19 fun b s1=>must E2 s1 w_end fun s2=>.done (.d { m with k:=18,n:=m.n,l:=l++[b] }) s2 else .fail 24 (pos E2 (sh s))):=by
  intro c l s h1 h2
  refine G.ifS H h1 h2 (by kernel_rfl) (fun h=> ?_) (G.ite (fun _=>G.none1 H fun s1 h3 _=>k3 _ _ _ (by omega) (by omega)) fun _=>.fail)
  rcases Nat.lt_or_eq_of_le (show s.at_+1≤e from h) with h' | h'
  ·rw [show (sh s).at_+1=s.at_+1+1 from rfl,H.eq (s.at_+1) (by omega) h']
   exact G.ite (fun _=>k4 _ _ _ h1 h') fun _=>G.ite (fun _=>k4 _ _ _ h1 h') fun _=>.fail
  ·rw [h',H.k1]
   rw [if_neg (show ¬ ((rbT.k==3&&rbT.n==0)=true) from by decide),if_neg (show ¬ ((rbT.k==1&&seq rbT.s w_infinity)=true) from by rw [show (rbT.k==1)=false from rfl]; simp)]
   exact .fail
 exact G.ifS H hl hle (by kernel_rfl) (fun h=>G.none1 H fun s1 h3 _=>k2 false _ _ (by omega) (by omega)) (G.callN ih trivial hl fun c s1 _ h3 _=>k2 true _ _ (by omega) h3)
theorem g_rule (c:NT) (hc:c.okc):G E1 E2 e n (rule E1 c st) (rule E2 c (sh st)):=by
 have hp:pos E2 (sh st)=pos E1 st:=pos_sh H
 cases c with
 | module=>exact hc.elim
 | moduleL s p l=>exact hc.elim
 | function=>exact hc.elim
 | functionL l p=>exact hc.elim
 | named=>exact hc.elim
 | list s m=>exact g_list H ih hl hle hc.1 hc.2
 | some m=>exact G.callN ih trivial hl fun a s1 h1 _ _=>G.pass ih trivial (by omega)
 | someL m l=>exact G.ifS H hl hle (by kernel_rfl) (fun h=>G.ite (fun _=>.fail) fun _=>G.callN (st:=adv st) ih trivial (by simp only [adv] at *; omega) fun a s1 h1 _ _=>G.pass ih trivial (by simp only [adv] at *; omega)) .done
 | exprs=>exact G.pass ih trivial hl
 | tail m l=>exact g_tail H ih hl hle
 | body=>
  refine G.callL ih trivial hl fun l s1 h1 _ _=> ?_
  rw [hp]; exact G.lay .done
 | expr=>exact g_expr H ih hl hle
 | right x y g=>exact g_right H ih hl hc.1 hc.2.1 hc.2.2
 | left x g=>
  refine G.callN ih hc.1 hl fun a s1 h1 _ _=> ?_
  rw [hp]; exact G.pass ih ⟨hc.1,hc.2⟩ (by omega)
 | leftL x g a p=>exact g_leftL H ih hl hle hc.1 hc.2
 | either=>exact G.pass ih (c:=.right .both .either [w_orelse]) ⟨trivial,trivial,(by kernel_rfl)⟩ hl
 | both=>exact G.pass ih (c:=.right .compare .both [w_andalso]) ⟨trivial,trivial,(by kernel_rfl)⟩ hl
 | compare=>exact G.pass ih (c:=.right .append .append [w_eqeq,w_ne,w_le,w_lt,w_ge,w_gt,w_same,w_nsame]) ⟨trivial,trivial,(by kernel_rfl)⟩ hl
 | append=>exact G.pass ih (c:=.right .add .append [w_cat]) ⟨trivial,trivial,(by kernel_rfl)⟩ hl
 | add=>exact G.pass ih (c:=.left .mul [w_plus,w_minus]) ⟨trivial,(by kernel_rfl)⟩ hl
 | mul=>exact G.pass ih (c:=.left .unary [w_star,w_slash,w_div,w_rem]) ⟨trivial,(by kernel_rfl)⟩ hl
 | unary=>exact G.pass ih trivial hl
 | unaryL g=>exact g_unaryL H ih hl hle
 | call=>exact g_call H ih hl hle
 | calls a p=>exact G.ifS H hl hle (by kernel_rfl) (fun h=>G.callL (st:=adv st) ih ⟨.inl rfl,.inr rfl⟩ (by simp only [adv] at *; omega) fun l s1 h1 _ _=>G.lay (G.pass (st:={ s1 with nodes:=_ }) ih trivial (by show lo≤s1.at_; simp only [adv] at *; omega))) .done
 | primary=>exact g_primary H ih hl hle
 | other m=>exact g_other H ih hl hle
 | elements=>
  exact G.ifS H hl hle (by kernel_rfl) (fun h=>.done (st:=adv st)) (G.callL ih trivial hl fun l s1 h1 h2 _=>G.ifS H (by omega) h2 (by kernel_rfl) (fun h=>G.callN (st:=adv s1) ih trivial (by simp only [adv] at *; omega) fun a s2 _ h4 _=>G.must H (by simp only [adv] at *; omega) h4 (by kernel_rfl) fun _=>.done) (G.must H (by omega) h2 (by kernel_rfl) fun _=>.done))
 | clauses=>exact G.pass ih (c:=.parted .clause) trivial hl
 | parted x=>
  refine G.callN ih hc hl fun a s1 h1 _ _=> ?_
  rw [hp]; exact G.pass ih hc (by omega)
 | partedL x l p=>exact G.ifS H hl hle (by kernel_rfl) (fun h=>G.callN (st:=adv st) ih hc (by simp only [adv] at *; omega) fun a s1 h1 _ _=>G.pass ih hc (by simp only [adv] at *; omega)) (G.lay .done)
 | clause=>
  refine G.callN ih trivial hl fun a s1 h1 _ _=> ?_
  rw [hp]; exact G.pass ih trivial (by omega)
 | catches=>exact g_catches H ih hl hle
 | fun1=>
  simp only [rule,hp]
  refine G.must H hl hle (by kernel_rfl) fun h=> ?_
  exact G.callL (st:=adv st) ih ⟨.inl rfl,.inr rfl⟩ (by simp only [adv] at *; omega) fun l s2 h1 _ _=>G.pass ih trivial (by simp only [adv] at *; omega)
 | fun_ m=>exact g_fun H ih hl hle
 | try_ m=>exact g_try H ih hl
 | receive m=>exact g_receive H ih hl hle
end
theorem pn_all {E1 E2:List TK} {lo e:Nat} (H:TwH E1 E2 lo e):∀ n,Pn E1 E2 lo e n
 | 0=>fun c st hc hl m hm=>absurd hm (Nat.not_lt_zero m)
 | n+1=>fun c st hc hl m hm v s' hr hs=>by
  have hle:st.at_≤e:=by have:=(run_mn m (mn_rule c st) hr).1; omega
  exact (g_rule H (pn_all H n) hl hle c hc) _ _ _ (mn_rule c st) m (by omega) v s' hr hs
theorem twin {E1 E2:List TK} {lo e:Nat} (H:TwH E1 E2 lo e) {c:NT} {st s':PS} {v:Val} (hc:c.okc) (hl:lo≤st.at_) (ev:Ev E1 (rule E1 c st) (.ok v s')) (hs:s'.at_≤e):Ev E2 (rule E2 c (sh st)) (.ok v (sh s'))∨∃ q,Ev E2 (rule E2 c (sh st)) (.err 25 q):=by
 obtain ⟨n,hn⟩:=ev
 exact pn_all H (n+1) c st hc hl n (Nat.lt_succ_self n) v s' hn hs
end Go.Am.Rl
namespace Go.Am.Rl
open Go.Proofs
section
variable {E:List TK} {st s:PS} {v:Val} {n:Nat}
theorem run_callN {c:NT} {k:Nat→PS→IT} (h:run E n (callN c st k)=some (.ok v s)):∃ m,m < n∧∃ a s1,run E m (rule E c st)=some (.ok (.n a) s1)∧run E m (k a s1)=some (.ok v s):=by
 cases n with
 | zero=>simp [callN,run] at h
 | succ n=>
  simp only [callN,run] at h
  cases h1:run E n (rule E c st) with
  | none=>rw [h1] at h; cases h
  | some x=>
   rw [h1] at h
   cases x with
   | err a q=>simp at h
   | ok v1 s1=>
    cases v1 with
    | n a=>exact ⟨n,Nat.lt_succ_self n,a,s1,h1,h⟩
    | l a=>cases n <;> simp [run] at h
    | d a=>cases n <;> simp [run] at h
    | e a b=>cases n <;> simp [run] at h
theorem run_callL {c:NT} {k:List Nat→PS→IT} (h:run E n (callL c st k)=some (.ok v s)):∃ m,m < n∧∃ a s1,run E m (rule E c st)=some (.ok (.l a) s1)∧run E m (k a s1)=some (.ok v s):=by
 cases n with
 | zero=>simp [callL,run] at h
 | succ n=>
  simp only [callL,run] at h
  cases h1:run E n (rule E c st) with
  | none=>rw [h1] at h; cases h
  | some x=>
   rw [h1] at h
   cases x with
   | err a q=>simp at h
   | ok v1 s1=>
    cases v1 with
    | l a=>exact ⟨n,Nat.lt_succ_self n,a,s1,h1,h⟩
    | n a=>cases n <;> simp [run] at h
    | d a=>cases n <;> simp [run] at h
    | e a b=>cases n <;> simp [run] at h
theorem run_done {w:Val} {s1:PS} (h:run E n (.done w s1)=some (.ok v s)):v=w∧s=s1:=by
 cases n <;> (simp only [run,Option.some.injEq,Out1.ok.injEq] at h; exact ⟨h.1.symm,h.2.symm⟩)
theorem run_fail {e q:Int} (h:run E n (.fail e q)=some (.ok v s)):False:=by
 cases n <;> simp [run] at h
theorem run_pass {c:NT} (h:run E n (pass1 c st)=some (.ok v s)):∃ m,m < n∧run E m (rule E c st)=some (.ok v s):=by
 cases n with
 | zero=>simp [pass1,run] at h
 | succ n=>
  simp only [pass1,run] at h
  cases h1:run E n (rule E c st) with
  | none=>rw [h1] at h; cases h
  | some x=>
   rw [h1] at h
   cases x with
   | err a q=>simp at h
   | ok v1 s1=>
    simp only [Option.some.injEq,Out1.ok.injEq] at h
    obtain ⟨rfl,rfl⟩:=h
    exact ⟨n,Nat.lt_succ_self n,h1⟩
theorem run_lay {m:ND} {k:Nat→PS→IT} (h:run E n (lay st m k)=some (.ok v s)):run E n (k st.nodes.length { st with nodes:=st.nodes++[m] })=some (.ok v s):=by
 unfold lay at h
 split at h
 ·exact (run_fail h).elim
 ·exact h
theorem run_must {w:ByteArray} {k:PS→IT} (h:run E n (must E st w k)=some (.ok v s)):isS E st w=true∧run E n (k (adv st))=some (.ok v s):=by
 unfold must at h
 split at h
 ·exact ⟨by assumption,h⟩
 ·exact (run_fail h).elim
theorem run_kind {d:Int} {k:TK→PS→IT} (h:run E n (kind E st d k)=some (.ok v s)):run E n (k (tk E st.at_) (adv st))=some (.ok v s):=by
 unfold kind at h
 split at h
 ·exact h
 ·exact (run_fail h).elim
theorem run_grow {c:NT} (h:run E n (rule E c st)=some (.ok v s)):st.at_≤s.at_∧st.nodes <+: s.nodes∧s.deep=st.deep:=Ev.grow ⟨n,h⟩
def Wr (v:Val) (s:PS):Prop:=∃ a A,v = .n a∧s.nodes[a]? = some A∧A.k≠6
theorem wr_lay {m:ND} {s1:PS} (hm:m.k≠6) (h:run E n (lay s1 m fun i st3=>.done (.n i) st3)=some (.ok v s)):Wr v s:=by
 obtain ⟨rfl,rfl⟩:=run_done (run_lay h)
 exact ⟨_,m,rfl,by simp,hm⟩
theorem right_inv {x y:NT} {g:List ByteArray} (h:run E n (rule E (.right x y g) st)=some (.ok v s)):(∃ m a,m < n∧v = .n a∧run E m (rule E x st)=some (.ok (.n a) s))∨Wr v s:=by
 obtain ⟨m,hm,a,s1,h1,h2⟩:=run_callN h
 split at h2
 ·obtain ⟨rfl,rfl⟩:=run_done h2
  exact .inl ⟨m,a,hm,rfl,h1⟩
 ·obtain ⟨m2,_,b,s2,_,h4⟩:=run_callN h2
  exact .inr (wr_lay (by show (9:Int)≠6; decide) h4)
theorem leftL_inv {x:NT} {g:List ByteArray}:∀ (n:Nat) {a:Nat} {p:Int} {st:PS},run E n (rule E (.leftL x g a p) st)=some (.ok v s)→(v = .n a∧s=st)∨Wr v s:=by
 intro n
 induction n using Nat.strongRecOn with
 | ind n ih=>
  intro a p st h
  simp only [rule] at h
  split at h
  ·exact .inl (run_done h)
  ·obtain ⟨m,hm,b,s1,h1,h2⟩:=run_callN h
   have h3:=run_lay h2
   obtain ⟨m2,hm2,h4⟩:=run_pass h3
   rcases ih m2 (by omega) h4 with ⟨rfl,rfl⟩ | w
   ·exact .inr ⟨_,⟨9,anyS E st g,0,0,[a,b],p⟩,rfl,by simp,by show (9:Int)≠6; decide⟩
   ·exact .inr w
theorem left_inv {x:NT} {g:List ByteArray} (h:run E n (rule E (.left x g) st)=some (.ok v s)):(∃ m a,m < n∧v = .n a∧run E m (rule E x st)=some (.ok (.n a) s))∨Wr v s:=by
 obtain ⟨m,hm,a,s1,h1,h2⟩:=run_callN h
 obtain ⟨m2,hm2,h3⟩:=run_pass h2
 rcases leftL_inv m2 h3 with ⟨rfl,rfl⟩ | w
 ·exact .inl ⟨m,a,hm,rfl,h1⟩
 ·exact .inr w
theorem calls_inv:∀ (n:Nat) {a:Nat} {p:Int} {st:PS},run E n (rule E (.calls a p) st)=some (.ok v s)→(v = .n a∧s=st)∨Wr v s:=by
 intro n
 induction n using Nat.strongRecOn with
 | ind n ih=>
  intro a p st h
  simp only [rule] at h
  split at h
  ·obtain ⟨m,hm,b,s1,h1,h2⟩:=run_callL h
   have h3:=run_lay h2
   obtain ⟨m2,hm2,h4⟩:=run_pass h3
   rcases ih m2 (by omega) h4 with ⟨rfl,rfl⟩ | w
   ·exact .inr ⟨_,node 12 (a::b) p,rfl,by simp,by show (12:Int)≠6; decide⟩
   ·exact .inr w
  ·exact .inl (run_done h)
theorem someL_inv:∀ (n:Nat) {m:Int} {l:List Nat} {st:PS},run E n (rule E (.someL m l) st)=some (.ok v s)→∃ t,v = .l (l++t)∧(t=[]→s=st):=by
 intro n
 induction n using Nat.strongRecOn with
 | ind n ih=>
  intro m l st h
  simp only [rule] at h
  split at h
  ·split at h
   ·exact (run_fail h).elim
   ·obtain ⟨m1,hm1,a,s1,h1,h2⟩:=run_callN h
    obtain ⟨m2,hm2,h3⟩:=run_pass h2
    obtain ⟨t,rfl,_⟩:=ih m2 (by omega) h3
    exact ⟨a::t,by rw [List.append_assoc]; rfl,fun h=>by cases h⟩
  ·obtain ⟨rfl,rfl⟩:=run_done h
   exact ⟨[],by rw [List.append_nil],fun _=>rfl⟩
theorem functionL_inv:∀ (n:Nat) {l:List Nat} {p:Int} {st:PS},run E n (rule E (.functionL l p) st)=some (.ok v s)→∃ t s1 f,v = .n (s1.nodes.length+1)∧(t=[]→s1=st)∧st.nodes <+: s1.nodes∧isS E s1 w_dot=true∧s=⟨s1.at_+1,s1.deep,s1.nodes++[node 20 (l++t) p]++[f]⟩∧f=⟨23,(s1.nodes.getD ((l++t).headD 0) (node 0 [] 0)).s,(s1.nodes.getD ((l++t).headD 0) (node 0 [] 0)).n,0,[s1.nodes.length],p⟩:=by
 intro n
 induction n using Nat.strongRecOn with
 | ind n ih=>
  intro l p st h
  simp only [rule] at h
  split at h
  ·obtain ⟨m1,hm1,a,s1,h1,h2⟩:=run_callN h
   obtain ⟨m2,hm2,h3⟩:=run_pass h2
   obtain ⟨t,s2,f,h4,_,h5,h6,h7,h8⟩:=ih m2 (by omega) h3
   have e:l++[a]++t=l++(a::t):=by rw [List.append_assoc]; rfl
   rw [e] at h7 h8
   exact ⟨a::t,s2,f,h4,fun h=>(by cases h),(show (adv st).nodes <+: s1.nodes from (run_grow h1).2.1).trans h5,h6,h7,h8⟩
  ·have h1:=run_must (run_lay h)
   obtain ⟨rfl,rfl⟩:=run_done (run_lay h1.2)
   refine ⟨[],st,_,by simp [adv],fun _=>rfl,List.prefix_rfl,h1.1,?_,rfl⟩
   simp only [adv,List.append_nil]
theorem moduleL_inv {q:ByteArray}:∀ (n:Nat) {p:Int} {l:List Nat} {st:PS},run E n (rule E (.moduleL q p l) st)=some (.ok v s)→∃ t s1,v = .n s1.nodes.length∧(t=[]→s1=st)∧st.nodes <+: s1.nodes∧(tk E s1.at_).k=8∧s.nodes=s1.nodes++[⟨24,q,0,0,l++t,p⟩]:=by
 intro n
 induction n using Nat.strongRecOn with
 | ind n ih=>
  intro p l st h
  simp only [rule] at h
  split at h
  ·obtain ⟨m1,hm1,a,s1,h1,h2⟩:=run_callN h
   obtain ⟨m2,hm2,h3⟩:=run_pass h2
   obtain ⟨t,s2,h4,_,h5,h6,h7⟩:=ih m2 (by omega) h3
   rw [List.append_assoc] at h7
   exact ⟨a::t,s2,h4,fun h=>(by cases h),(run_grow h1).2.1.trans h5,h6,h7⟩
  ·rename_i hk
   obtain ⟨rfl,rfl⟩:=run_done (run_lay h)
   refine ⟨[],st,rfl,fun _=>rfl,List.prefix_rfl,by simpa using hk,by rw [List.append_nil]⟩
def Inn (E:List TK) (st:PS) (v:Val) (s:PS):Prop:=∃ a A,v = .n a∧s.nodes[a]? = some A∧(A.k=6→A.l.length=1→∃ a0 s0,Ev E (rule E .expr (adv st)) (.ok (.n a0) s0)∧isS E s0 w_rb=true∧s=⟨s0.at_+1,s0.deep,s0.nodes++[node 6 [a0] 0]⟩∧a=s0.nodes.length)
theorem Wr.inn (h:Wr v s) (st:PS):Inn E st v s:=by
 obtain ⟨a,A,h1,h2,h3⟩:=h
 exact ⟨a,A,h1,h2,fun h=>absurd h h3⟩
theorem list_one {l:List Nat} (h:run E n (rule E (.list w_rb 0) st)=some (.ok (.l l) s)) (h1:l.length=1):∃ a0 s0,l=[a0]∧Ev E (rule E .expr st) (.ok (.n a0) s0)∧isS E s0 w_rb=true∧s=adv s0:=by
 simp only [rule] at h
 split at h
 ·have:=(run_done h).1
  injection this with this
  rw [this] at h1; cases h1
 ·obtain ⟨m1,hm1,l1,s1,h2,h3⟩:=run_callL h
  obtain ⟨h4,h5⟩:=run_must h3
  obtain ⟨e1,rfl⟩:=run_done h5
  injection e1 with e1
  subst e1
  obtain ⟨m2,hm2,a0,s0,h6,h7⟩:=run_callN h2
  obtain ⟨m3,hm3,h8⟩:=run_pass h7
  obtain ⟨t,e2,e3⟩:=someL_inv m3 h8
  injection e2 with e2
  have ht:t=[]:=by
   rw [e2] at h1
   simp at h1; exact h1
  have:=e3 ht
  subst this
  rw [ht] at e2
  exact ⟨a0,_,e2,⟨m2,h6⟩,h4,rfl⟩
theorem other_inn {m:ND} (hm:m.p=0∧m.s=⟨#[]⟩∧m.n=0∧m.f=0) (ht:tk E st.at_=lbT) (h:run E n (rule E (.other m) st)=some (.ok v s)):Inn E st v s:=by
 have hs:Sign (tk E st.at_):=by rw [ht]; exact .inl rfl
 have ha:anyS E st [w_lp,w_lb,w_lk,w_begin,w_case,w_fun,w_try,w_receive]=w_lb:=by rw [anyS_sign hs,ht]; exact seq_eq (by kernel_rfl)
 simp only [rule,ha] at h
 rw [if_neg (by rw [show seq w_lb empty=false from by kernel_rfl]; simp),if_neg (by rw [show seq w_lb w_lp=false from by kernel_rfl]; simp),if_pos (by kernel_rfl)] at h
 obtain ⟨m1,hm1,l,s1,h1,h2⟩:=run_callL h
 obtain ⟨rfl,rfl⟩:=run_done (run_lay h2)
 refine ⟨_,{ m with k:=6,l:=l },rfl,by simp,fun _ hl=> ?_⟩
 obtain ⟨a0,s0,rfl,ev,h3,rfl⟩:=list_one h1 hl
 refine ⟨a0,s0,ev,h3,?_,rfl⟩
 have:({ m with k:=6,l:=[a0] }:ND)=node 6 [a0] 0:=by
  obtain ⟨e1,e2,e3,e4⟩:=hm
  cases m
  simp only at e1 e2 e3 e4
  rw [e1,e2,e3,e4]; rfl
 rw [this]; rfl
theorem expr_inn (hp:∀ i,(tk E i).p=0) (ht:tk E st.at_=lbT) (h:run E n (rule E .expr st)=some (.ok v s)):∃ s1,Inn E { st with deep:=st.deep+1 } v s1∧s.at_=s1.at_∧s.nodes=s1.nodes∧s.deep=st.deep:=by
 have hd:=(run_grow h).2.2
 simp only [rule] at h
 split at h
 ·exact (run_fail h).elim
 have hs:Sign (tk E st.at_):=by rw [ht]; exact .inl rfl
 have hc:isS E { st with deep:=st.deep+1 } w_catch=false:=isS_of (x:=lbT) ht (by kernel_rfl)
 rw [hc,if_neg (by simp)] at h
 obtain ⟨m1,_,a,s1,h1,h2⟩:=run_callN h
 have out:∀ {k:Nat} {m:ND} {s3:PS},m.k≠6→run E k (lay s3 m fun i s=>.done (.n i) { s with deep:=s.deep - 1 })=some (.ok v s)→∃ s1,Inn E { st with deep:=st.deep+1 } v s1∧s.at_=s1.at_∧s.nodes=s1.nodes∧s.deep=st.deep:=by
  intro k m s3 hm hr
  obtain ⟨rfl,e⟩:=run_done (run_lay hr)
  refine ⟨s,(show Wr _ s from ⟨_,m,rfl,by rw [e]; simp,hm⟩).inn _,rfl,rfl,hd⟩
 split at h2
 ·obtain ⟨m2,_,b,s2,_,h4⟩:=run_callN h2
  exact out (by show (10:Int)≠6; decide) h4
 split at h2
 ·obtain ⟨m2,_,b,s2,_,h4⟩:=run_callN h2
  exact out (by show (9:Int)≠6; decide) h4
 obtain ⟨rfl,e⟩:=run_done h2
 refine ⟨s1,?_,by rw [e],by rw [e],hd⟩
 obtain ⟨st',hst'⟩:∃ st',st'={ st with deep:=st.deep+1 }:=⟨_,rfl⟩
 have ht':tk E st'.at_=lbT:=by rw [hst']; exact ht
 rw [← hst'] at h1 ⊢
 have hs':Sign (tk E st'.at_):=by rw [ht']; exact .inl rfl
 obtain ⟨_,_,h1⟩:=run_pass (c:=.right .both .either [w_orelse]) h1
 rcases right_inv h1 with ⟨_,_,_,e1,h1⟩ | w
 rotate_left
 ·exact w.inn _
 obtain ⟨_,_,h1⟩:=run_pass (c:=.right .compare .both [w_andalso]) h1
 rcases right_inv h1 with ⟨_,_,_,e2,h1⟩ | w
 rotate_left
 ·rw [e1]; exact w.inn _
 obtain ⟨_,_,h1⟩:=run_pass (c:=.right .append .append [w_eqeq,w_ne,w_le,w_lt,w_ge,w_gt,w_same,w_nsame]) h1
 rcases right_inv h1 with ⟨_,_,_,e3,h1⟩ | w
 rotate_left
 ·rw [e1,e2]; exact w.inn _
 obtain ⟨_,_,h1⟩:=run_pass (c:=.right .add .append [w_cat]) h1
 rcases right_inv h1 with ⟨_,_,_,e4,h1⟩ | w
 rotate_left
 ·rw [e1,e2,e3]; exact w.inn _
 obtain ⟨_,_,h1⟩:=run_pass (c:=.left .mul [w_plus,w_minus]) h1
 rcases left_inv h1 with ⟨_,_,_,e5,h1⟩ | w
 rotate_left
 ·rw [e1,e2,e3,e4]; exact w.inn _
 obtain ⟨_,_,h1⟩:=run_pass (c:=.left .unary [w_star,w_slash,w_div,w_rem]) h1
 rcases left_inv h1 with ⟨_,_,_,e6,h1⟩ | w
 rotate_left
 ·rw [e1,e2,e3,e4,e5]; exact w.inn _
 rw [e1,e2,e3,e4,e5,e6]
 obtain ⟨_,_,h1⟩:=run_pass (c:=.unaryL []) h1
 have hu:anyS E st' [w_minus,w_not]=⟨#[]⟩:=by rw [anyS_sign hs',ht']; exact seq_eq (by kernel_rfl)
 simp only [rule,hu] at h1
 rw [if_pos seq_nil] at h1
 obtain ⟨_,_,b,s5,h3,h4⟩:=run_callN h1
 obtain ⟨e7,rfl⟩:=run_done (show run E _ (.done (.n b) s5)=_ from h4)
 rw [e7]
 simp only [rule,ht'] at h3
 rw [if_neg (show ¬ ((lbT.k==1&&_&&_)=true) from by rw [show (lbT.k==1)=false from rfl]; simp)] at h3
 obtain ⟨_,_,b2,s6,h5,h6⟩:=run_callN h3
 obtain ⟨_,_,h7⟩:=run_pass h6
 rcases calls_inv _ h7 with ⟨e8,rfl⟩ | w
 rotate_left
 ·exact w.inn _
 rw [e8]
 have e9:rule E .primary st'=pass1 (.other (node 0 [] 0)) st':=by simp only [rule,ht']; rfl
 rw [e9] at h5
 obtain ⟨_,_,h5⟩:=run_pass h5
 exact other_inn ⟨rfl,rfl,rfl,rfl⟩ ht' h5
end
end Go.Am.Rl
namespace Go.Am.Rl
open Go.Proofs
def tailN (a L:Nat):List ND:=[node 6 [a] 0,node 19 [L] 0,⟨21,w_f,0,0,[0,L+1],0⟩,node 20 [L+2] 0,⟨23,w_f,0,0,[L+3],0⟩,⟨24,w_m,0,0,[L+4],0⟩]
theorem isS_pos {E:List TK} {s s':PS} (h:s.at_=s'.at_) (w:ByteArray):isS E s w=isS E s' w:=by unfold isS; rw [h]
theorem pre_at {N M:List ND} {i:Nat} {x:ND} (h:N <+: M) (hx:N[i]? = some x):M[i]? = some x:=by
 obtain ⟨t,rfl⟩:=h
 rw [List.getElem?_append_left (List.getElem?_eq_some_iff.mp hx).1]; exact hx
structure Shape (E:List TK) (i:Nat) (N:List ND):Prop where
 sh:∃ f fs cl c cs b a az mF mC mK mB A,N[i]? = some ⟨24,w_m,0,0,f::fs,0⟩∧N[f]? = some mF∧mF.l=[cl]∧N[cl]? = some mC∧mC.l=c::cs∧N[c]? = some mK∧mK.l=[0,b]∧N[b]? = some mB∧mB.l=a::az∧N[a]? = some A∧
  (fs=[]→cs=[]→az=[]→A.k=6→A.l.length=1→∃ a0 s0,Ev E (rule E .expr ⟨11,1,[node 22 [] 0]⟩) (.ok (.n a0) s0)∧isS E s0 w_rb=true∧isS E (adv s0) w_dot=true∧(tk E (s0.at_+2)).k=8∧i=s0.nodes.length+5∧N=s0.nodes++tailN a0 s0.nodes.length)
section
variable {E:List TK} {st:PS} {v:Val}
theorem shape (hE:∀ i,(tk E i).p=0) (h0:TkAt E 0 ptoks) (hlb:tk E 10=lbT) (ev:Ev E (rule E .module ⟨0,0,[]⟩) (.ok v st)):∃ i,v = .n i∧Shape E i st.nodes:=by
 have t1:tk E 1=_:=h0 1 _ rfl
 have t3:tk E 3=_:=h0 3 _ rfl
 have t6:tk E 6=_:=h0 6 _ rfl
 have t8:tk E 8=_:=h0 8 _ rfl
 have t9:tk E 9=_:=h0 9 _ rfl
 have hpos:∀ st:PS,pos E st=0:=fun st=>hE _
 obtain ⟨n,h⟩:=ev
 simp only [rule] at h
 have h:=run_kind (run_must h).2
 rw [if_pos (show seq (tk E (adv ⟨0,0,[]⟩).at_).s w_module=true by show seq (tk E 1).s w_module=true; rw [t1]; kernel_rfl)] at h
 have h:=run_kind (run_must h).2
 have h:=(run_must (run_must h).2).2
 obtain ⟨n1,_,h⟩:=run_pass h
 have h:run E n1 (rule E (.moduleL (tk E 3).s (pos E ⟨6,0,[]⟩) []) ⟨6,0,[]⟩)=some (.ok v st):=by rw [hpos]; rw [hpos] at h; exact h
 rw [t3,hpos] at h
 simp only [rule] at h
 rw [if_pos (show ((tk E (6:Nat)).k != 8)=true by rw [t6]; rfl)] at h
 obtain ⟨n2,_,f,s1,hf,h⟩:=run_callN h
 obtain ⟨n3,_,h⟩:=run_pass h
 obtain ⟨fs,s2,rfl,m1,m2,m3,m4⟩:=moduleL_inv n3 h
 simp only [rule] at hf
 obtain ⟨n4,_,c,s3,hc,h⟩:=run_callN hf
 obtain ⟨n5,_,h⟩:=run_pass h
 rw [hpos] at h
 obtain ⟨cs,s4,mF,f1,f2,f3,f4,f5,f6⟩:=functionL_inv n5 h
 injection f1 with f1
 simp only [rule] at hc
 have hc:=(run_must (run_kind hc)).2
 obtain ⟨n6,_,l,s9,hl,hc⟩:=run_callL hc
 simp only [rule] at hl
 rw [if_pos (show isS E _ w_rp=true from isS_of (x:=rpT) t8 (by kernel_rfl))] at hl
 obtain ⟨e1,rfl⟩:=run_done hl
 injection e1 with e1
 subst e1
 obtain ⟨n7,_,hc⟩:=run_pass hc
 simp only [rule] at hc
 rw [if_neg (show ¬ (isS E _ w_when=true) by rw [isS_of (E:=E) (x:=⟨6,w_arrow,0,0,0⟩) (s:=w_when) (b:=false) t9 (by kernel_rfl)]; simp)] at hc
 have hc:=(run_must (run_lay hc)).2
 obtain ⟨n8,_,b,s5,hb,hc⟩:=run_callN hc
 obtain ⟨e2,e3⟩:=run_done (run_lay hc)
 injection e2 with e2
 have hb:run E n8 (rule E .body ⟨10,0,[node 22 [] (pos E ⟨9,0,[]⟩)]⟩)=some (.ok (.n b) s5):=hb
 rw [hpos] at hb
 simp only [rule] at hb
 obtain ⟨n9,_,l,s6,hl,hb⟩:=run_callL hb
 obtain ⟨e4,e5⟩:=run_done (run_lay hb)
 injection e4 with e4
 obtain ⟨n10,_,hl⟩:=run_pass (c:=.some 0) hl
 obtain ⟨n11,_,a,s7,ha,hl⟩:=run_callN hl
 obtain ⟨n12,_,hl⟩:=run_pass hl
 have gl:=(run_grow hl).2.1
 obtain ⟨az,e6,e7⟩:=someL_inv n12 hl
 injection e6 with e6
 obtain ⟨s8,⟨a',A,e8,hA,hin⟩,g1,g2,g3⟩:=expr_inn hE hlb ha
 injection e8 with e8
 subst e8
 rw [hpos] at e5
 have hclause:s3={ s5 with nodes:=s5.nodes++[⟨21,w_f,0,0,[0,b],0⟩] }:=by
  rw [e3]
  have e9:(tk E (PS.mk 6 0 []).at_)=_:=t6
  rw [e9]; rfl
 have p37:s7.nodes <+: st.nodes:=by
  rw [m4]
  refine gl.trans ?_
  have p65:s6.nodes <+: s5.nodes:=by rw [e5]; exact List.prefix_append _ _
  have p53:s5.nodes <+: s3.nodes:=by rw [hclause]; exact List.prefix_append _ _
  have p41:s4.nodes <+: s1.nodes:=by rw [f5]; exact pre2
  exact p65.trans (p53.trans (f3.trans (p41.trans (m2.trans (List.prefix_append _ _)))))
 have p5:s5.nodes <+: st.nodes:=by
  rw [m4]
  have p53:s5.nodes <+: s3.nodes:=by rw [hclause]; exact List.prefix_append _ _
  have p41:s4.nodes <+: s1.nodes:=by rw [f5]; exact pre2
  exact p53.trans (f3.trans (p41.trans (m2.trans (List.prefix_append _ _))))
 have p3:s3.nodes <+: st.nodes:=by
  rw [m4]
  have p41:s4.nodes <+: s1.nodes:=by rw [f5]; exact pre2
  exact f3.trans (p41.trans (m2.trans (List.prefix_append _ _)))
 have p1:s1.nodes <+: st.nodes:=by rw [m4]; exact m2.trans (List.prefix_append _ _)
 have l6:b=s6.nodes.length:=e4
 have l5:c=s5.nodes.length:=e2
 have n1f:s1.nodes=s4.nodes++[node 20 ([c]++cs) 0]++[mF]:=by rw [f5]
 refine ⟨s2.nodes.length,rfl,⟨f,fs,s4.nodes.length,c,cs,b,a,az,mF,node 20 ([c]++cs) 0,⟨21,w_f,0,0,[0,b],0⟩,node 19 l 0,A,?_,?_,?_,?_,rfl,?_,rfl,?_,?_,pre_at p37 (by rw [g2]; exact hA),?_⟩⟩
 ·rw [m4,List.getElem?_append_right (Nat.le_refl _),Nat.sub_self]; rfl
 ·refine pre_at p1 ?_
  rw [n1f,f1,List.getElem?_append_right (by simp)]; simp
 ·rw [f6]
 ·refine pre_at p1 ?_
  rw [n1f,List.append_assoc,List.getElem?_append_right (Nat.le_refl _),Nat.sub_self]; rfl
 ·refine pre_at p3 ?_
  rw [hclause,l5,List.getElem?_append_right (Nat.le_refl _),Nat.sub_self]; rfl
 ·refine pre_at p5 ?_
  rw [e5,l6,List.getElem?_append_right (Nat.le_refl _),Nat.sub_self]; rfl
 ·show l=a::az
  rw [e6]; rfl
 ·intro z1 z2 z3 hk hk1
  obtain ⟨a0,s0,ev0,r1,r2,r3⟩:=hin hk hk1
  have q2:=m1 z1
  have q4:=f2 z2
  have q6:=e7 z3
  subst q2; subst q4; subst q6
  have at7:s6.at_=s0.at_+1:=by rw [g1,r2]
  have at5:s5.at_=s6.at_:=by rw [e5]
  have at3:s4.at_=s5.at_:=by rw [hclause]
  have at1:s2.at_=s4.at_+1:=by rw [f5]
  have nd7:s6.nodes=s0.nodes++[node 6 [a0] 0]:=by rw [g2,r2]
  have len7:s6.nodes.length=s0.nodes.length+1:=by rw [nd7]; simp
  have nd5:s5.nodes=s6.nodes++[node 19 l 0]:=by rw [e5]
  have len5:s5.nodes.length=s0.nodes.length+2:=by rw [nd5]; simp; omega
  have nd3:s4.nodes=s5.nodes++[⟨21,w_f,0,0,[0,b],0⟩]:=by rw [hclause]
  have len3:s4.nodes.length=s0.nodes.length+3:=by rw [nd3]; simp; omega
  have len1:s2.nodes.length=s0.nodes.length+5:=by rw [n1f]; simp; omega
  have gd:s4.nodes.getD c (node 0 [] 0)=⟨21,w_f,0,0,[0,b],0⟩:=by
   rw [nd3,List.getD_eq_getElem?_getD,l5,List.getElem?_append_right (Nat.le_refl _),Nat.sub_self]; rfl
  refine ⟨a0,s0,ev0,r1,by rw [isS_pos (s':=s4) (by show s0.at_+1=_; omega)]; exact f4,by rw [show s0.at_+2=s2.at_ by omega]; exact m3,by omega,?_⟩
  have hl2:l=[s0.nodes.length]:=by rw [e6,z3,r3]; rfl
  rw [m4,n1f,nd3,nd5,nd7,f6,z1,z2,hl2]
  have hd:([c]++([]:List Nat)).headD 0=c:=rfl
  rw [hd,gd,len3]
  have hf':f=s0.nodes.length+4:=by rw [f1]; omega
  have hc':c=s0.nodes.length+2:=by omega
  have hb':b=s0.nodes.length+1:=by omega
  rw [hf',hc',hb']
  unfold tailN
  simp only [List.append_assoc]; rfl
theorem ups_ok {s:PS} {a:Nat} (ev:Ev E (rule E .unary st) (.ok (.n a) s)) (hs:Stop E s.at_ 1):Ev E (rule E .either st) (.ok (.n a) s):=by
 have hst:∀ k,1≤k→k≤6→seq (anyS E s (sg k)) empty=true:=fun k h1 h6=>by rw [hs k h1 h6 s rfl]; exact seq_nil
 have e6:=Ev.pass (ts:=E) (c:=.left .unary (sg 6)) (Ev.call ev (Ev.pass (Ev.t (hst 6 (by omega) (by omega)) .done)))
 have e5:=Ev.pass (ts:=E) (c:=.left .mul (sg 5)) (Ev.call (c:=.mul) e6 (Ev.pass (Ev.t (hst 5 (by omega) (by omega)) .done)))
 have e4:=Ev.pass (ts:=E) (c:=.right .add .append (sg 4)) (Ev.call (c:=.add) e5 (Ev.t (hst 4 (by omega) (by omega)) .done))
 have e3:=Ev.pass (ts:=E) (c:=.right .append .append (sg 3)) (Ev.call (c:=.append) e4 (Ev.t (hst 3 (by omega) (by omega)) .done))
 have e2:=Ev.pass (ts:=E) (c:=.right .compare .both (sg 2)) (Ev.call (c:=.compare) e3 (Ev.t (hst 2 (by omega) (by omega)) .done))
 exact Ev.pass (ts:=E) (c:=.right .both .either (sg 1)) (Ev.call (c:=.both) e2 (Ev.t (hst 1 (by omega) (by omega)) .done))
theorem ups_err {e q:Int} (ev:Ev E (rule E .unary st) (.err e q)):Ev E (rule E .either st) (.err e q):=by
 have e6:=Ev.pass (ts:=E) (c:=.left .unary (sg 6)) (Ev.callE ev)
 have e5:=Ev.pass (ts:=E) (c:=.left .mul (sg 5)) (Ev.callE (c:=.mul) e6)
 have e4:=Ev.pass (ts:=E) (c:=.right .add .append (sg 4)) (Ev.callE (c:=.add) e5)
 have e3:=Ev.pass (ts:=E) (c:=.right .append .append (sg 3)) (Ev.callE (c:=.append) e4)
 have e2:=Ev.pass (ts:=E) (c:=.right .compare .both (sg 2)) (Ev.callE (c:=.compare) e3)
 exact Ev.pass (ts:=E) (c:=.right .both .either (sg 1)) (Ev.callE (c:=.both) e2)
theorem expr_up {s:PS} {a:Nat} (hd:st.deep < 200) (hc:isS E st w_catch=false) (ev:Ev E (rule E .unary { st with deep:=st.deep+1 }) (.ok (.n a) s)) (hs:Stop E s.at_ 1) (he:anyS E s [w_eq,w_bang]=⟨#[]⟩):Ev E (rule E .expr st) (.ok (.n a) { s with deep:=s.deep - 1 }):=by
 simp only [rule]
 rw [if_neg (show ¬ st.deep=200 by omega)]
 exact Ev.f hc (Ev.call (ups_ok ev hs) (Ev.f (by rw [he]; kernel_rfl) (Ev.f (by rw [he]; kernel_rfl) .done)))
theorem expr_err {q:Int} (hd:st.deep < 200) (hc:isS E st w_catch=false) {e:Int} (ev:Ev E (rule E .unary { st with deep:=st.deep+1 }) (.err e q)):Ev E (rule E .expr st) (.err e q):=by
 simp only [rule]
 rw [if_neg (show ¬ st.deep=200 by omega)]
 exact Ev.f hc (Ev.callE (ups_err ev))
theorem unary_of {x:TK} (hx:x.k=6∧seq x.s w_minus=false∧seq x.s w_not=false) (hp:∀ i,(tk E i).p=0) (ht:tk E st.at_=x) {s:PS} {a:Nat} (ev:Ev E (rule E (.other (node 0 [] 0)) st) (.ok (.n a) s)) (hn:isS E s w_lp=false):Ev E (rule E .unary st) (.ok (.n a) s):=by
 have hk:(tk E st.at_).k=6:=by rw [ht]; exact hx.1
 have hu:anyS E st [w_minus,w_not]=⟨#[]⟩:=by
  rw [anyS_sign (.inl hk),ht]
  unfold anyF; rw [hx.2.1,if_neg (by simp)]; unfold anyF; rw [hx.2.2,if_neg (by simp)]; rfl
 refine Ev.pass (c:=.unaryL []) (Ev.t (by rw [hu]; exact seq_nil) (Ev.call (v:=.n a) (st1:=s) ?_ .done))
 refine Ev.f (by rw [hk]; rfl) (Ev.call (v:=.n a) (st1:=s) ?_ (Ev.pass (Ev.f hn .done)))
 simp only [rule,hk,hp]
 exact Ev.pass ev
theorem unary_err {x:TK} (hx:x.k=6∧seq x.s w_minus=false∧seq x.s w_not=false) (hp:∀ i,(tk E i).p=0) (ht:tk E st.at_=x) {e q:Int} (ev:Ev E (rule E (.other (node 0 [] 0)) st) (.err e q)):Ev E (rule E .unary st) (.err e q):=by
 have hk:(tk E st.at_).k=6:=by rw [ht]; exact hx.1
 have hu:anyS E st [w_minus,w_not]=⟨#[]⟩:=by
  rw [anyS_sign (.inl hk),ht]
  unfold anyF; rw [hx.2.1,if_neg (by simp)]; unfold anyF; rw [hx.2.2,if_neg (by simp)]; rfl
 refine Ev.pass (c:=.unaryL []) (Ev.t (by rw [hu]; exact seq_nil) (Ev.callE ?_))
 refine Ev.f (by rw [hk]; rfl) (Ev.callE ?_)
 simp only [rule,hk,hp]
 exact Ev.pass ev
end
end Go.Am.Rl
namespace Go.Am.Rl
open Go.Proofs
def tail5 (a L:Nat):List ND:=[node 19 [a] 0,⟨21,w_f,0,0,[0,L],0⟩,node 20 [L+1] 0,⟨23,w_f,0,0,[L+2],0⟩,⟨24,w_m,0,0,[L+3],0⟩]
section
variable {E:List TK}
abbrev st10:PS:=⟨10,0,[node 22 [] 0]⟩
theorem module_fw (hE:∀ i,(tk E i).p=0) (hp:TkAt E 0 ptoks) :
  (∀ (a j:Nat) (N2:List ND),Ev E (rule E .expr st10) (.ok (.n a) ⟨j,0,N2⟩)→tk E j=dotT→(tk E (j+1)).k=8→N2.length+5≤16384→Ev E (rule E .module ⟨0,0,[]⟩) (.ok (.n (N2.length+4)) ⟨j+1,0,N2++tail5 a N2.length⟩))∧
  ∀ e q,Ev E (rule E .expr st10) (.err e q)→Ev E (rule E .module ⟨0,0,[]⟩) (.err e q):=by
 have t0:tk E 0=_:=hp 0 _ rfl
 have t1:tk E 1=_:=hp 1 _ rfl
 have t2:tk E 2=_:=hp 2 _ rfl
 have t3:tk E 3=_:=hp 3 _ rfl
 have t4:tk E 4=_:=hp 4 _ rfl
 have t5:tk E 5=_:=hp 5 _ rfl
 have t6:tk E 6=_:=hp 6 _ rfl
 have t7:tk E 7=_:=hp 7 _ rfl
 have t8:tk E 8=_:=hp 8 _ rfl
 have t9:tk E 9=_:=hp 9 _ rfl
 have hpos:∀ st:PS,pos E st=0:=fun st=>hE _
 have named:∀ o:Out1,(∀ b s5,o = .ok (.n b) s5→False)∨True→∀ o',(Ev E (rule E .body st10) o→Ev E (callN .body st10 fun b st2=>lay st2 ⟨21,w_f,0,0,[0,b],0⟩ fun i st3=>.done (.n i) st3) o'→Ev E (rule E .named ⟨6,0,[]⟩) o'):=by
  intro o _ o' _ h
  simp only [rule]
  refine Ev.kind ?_ ?_
  ·show ((tk E 6).k==1)=true; rw [t6]; rfl
  refine Ev.must (isS_of t7 (by kernel_rfl)) ?_
  refine Ev.call (v:=.l []) (st1:=⟨9,0,[]⟩) (Ev.t (isS_of t8 (by kernel_rfl)) .done) (Ev.pass ?_)
  refine Ev.f (isS_of t9 (by kernel_rfl)) (Ev.lay (by decide) ?_)
  rw [hpos]
  refine Ev.must (isS_of t9 (by kernel_rfl)) ?_
  have e6:(tk E (PS.mk 6 0 []).at_)=_:=t6
  rw [e6]
  exact h
 have modul:∀ o',Ev E (callN .function ⟨6,0,[]⟩ fun a st1=>pass1 (.moduleL w_m 0 [a]) st1) o'→Ev E (rule E .module ⟨0,0,[]⟩) o':=by
  intro o' h
  simp only [rule]
  refine Ev.must (isS_of t0 (by kernel_rfl)) ?_
  refine Ev.kind ?_ ?_
  ·show ((tk E 1).k==1)=true; rw [t1]; rfl
  refine Ev.t (by show seq (tk E 1).s w_module=true; rw [t1]; kernel_rfl) ?_
  refine Ev.must (isS_of t2 (by kernel_rfl)) ?_
  refine Ev.kind ?_ ?_
  ·show ((tk E 3).k==1)=true; rw [t3]; rfl
  refine Ev.must (isS_of t4 (by kernel_rfl)) ?_
  refine Ev.must (isS_of t5 (by kernel_rfl)) ?_
  refine Ev.pass ?_
  rw [hpos]
  have e3:(tk E (adv (adv (adv (PS.mk 0 0 [])))).at_)=_:=t3
  rw [e3]
  exact Ev.t (by show ((tk E 6).k != 8)=true; rw [t6]; rfl) h
 constructor
 ·intro a j N2 e0 hj hj1 hlen
  have dot:∀ (st:PS) (s:ByteArray),st.at_=j→seq w_dot s=false→isS E st s=false:=fun st s h1 h2=>isS_of (x:=dotT) (by rw [h1]; exact hj) (by show (true&&_)=false; rw [show dotT.s=w_dot from rfl,h2]; rfl)
  have eb:Ev E (rule E .body st10) (.ok (.n N2.length) ⟨j,0,N2++[node 19 [a] 0]⟩):=by
   refine Ev.call (v:=.l [a]) (st1:=⟨j,0,N2⟩) (Ev.pass (c:=.some 0) (Ev.call e0 (Ev.pass (Ev.f (dot _ _ rfl (by kernel_rfl)) .done)))) (Ev.lay (show N2.length≠16384 by omega) ?_)
   rw [hpos]
   exact .done
  obtain ⟨N3,hN3⟩:∃ N3,N3=N2++[node 19 [a] 0]:=⟨_,rfl⟩
  have l3:N3.length=N2.length+1:=by rw [hN3,List.length_append]; rfl
  rw [← hN3] at eb
  have ec:Ev E (rule E .named ⟨6,0,[]⟩) (.ok (.n (N2.length+1)) ⟨j,0,N3++[⟨21,w_f,0,0,[0,N2.length],0⟩]⟩):=by
   refine named _ (.inr trivial) _ eb (Ev.call eb (Ev.lay (show N3.length≠16384 by omega) ?_))
   show Ev E (.done (.n N3.length) ⟨j,0,N3++[⟨21,w_f,0,0,[0,N2.length],0⟩]⟩) _
   rw [l3]; exact .done
  obtain ⟨N4,hN4⟩:∃ N4,N4=N3++[⟨21,w_f,0,0,[0,N2.length],0⟩]:=⟨_,rfl⟩
  have l4:N4.length=N2.length+2:=by rw [hN4,List.length_append,l3]; rfl
  rw [← hN4] at ec
  have g4:N4.getD (N2.length+1) (node 0 [] 0)=⟨21,w_f,0,0,[0,N2.length],0⟩:=by
   rw [hN4,List.getD_eq_getElem?_getD,List.getElem?_append_right (by omega),l3,Nat.sub_self]; rfl
  have ef:Ev E (rule E .function ⟨6,0,[]⟩) (.ok (.n (N2.length+3)) ⟨j+1,0,N4++[node 20 [N2.length+1] 0]++[⟨23,w_f,0,0,[N2.length+2],0⟩]⟩):=by
   refine Ev.call ec (Ev.pass ?_)
   rw [hpos]
   refine Ev.f (dot _ _ rfl (by kernel_rfl)) (Ev.lay (show N4.length≠16384 by omega) ?_)
   refine Ev.must (isS_of (x:=dotT) hj (by kernel_rfl)) (Ev.lay ?_ ?_)
   ·show (N4++[node 20 [N2.length+1] 0]).length≠16384
    rw [List.length_append,l4]; simp; omega
   ·show Ev E (.done (.n (N4++[node 20 [N2.length+1] 0]).length) ⟨j+1,0,N4++[node 20 [N2.length+1] 0]++[⟨23,(N4.getD (N2.length+1) (node 0 [] 0)).s,(N4.getD (N2.length+1) (node 0 [] 0)).n,0,[N4.length],0⟩]⟩) _
    rw [g4,l4,List.length_append,l4]; exact .done
  have hres:N4++[node 20 [N2.length+1] 0]++[⟨23,w_f,0,0,[N2.length+2],0⟩]++[⟨24,w_m,0,0,[N2.length+3],0⟩]=N2++tail5 a N2.length:=by
   rw [hN4,hN3]; unfold tail5; simp only [List.append_assoc]; rfl
  obtain ⟨N6,hN6⟩:∃ N6,N6=N4++[node 20 [N2.length+1] 0]++[⟨23,w_f,0,0,[N2.length+2],0⟩]:=⟨_,rfl⟩
  have l6:N6.length=N2.length+4:=by rw [hN6,List.length_append,List.length_append,l4]; rfl
  rw [← hN6] at ef hres
  refine modul _ (Ev.call ef (Ev.pass (Ev.f (by show ((tk E (j+1)).k != 8)=false; rw [hj1]; rfl) (Ev.lay (show N6.length≠16384 by omega) ?_))))
  show Ev E (.done (.n N6.length) ⟨j+1,0,N6++[⟨24,w_m,0,0,[N2.length+3],0⟩]⟩) _
  rw [hres,l6]; exact .done
 ·intro e q e0
  have eb:Ev E (rule E .body st10) (.err e q):=Ev.callE (Ev.pass (c:=.some 0) (Ev.callE e0))
  have ec:Ev E (rule E .named ⟨6,0,[]⟩) (.err e q):=named _ (.inr trivial) _ eb (Ev.callE eb)
  exact modul _ (Ev.callE (Ev.callE ec))
end
section
variable {E1 E2:List TK} {e a0:Nat} {s0:PS}
theorem rb_stop:(∀ m,1≤m→m≤6→anyF rbT.s (sg m)=⟨#[]⟩)∧Sign rbT:=
 ⟨six (anyF_nil (by kernel_rfl)) (anyF_nil (by kernel_rfl)) (anyF_nil (by kernel_rfl)) (anyF_nil (by kernel_rfl)) (anyF_nil (by kernel_rfl)) (anyF_nil (by kernel_rfl)),.inl rfl⟩
theorem any8 {E:List TK} {st:PS} {x:TK} (hx:Sign x) (ht:tk E st.at_=x) {w:ByteArray} (hw:seq (anyF x.s [w_lp,w_lb,w_lk,w_begin,w_case,w_fun,w_try,w_receive]) w=true):anyS E st [w_lp,w_lb,w_lk,w_begin,w_case,w_fun,w_try,w_receive]=w:=by
 rw [anyS_sign (by rw [ht]; exact hx),ht]; exact seq_eq hw
theorem outer (hE:∀ i,(tk E2 i).p=0) (hp:TkAt E2 0 ptoks) (h10:tk E2 10=lbT) (h11:tk E2 11=lpT) :
  (∀ (N:List ND),Ev E2 (rule E2 (.other (node 0 [] 0)) ⟨11,2,[node 22 [] 0]⟩) (.ok (.n a0) ⟨e+2,2,N⟩)→tk E2 (e+2)=rbT→tk E2 (e+3)=dotT→(tk E2 (e+4)).k=8→N.length+6≤16384→Ev E2 (rule E2 .module ⟨0,0,[]⟩) (.ok (.n (N.length+5)) ⟨e+4,0,N++tailN a0 N.length⟩))∧
  ∀ er q,Ev E2 (rule E2 (.other (node 0 [] 0)) ⟨11,2,[node 22 [] 0]⟩) (.err er q)→Ev E2 (rule E2 .module ⟨0,0,[]⟩) (.err er q):=by
 have lpk:lpT.k=6∧seq lpT.s w_minus=false∧seq lpT.s w_not=false:=⟨rfl,by kernel_rfl,by kernel_rfl⟩
 have lbk:lbT.k=6∧seq lbT.s w_minus=false∧seq lbT.s w_not=false:=⟨rfl,by kernel_rfl,by kernel_rfl⟩
 have c11:isS E2 ⟨11,1,[node 22 [] 0]⟩ w_catch=false:=isS_of (x:=lpT) h11 (by kernel_rfl)
 have c10:isS E2 st10 w_catch=false:=isS_of (x:=lbT) h10 (by kernel_rfl)
 have r11:isS E2 ⟨11,1,[node 22 [] 0]⟩ w_rb=false:=isS_of (x:=lpT) h11 (by kernel_rfl)
 have a10:anyS E2 ⟨10,1,[node 22 [] 0]⟩ [w_lp,w_lb,w_lk,w_begin,w_case,w_fun,w_try,w_receive]=w_lb:=any8 (x:=lbT) (.inl rfl) h10 (by kernel_rfl)
 constructor
 ·intro N ev hrb hdot hend hN
  have u1:=unary_of lpk hE h11 ev (isS_of (x:=rbT) hrb (by kernel_rfl))
  have x1:Ev E2 (rule E2 .expr ⟨11,1,[node 22 [] 0]⟩) (.ok (.n a0) ⟨e+2,1,N⟩):=expr_up (st:=⟨11,1,[node 22 [] 0]⟩) (by decide) c11 u1 (stop_of rb_stop hrb) (w_eqbang (x:=rbT) (.inr ⟨by kernel_rfl,by kernel_rfl⟩) hrb)
  have o2:Ev E2 (rule E2 (.other (node 0 [] 0)) ⟨10,1,[node 22 [] 0]⟩) (.ok (.n N.length) ⟨e+3,1,N++[node 6 [a0] 0]⟩):=by
   refine Ev.f (by rw [a10]; kernel_rfl) (Ev.f (by rw [a10]; kernel_rfl) (Ev.t (by rw [a10]; kernel_rfl) ?_))
   refine Ev.call (v:=.l [a0]) (st1:=⟨e+3,1,N⟩) (Ev.f r11 (Ev.call (v:=.l [a0]) (st1:=⟨e+2,1,N⟩) ?_ (Ev.must (isS_of (x:=rbT) hrb (by kernel_rfl)) .done))) (Ev.lay (show N.length≠16384 by omega) .done)
   exact Ev.call x1 (Ev.pass (Ev.f (isS_of (x:=rbT) hrb (by kernel_rfl)) .done))
  have u2:=unary_of lbk hE h10 o2 (isS_of (x:=dotT) hdot (by kernel_rfl))
  have x2:Ev E2 (rule E2 .expr st10) (.ok (.n N.length) ⟨e+3,0,N++[node 6 [a0] 0]⟩):=expr_up (st:=st10) (by decide) c10 u2 (stop_of dot_stop hdot) (w_eqbang (x:=dotT) (.inr ⟨by kernel_rfl,by kernel_rfl⟩) hdot)
  have l1:(N++[node 6 [a0] 0]).length=N.length+1:=by simp
  have:=(module_fw hE hp).1 _ _ _ x2 hdot hend (by rw [l1]; omega)
  rw [l1] at this
  have e5:N++[node 6 [a0] 0]++tail5 N.length (N.length+1)=N++tailN a0 N.length:=by unfold tail5 tailN; simp only [List.append_assoc]; rfl
  rw [e5] at this
  exact this
 ·intro er q ev
  have x1:=expr_err (st:=⟨11,1,[node 22 [] 0]⟩) (by decide) c11 (unary_err lpk hE h11 ev)
  have o2:Ev E2 (rule E2 (.other (node 0 [] 0)) ⟨10,1,[node 22 [] 0]⟩) (.err er q):=by
   refine Ev.f (by rw [a10]; kernel_rfl) (Ev.f (by rw [a10]; kernel_rfl) (Ev.t (by rw [a10]; kernel_rfl) ?_))
   exact Ev.callE (Ev.f r11 (Ev.callE (Ev.callE x1)))
  exact (module_fw hE hp).2 _ _ (expr_err (st:=st10) (by decide) c10 (unary_err lbk hE h10 o2))
theorem second (H:TwH E1 E2 11 e) (hp:TkAt E2 0 ptoks) (h10:tk E2 10=lbT) (h11:tk E2 11=lpT) (ev:Ev E1 (rule E1 .expr ⟨11,1,[node 22 [] 0]⟩) (.ok (.n a0) s0)) (he:s0.at_=e) (hlen:s0.nodes.length+6≤16384) :
  (tk E2 (e+1)=rpT→tk E2 (e+2)=rbT→tk E2 (e+3)=dotT→(tk E2 (e+4)).k=8→(∃ st,Ev E2 (rule E2 .module ⟨0,0,[]⟩) (.ok (.n (s0.nodes.length+5)) st)∧st.nodes=s0.nodes++tailN a0 s0.nodes.length)∨∃ q,Ev E2 (rule E2 .module ⟨0,0,[]⟩) (.err 25 q))∧
  (tk E2 (e+1)=rbT→∃ er q,(er=24∨er=25)∧Ev E2 (rule E2 .module ⟨0,0,[]⟩) (.err er q)):=by
 have hd:s0.deep=1:=ev.grow.2.2
 have a11:anyS E2 ⟨11,2,[node 22 [] 0]⟩ [w_lp,w_lb,w_lk,w_begin,w_case,w_fun,w_try,w_receive]=w_lp:=any8 (x:=lpT) (.inl rfl) h11 (by kernel_rfl)
 have tw:=twin H (c:=.expr) trivial (show 11≤11 from Nat.le_refl _) ev (by omega)
 have hsh:sh s0=⟨e+1,2,s0.nodes⟩:=by unfold sh; rw [he,hd]
 have other:∀ o,Ev E2 (callN .expr ⟨12,2,[node 22 [] 0]⟩ fun a st2=>must E2 st2 w_rp fun st3=>.done (.n a) st3) o→Ev E2 (rule E2 (.other (node 0 [] 0)) ⟨11,2,[node 22 [] 0]⟩) o:=fun o h=>
  Ev.f (by rw [a11]; kernel_rfl) (Ev.t (by rw [a11]; kernel_rfl) h)
 constructor
 ·intro h1 h2 h3 h4
  rcases tw with ok | ⟨q,er⟩
  ·rw [hsh] at ok
   exact .inl ⟨_,(outer H.p2 hp h10 h11).1 s0.nodes (other _ (Ev.call ok (Ev.must (isS_of (x:=rpT) h1 (by kernel_rfl)) .done))) h2 h3 h4 hlen,rfl⟩
  ·exact .inr ⟨q,(outer (a0:=a0) (e:=e) H.p2 hp h10 h11).2 _ _ (other _ (Ev.callE er))⟩
 ·intro h1
  rcases tw with ok | ⟨q,er⟩
  ·rw [hsh] at ok
   exact ⟨24,_,.inl rfl,(outer (a0:=a0) (e:=e) H.p2 hp h10 h11).2 _ _ (other _ (Ev.call ok (Ev.mustE (isS_of (x:=rbT) h1 (by kernel_rfl)))))⟩
  ·exact ⟨25,q,.inr rfl,(outer (a0:=a0) (e:=e) H.p2 hp h10 h11).2 _ _ (other _ (Ev.callE er))⟩
end
end Go.Am.Rl
namespace Go.Am.Rl
open Go.Proofs
inductive Goes (Pre:NT→PS→Prop) (Post:NT→PS→Val→PS→Prop) (Er:Int→Int→Prop) (Q:Val→PS→Prop):IT→Prop
 | done {v:Val} {st:PS}:Q v st→Goes Pre Post Er Q (.done v st)
 | fail {e p:Int}:Er e p→Goes Pre Post Er Q (.fail e p)
 | call {c:NT} {st:PS} {k:Val→PS→IT}:Pre c st→(∀ v st',Post c st v st'→Goes Pre Post Er Q (k v st'))→Goes Pre Post Er Q (.call c st k)
section
variable {ts:List TK} {Pre:NT→PS→Prop} {Post:NT→PS→Val→PS→Prop} {Er:Int→Int→Prop}
theorem Goes.run (h:∀ c st,Pre c st→Goes Pre Post Er (Post c st) (rule ts c st)):∀ (n:Nat) {t:IT} {Q:Val→PS→Prop} {o:Out1},Goes Pre Post Er Q t→run ts n t=some o→(∀ v st,o = .ok v st→Q v st)∧∀ e p,o = .err e p→Er e p
 | 0,_,_,o,.done h,e=>by simp only [Rl.run,Option.some.injEq] at e; subst e; exact ⟨fun v st e=>by cases e; exact h,fun e p h=>by cases h⟩
 | n+1,_,_,o,.done h,e=>by simp only [Rl.run,Option.some.injEq] at e; subst e; exact ⟨fun v st e=>by cases e; exact h,fun e p h=>by cases h⟩
 | 0,_,_,o,.fail h,e=>by simp only [Rl.run,Option.some.injEq] at e; subst e; exact ⟨fun v st e=>(by cases e),fun e p e'=>by cases e'; exact h⟩
 | n+1,_,_,o,.fail h,e=>by simp only [Rl.run,Option.some.injEq] at e; subst e; exact ⟨fun v st e=>(by cases e),fun e p e'=>by cases e'; exact h⟩
 | 0,_,_,o,.call _ _,e=>by simp [Rl.run] at e
 | n+1,_,_,o,.call (c:=c) (st:=st) hp hk,e=>by
  simp only [Rl.run] at e
  cases h1:Rl.run ts n (rule ts c st) with
  | none=>rw [h1] at e; cases e
  | some x=>
   rw [h1] at e
   obtain ⟨a,b⟩:=Goes.run h n (h c st hp) h1
   cases x with
   | err e1 p1=>
    simp only [Option.some.injEq] at e; subst e
    exact ⟨fun v st e=>(by cases e),fun e p e'=>by cases e'; exact b _ _ rfl⟩
   | ok v1 st1=>exact Goes.run h n (hk v1 st1 (a _ _ rfl)) e
theorem Goes.ev (h:∀ c st,Pre c st→Goes Pre Post Er (Post c st) (rule ts c st)) {c:NT} {st:PS} {o:Out1} (hp:Pre c st) (he:Ev ts (rule ts c st) o):(∀ v st',o = .ok v st'→Post c st v st')∧∀ e p,o = .err e p→Er e p:=by
 obtain ⟨n,he⟩:=he
 exact Goes.run h n (h c st hp) he
theorem Goes.ite {Q:Val→PS→Prop} {c:Prop} [Decidable c] {a b:IT} (h1:c→Goes Pre Post Er Q a) (h2:¬ c→Goes Pre Post Er Q b):Goes Pre Post Er Q (if c then a else b):=by
 by_cases h:c
 ·rw [if_pos h]; exact h1 h
 ·rw [if_neg h]; exact h2 h
end
end Go.Am.Rl
namespace Go.Am.Rl
open Go.Proofs
def NB2 (n:List ND):Prop:=∀ m ∈ n,m.l.length≤n.length+3
theorem NB2.add {n:List ND} {m:ND} (h:NB2 n) (hm:m.l.length≤n.length+4):NB2 (n++[m]):=by
 intro x hx
 rw [List.length_append]
 rcases List.mem_append.mp hx with hx | hx
 ·have:=h x hx; simp; omega
 ·rw [List.mem_singleton.mp hx]; simp; omega
def Stc:NT→Prop
 | .leftL _ _ _ _=>False
 | .calls _ _=>False
 | .someL _ _=>False
 | .list _ _=>False
 | .elements=>False
 | .fun_ _=>False
 | .try_ _=>False
 | .receive _=>False
 | _=>True
def Pl:NT→Prop
 | .either=>True
 | .both=>True
 | .compare=>True
 | .append=>True
 | .add=>True
 | .mul=>True
 | .unary=>True
 | .clause=>True
 | .fun1=>True
 | .catches=>True
 | _=>False
def BPre (c:NT) (st:PS):Prop:=NB2 st.nodes∧match c with
 | .moduleL _ _ l=>l.length≤st.nodes.length
 | .functionL l _=>l.length≤st.nodes.length
 | .someL _ l=>l.length≤st.nodes.length
 | .tail _ l=>l.length≤st.nodes.length
 | .partedL x l _=>Pl x∧l.length≤st.nodes.length
 | .parted x=>Pl x
 | .right x y _=>Pl x∧Pl y
 | .left x _=>Pl x
 | .leftL x _ _ _=>Pl x
 | .other n=>n.l=[]
 | .fun_ n=>n.l=[]
 | .try_ n=>n.l=[]
 | .receive n=>n.l=[]
 | _=>True
theorem Pl.pre {x:NT} (h:Pl x) {st:PS} (hn:NB2 st.nodes):BPre x st:=by
 refine ⟨hn,?_⟩
 cases x <;> first | exact h.elim | trivial
theorem Pl.stc {x:NT} (h:Pl x):Stc x:=by cases x <;> first | exact h.elim | trivial
def VB (v:Val) (s:PS):Prop:=match v with
 | .l x=>x.length≤s.nodes.length
 | .d m=>m.l.length≤s.nodes.length+3
 | .e _ x=>x.length≤s.nodes.length
 | .n _=>True
def BPost (c:NT) (st:PS) (v:Val) (s:PS):Prop:=NB2 s.nodes∧st.nodes.length≤s.nodes.length∧(Stc c→st.nodes.length < s.nodes.length)∧VB v s
abbrev BG (c:NT) (st:PS) (t:IT):Prop:=Goes BPre BPost (fun _ _=>True) (BPost c st) t
section
variable {ts:List TK} {c:NT} {st:PS}
theorem bg_laySigns {c0:NT} {st0:PS}:∀ (l:List TK) (a:Nat) (s:PS),NB2 s.nodes→st0.nodes.length < s.nodes.length→BG c0 st0 (laySigns l a s)
 | [],a,s,h1,h2=>.done ⟨h1,by omega,fun _=>h2,trivial⟩
 | t::r,a,s,h1,h2=>by
  unfold Rl.laySigns lay
  split
  ·exact .fail trivial
  ·exact bg_laySigns r _ _ (h1.add (by simp)) (by simp; omega)
theorem bdone {v:Val} {s:PS} (h1:NB2 s.nodes) (h2:st.nodes.length≤s.nodes.length) (h3:Stc c→st.nodes.length < s.nodes.length) (h4:VB v s):BG c st (.done v s):=.done ⟨h1,h2,h3,h4⟩
theorem bcall {c':NT} {s':PS} {k:Val→PS→IT} (hp:BPre c' s') (hk:∀ v s,NB2 s.nodes→s'.nodes.length≤s.nodes.length→(Stc c'→s'.nodes.length < s.nodes.length)→VB v s→BG c st (k v s)):BG c st (.call c' s' k):=
 .call hp fun v s h=>hk v s h.1 h.2.1 h.2.2.1 h.2.2.2
theorem bfail {e p:Int}:BG c st (.fail e p):=.fail trivial
theorem bite {p:Prop} [Decidable p] {a b:IT} (h1:p→BG c st a) (h2:¬ p→BG c st b):BG c st (if p then a else b):=Goes.ite h1 h2
theorem bg_right {x y:NT} {g:List ByteArray} (h0:NB2 st.nodes) (h1:Pl x∧Pl y):BG (.right x y g) st (rule ts (.right x y g) st):=by
 refine bcall (h1.1.pre h0) fun v s k0 k1 k2 k3=> ?_
 have k2:=k2 h1.1.stc
 cases v with
 | n a=>
  refine bite (fun _=>bdone k0 k1 (fun _=>k2) trivial) fun _=>bcall (h1.2.pre (st:=adv s) k0) fun v2 s2 q0 q1 q2 q3=> ?_
  have q1:s.nodes.length≤s2.nodes.length:=q1
  cases v2 with
  | n b=>exact bite (fun _=>bfail) fun _=>bdone (q0.add (by simp)) (by simp; omega) (fun _=>by simp; omega) trivial
  | l b=>exact bfail
  | d b=>exact bfail
  | e b d=>exact bfail
 | l b=>exact bfail
 | d b=>exact bfail
 | e b d=>exact bfail
theorem bg_left {x:NT} {g:List ByteArray} (h0:NB2 st.nodes) (h1:Pl x):BG (.left x g) st (rule ts (.left x g) st):=by
 refine bcall (h1.pre h0) fun v s k0 k1 k2 k3=> ?_
 have k2:=k2 h1.stc
 cases v with
 | n a=>exact bcall ⟨k0,h1⟩ fun v2 s2 q0 q1 q2 q3=>bdone q0 (by omega) (fun _=>by omega) q3
 | l b=>exact bfail
 | d b=>exact bfail
 | e b d=>exact bfail
theorem bg_rule (c:NT) (st:PS) (hp:BPre c st):BG c st (rule ts c st):=by
 obtain ⟨h0,h1⟩:=hp
 cases c
 case right x y g=>exact bg_right h0 h1
 case left x g=>exact bg_left h0 h1
 all_goals simp only [rule,kind,must,lay,none1,pass1,callN,callL,callD]
 all_goals repeat' (first | exact bfail | refine bite (fun _=> ?_) (fun _=> ?_) | refine bcall ?_ (fun v s k0 k1 k2 k3=> ?_) | refine bdone ?_ ?_ ?_ ?_ | refine bg_laySigns _ _ _ ?_ ?_ | split)
 all_goals simp only [adv,VB,Stc,node,List.length_append,List.length_cons,List.length_nil,forall_const,false_implies] at *
 all_goals first | trivial | assumption | omega | exact fun h=>h.elim | (have:=k2 h1.stc; omega) | (have:=k2 h1.1.stc; omega) | exact Pl.pre h1 ‹_› | exact Pl.pre h1.1 ‹_› | exact Pl.pre h1.2 ‹_› | (rw [h1]; simp) | skip
 all_goals try (unfold BPre; dsimp only; refine And.intro ?_ ?_)
 all_goals try (refine NB2.add ?_ ?_)
 all_goals try (refine NB2.add ?_ ?_)
 all_goals try simp only [List.length_append,List.length_cons,List.length_nil] at *
 all_goals first | trivial | assumption | omega | (rw [h1]; simp) | (have:=k2 h1.1.stc; exact ⟨h1.1,by simp; omega⟩) | (have:=k2 h1.stc; exact ⟨h1,by simp; omega⟩) | exact h1 | (simp; omega) | simp | skip
theorem module_bound {i:Nat} (ev:Ev ts (rule ts .module ⟨0,0,[]⟩) (.ok (.n i) st)):∀ m ∈ st.nodes,m.l.length≤st.nodes.length+3:=
 ((Goes.ev (fun c st hp=>bg_rule c st hp) (c:=.module) (st:=⟨0,0,[]⟩) ⟨fun m hm=>(by cases hm),trivial⟩ ev).1 _ _ rfl).1
end
end Go.Am.Rl
namespace Go.Am.Rl
open Go.Proofs
def KindOk (c:NT) (v:Val):Prop:=match c with
 | .list _ _=>∃ l,v = .l l
 | .some _=>∃ l,v = .l l
 | .someL _ _=>∃ l,v = .l l
 | .exprs=>∃ l,v = .l l
 | .elements=>∃ k l,v = .e k l
 | .fun_ _=>∃ m,v = .d m
 | .try_ _=>∃ m,v = .d m
 | .receive _=>∃ m,v = .d m
 | _=>∃ i,v = .n i
def KPre (c:NT) (_:PS):Prop:=match c with
 | .right x y _=>Pl x∧Pl y
 | .left x _=>Pl x
 | .leftL x _ _ _=>Pl x
 | .parted x=>Pl x
 | .partedL x _ _=>Pl x
 | _=>True
abbrev KG (c:NT) (t:IT):Prop:=Goes KPre (fun c _ v _=>KindOk c v) (fun e _=>e≠0) (fun v _=>KindOk c v) t
theorem Pl.k {x:NT} (h:Pl x):(∀ st,KPre x st)∧∀ v,KindOk x v→∃ i,v = .n i:=by
 cases x <;> first | exact h.elim | exact ⟨fun _=>trivial,fun v h=>h⟩
section
variable {ts:List TK} {c c':NT} {st s':PS}
theorem kfail {e p:Int} (h:e≠0):KG c (.fail e p):=.fail h
theorem kdone {v:Val} {s:PS} (h:KindOk c v):KG c (.done v s):=.done h
theorem kite {p:Prop} [Decidable p] {a b:IT} (h1:KG c a) (h2:KG c b):KG c (if p then a else b):=Goes.ite (fun _=>h1) fun _=>h2
theorem kmust {w:ByteArray} {k:PS→IT} (h:KG c (k (adv st))):KG c (must ts st w k):=kite h (kfail (by decide))
theorem kkind {d:Int} {k:TK→PS→IT} (h:KG c (k (tk ts st.at_) (adv st))):KG c (kind ts st d k):=kite h (kfail (by decide))
theorem klay {m:ND} {k:Nat→PS→IT} (h:∀ s,KG c (k st.nodes.length s)):KG c (lay st m k):=kite (kfail (by decide)) (h _)
theorem knone {d:Int} {k:Nat→PS→IT} (h:∀ s,KG c (k st.nodes.length s)):KG c (none1 ts st d k):=klay h
theorem kcallN {k:Nat→PS→IT} (hp:KPre c' st) (hn:∀ v,KindOk c' v→∃ i,v = .n i) (h:∀ i s,KG c (k i s)):KG c (callN c' st k):=
 .call hp fun v s hv=>by obtain ⟨i,rfl⟩:=hn v hv; exact h i s
theorem kcallL {k:List Nat→PS→IT} (hp:KPre c' st) (hn:∀ v,KindOk c' v→∃ i,v = .l i) (h:∀ i s,KG c (k i s)):KG c (callL c' st k):=
 .call hp fun v s hv=>by obtain ⟨i,rfl⟩:=hn v hv; exact h i s
theorem kcallD {k:ND→PS→IT} (hp:KPre c' st) (hn:∀ v,KindOk c' v→∃ i,v = .d i) (h:∀ i s,KG c (k i s)):KG c (callD c' st k):=
 .call hp fun v s hv=>by obtain ⟨i,rfl⟩:=hn v hv; exact h i s
theorem kpass (hp:KPre c' st) (hn:∀ v,KindOk c' v→KindOk c v):KG c (pass1 c' st):=.call hp fun v s hv=>.done (hn v hv)
theorem ksigns:∀ (l:List TK) (a:Nat) (s:PS),KG (.unaryL []) (laySigns l a s)
 | [],a,s=>kdone ⟨a,rfl⟩
 | t::r,a,s=>klay fun s=>ksigns r _ s
theorem kg_rule (c:NT) (st:PS) (hp:KPre c st):KG c (rule ts c st):=by
 cases c
 case unaryL g=>exact kite (kcallN trivial (fun v h=>h) fun i s=>ksigns _ _ _) (kpass trivial fun v h=>h)
 case other m=>
  refine kite (kfail (by decide)) (kite ?_ (kite ?_ (kite ?_ (kite ?_ (kite ?_ (kite ?_ (kite ?_ (kite ?_ ?_))))))))
  ·exact kcallN trivial (fun v h=>h) fun i s=>kmust (kdone ⟨i,rfl⟩)
  ·exact kcallL trivial (fun v h=>h) fun i s=>klay fun _=>kdone ⟨_,rfl⟩
  ·exact .call (c:=.elements) trivial fun v s hv=>by obtain ⟨k,l,rfl⟩:=hv; exact klay fun _=>kdone ⟨_,rfl⟩
  ·exact kcallL trivial (fun v h=>h) fun i s=>kmust (klay fun _=>kdone ⟨_,rfl⟩)
  ·exact kcallN trivial (fun v h=>h) fun i s=>kmust (kcallN trivial (fun v h=>h) fun i s=>kmust (klay fun _=>kdone ⟨_,rfl⟩))
  ·exact kcallD trivial (fun v h=>h) fun i s=>klay fun _=>kdone ⟨_,rfl⟩
  ·exact kcallD trivial (fun v h=>h) fun i s=>klay fun _=>kdone ⟨_,rfl⟩
  ·exact kcallD trivial (fun v h=>h) fun i s=>klay fun _=>kdone ⟨_,rfl⟩
  ·exact klay fun _=>kdone ⟨_,rfl⟩
 case right x y g=>exact kcallN (hp.1.k.1 _) hp.1.k.2 fun i s=>kite (kdone ⟨_,rfl⟩) (kcallN (hp.2.k.1 _) hp.2.k.2 fun i s=>klay fun _=>kdone ⟨_,rfl⟩)
 case left x g=>exact kcallN (Pl.k hp |>.1 _) (Pl.k hp).2 fun i s=>kpass hp fun v h=>h
 case leftL x g a p=>exact kite (kdone ⟨_,rfl⟩) (kcallN (Pl.k hp |>.1 _) (Pl.k hp).2 fun i s=>klay fun _=>kpass hp fun v h=>h)
 case parted x=>exact kcallN (Pl.k hp |>.1 _) (Pl.k hp).2 fun i s=>kpass hp fun v h=>h
 case partedL x l p=>exact kite (kcallN (Pl.k hp |>.1 _) (Pl.k hp).2 fun i s=>kpass hp fun v h=>h) (klay fun _=>kdone ⟨_,rfl⟩)
 case either=>exact kpass (c':=.right .both .either [w_orelse]) ⟨trivial,trivial⟩ fun v h=>h
 case both=>exact kpass (c':=.right .compare .both [w_andalso]) ⟨trivial,trivial⟩ fun v h=>h
 case compare=>exact kpass (c':=.right .append .append [w_eqeq,w_ne,w_le,w_lt,w_ge,w_gt,w_same,w_nsame]) ⟨trivial,trivial⟩ fun v h=>h
 case append=>exact kpass (c':=.right .add .append [w_cat]) ⟨trivial,trivial⟩ fun v h=>h
 case add=>exact kpass (c':=.left .mul [w_plus,w_minus]) trivial fun v h=>h
 case mul=>exact kpass (c':=.left .unary [w_star,w_slash,w_div,w_rem]) trivial fun v h=>h
 case clauses=>exact kpass (c':=.parted .clause) trivial fun v h=>h
 all_goals simp only [rule]
 all_goals repeat' (first | exact kfail (by decide) | exact kdone ⟨_,rfl⟩ | exact kdone ⟨_,_,rfl⟩ | refine kite ?_ ?_ | refine kmust ?_ | refine kkind ?_ | refine klay (fun _=> ?_) | refine knone (fun _=> ?_) | refine kcallN trivial (fun v h=>h) (fun _ _=> ?_) | refine kcallL trivial (fun v h=>h) (fun _ _=> ?_) | refine kcallD trivial (fun v h=>h) (fun _ _=> ?_) | exact kpass trivial (fun v h=>h))
end
theorem Parses.flaw_ne {s:ByteArray} {e p:Int} (h:Parses s (.flaw e p)):e≠0:=by
 rcases h with ⟨e,ht,h⟩ | ⟨_,⟨e,p,ev,h⟩ | ⟨i,st,ev,h,hi,_⟩⟩
 ·cases h
  exact (tokens_sort s).1 _ ht
 ·cases h
  exact (Goes.ev (fun c st hp=>kg_rule c st hp) (c:=.module) (st:=⟨0,0,[]⟩) trivial ev).2 _ _ rfl
 ·cases h
end Go.Am.Rl
