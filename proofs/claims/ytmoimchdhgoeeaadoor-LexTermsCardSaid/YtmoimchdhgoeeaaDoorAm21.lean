/- Regions whose order is drawn: what runs in the order of the text, and looks at nothing that another order shows otherwise, runs so in each. -/
import Derived.Test.YtmoimchdhgoeeaaDoorAm20
import Derived.Orders
set_option linter.unusedVariables false
set_option linter.unusedSimpArgs false
namespace Go.Am
open Go.RowKit
def Det (P:Program) (f:FuncId) (args:List AVal) (H:AHeap) (r:AVal) (H':AHeap):Prop:=
 Callable P f∧CallEv P f args H fun a b=>a=r∧b=H'
def AOpnd.slots:AOpnd→List Nat
 | .t n=>[n]
 | .c _=>[]
def AOper.slots (o:AOper):List Nat:=o.op.opnds.flatMap AOpnd.slots++(match o.guard with | some (g,_)=>[g] | none=>[])
def amask (as ms:List Nat):Nat:=as.foldr (fun j m=>m ||| (1 <<< j) ||| ms.getD j 0) 0
def aclos:List AOper→List Nat→List Nat
 | [],acc=>acc
 | o::r,acc=>aclos r (acc++[amask o.after acc])
def apart (q o:AOper):Bool:=
 (match q.dst with | some d=> !(o.slots.contains d)&&o.dst != some d | none=>true)&&
 (match o.dst with | some d=> !(q.slots.contains d) | none=>true)&&
 (q.op.quiet || o.op.quiet)
def okDraw (l:List AOper) (ms:List Nat):Bool:=
 (List.range l.length).all fun i=>match l[i]? with
  | some o=>o.after.all (fun j=>j < i)&&ms.getD i 0==amask o.after ms&&(List.range i).all fun j=>match l[j]? with
   | some q=>(ms.getD i 0).testBit j || apart q o
   | none=>true
  | none=>true
def StepD (P:Program) (o:AOper) (T:Env) (H:AHeap) (T':Env) (H':AHeap):Prop:=
 match wantedA T o.guard with
 | none=>False
 | some false=>T'=T.put o.dst aundef∧H'=H
 | some true=>match astep o.op T H with
  | none=>False
  | some (.value v H1)=>T'=T.put o.dst v∧H'=H1
  | some (.enter f as)=>∃ r,Det P f as H r H'∧T'=T.put o.dst r
  | some (.anyOf _)=>False
  | some (.pan _)=>False
  | some (.dfr _ _)=>False
def abit (m i:Nat):Bool:=decide (m / 2 ^ i % 2=1)
theorem abit_eq (m i:Nat):abit m i=m.testBit i:=(Nat.testBit_eq_decide_div_mod_eq).symm
structure Seen where
 at_:Nat
 op:AOp
 env:Env
 val:AVal
def DrawRun (P:Program) (ms:List Nat):Nat→List AOper→List (Nat × AHeap)→List Seen→Env→AHeap→(Env→AHeap→Prop)→Prop
 | _,[],_,_,T,H,K=>K T H
 | i,o::r,hs,rs,T,H,K=>
  match wantedA T o.guard with
  | none=>False
  | some false=>DrawRun P ms (i+1) r hs rs (T.put o.dst aundef) H K
  | some true=>
   match astep o.op T H with
   | none=>False
   | some (.value v H1)=>
    if o.op.quiet=true then
     if o.op.reads=true then
      (∀ p ∈ hs,abit (ms.getD i 0) p.1=true∨astep o.op T p.2=some (.value v p.2))∧DrawRun P ms (i+1) r hs (⟨i,o.op,T,v⟩::rs) (T.put o.dst v) H K
     else DrawRun P ms (i+1) r hs rs (T.put o.dst v) H K
    else (∀ q ∈ rs,abit (ms.getD i 0) q.at_=true∨astep q.op q.env H1=some (.value q.val H1))∧DrawRun P ms (i+1) r ((i,H)::hs) rs (T.put o.dst v) H1 K
   | some (.enter f as)=>∃ u H1,Det P f as H u H1∧(∀ q ∈ rs,abit (ms.getD i 0) q.at_=true∨astep q.op q.env H1=some (.value q.val H1))∧
     DrawRun P ms (i+1) r ((i,H)::hs) rs (T.put o.dst u) H1 K
   | some (.anyOf _)=>False
   | some (.pan _)=>False
   | some (.dfr _ _)=>False
structure Line (P:Program) (ms:List Nat) (l:List AOper) (st:Nat→Env × AHeap) (m:Nat):Prop where
 step:∀ i o,i < m→l[i]? = some o→StepD P o (st i).1 (st i).2 (st (i+1)).1 (st (i+1)).2
 late:∀ (j e:Nat) q o v,j < e→e < m→l[j]? = some q→l[e]? = some o→q.op.quiet=true→q.op.reads=true→wantedA (st j).1 q.guard=some true→astep q.op (st j).1 (st j).2=some (.value v (st j).2)→
  o.op.quiet=false→wantedA (st e).1 o.guard=some true→(ms.getD e 0).testBit j=true∨astep q.op (st j).1 (st (e+1)).2=some (.value v (st (e+1)).2)
 soon:∀ (j e:Nat) q o v,e < j→j < m→l[j]? = some q→l[e]? = some o→q.op.quiet=true→q.op.reads=true→wantedA (st j).1 q.guard=some true→astep q.op (st j).1 (st j).2=some (.value v (st j).2)→
  o.op.quiet=false→wantedA (st e).1 o.guard=some true→(ms.getD j 0).testBit e=true∨astep q.op (st j).1 (st e).2=some (.value v (st e).2)
structure Acc (l:List AOper) (st:Nat→Env × AHeap) (m:Nat) (hs:List (Nat × AHeap)) (rs:List Seen):Prop where
 hs:∀ e o,e < m→l[e]? = some o→o.op.quiet=false→wantedA (st e).1 o.guard=some true→(e,(st e).2) ∈ hs
 rs:∀ j q v,j < m→l[j]? = some q→q.op.quiet=true→q.op.reads=true→wantedA (st j).1 q.guard=some true→astep q.op (st j).1 (st j).2=some (.value v (st j).2)→(⟨j,q.op,(st j).1,v⟩:Seen) ∈ rs
theorem Line.congr {P:Program} {ms:List Nat} {l:List AOper} {st st':Nat→Env × AHeap} {m:Nat} (h:Line P ms l st m) (he:∀ i,i≤m→st' i=st i):Line P ms l st' m:=by
 refine ⟨fun i o hi ho=> ?_,fun j e q o v h1 h2=> ?_,fun j e q o v h1 h2=> ?_⟩
 ·rw [he i (by omega),he (i+1) (by omega)]; exact h.step i o hi ho
 ·rw [he j (by omega),he e (by omega),he (e+1) (by omega)]; exact h.late j e q o v h1 h2
 ·rw [he j (by omega),he e (by omega)]; exact h.soon j e q o v h1 h2
theorem Acc.congr {l:List AOper} {st st':Nat→Env × AHeap} {m:Nat} {hs rs} (h:Acc l st m hs rs) (he:∀ i,i≤m→st' i=st i):Acc l st' m hs rs:=by
 refine ⟨fun e o h1=> ?_,fun j q v h1=> ?_⟩
 ·rw [he e (by omega)]; exact h.hs e o h1
 ·rw [he j (by omega)]; exact h.rs j q v h1
theorem enter_quiet {op:AOp} {T:Env} {H:AHeap} {f:FuncId} {as:List AVal} (h:astep op T H=some (.enter f as)):op.quiet=false:=by
 cases hq:op.quiet with
 | false=>rfl
 | true=>obtain ⟨v,hv⟩:=astep_quiet hq h; cases hv
theorem snoc {P:Program} {ms:List Nat} {l:List AOper} {st:Nat→Env × AHeap} {i:Nat} {hs:List (Nat × AHeap)} {rs:List Seen} {T T1:Env} {H H1:AHeap} {o:AOper} (ho:l[i]? = some o)
  (hl:Line P ms l st i) (ha:Acc l st i hs rs) (hst:st i=(T,H)) {hs':List (Nat × AHeap)} {rs':List Seen} (h1:StepD P o T H T1 H1) (hhs:∀ x ∈ hs,x ∈ hs') (hrs:∀ x ∈ rs,x ∈ rs')
  (k1:o.op.quiet=false→wantedA T o.guard=some true→(i,H) ∈ hs'∧∀ q ∈ rs,(ms.getD i 0).testBit q.at_=true∨astep q.op q.env H1=some (.value q.val H1))
  (k2:∀ v,o.op.quiet=true→o.op.reads=true→wantedA T o.guard=some true→astep o.op T H=some (.value v H)→(⟨i,o.op,T,v⟩:Seen) ∈ rs'∧∀ p ∈ hs,(ms.getD i 0).testBit p.1=true∨astep o.op T p.2=some (.value v p.2)) :
  Line P ms l (fun j=>if j≤i then st j else (T1,H1)) (i+1)∧Acc l (fun j=>if j≤i then st j else (T1,H1)) (i+1) hs' rs':=by
 have e0:∀ j,j≤i→(if j≤i then st j else (T1,H1))=st j:=fun j hj=>if_pos hj
 have e1:(if i+1≤i then st (i+1) else (T1,H1))=(T1,H1):=if_neg (by omega)
 have hT:(st i).1=T:=by rw [hst]
 have hH:(st i).2=H:=by rw [hst]
 have hl':=hl.congr (st':=fun j=>if j≤i then st j else (T1,H1)) e0
 have ha':=ha.congr (st':=fun j=>if j≤i then st j else (T1,H1)) e0
 refine ⟨⟨fun j x hj hx=> ?_,fun j e q x v a1 a2 a3 a4 a5 a6 a7 a8 a9 a10=> ?_,fun j e q x v a1 a2 a3 a4 a5 a6 a7 a8 a9 a10=> ?_⟩,⟨fun e x h2 h3 h4 h5=> ?_,fun j q v h2 h3 h4 h5 h6 h7=> ?_⟩⟩
 ·rcases Nat.lt_or_ge j i with hji | hji
  ·exact hl'.step j x hji hx
  ·obtain rfl:j=i:=by omega
   rw [ho] at hx; cases hx
   simp only [Nat.le_refl,if_true,e1,hT,hH]
   exact h1
 ·rcases Nat.lt_or_ge e i with hji | hji
  ·exact hl'.late j e q x v a1 hji a3 a4 a5 a6 a7 a8 a9 a10
  ·obtain rfl:e=i:=by omega
   rw [ho] at a4; cases a4
   simp only [Nat.le_refl,if_true,e1,hT] at a10 ⊢
   simp only [e0 j (by omega)] at a7 a8 ⊢
   have hm:=ha.rs j q v a1 a3 a5 a6 a7 a8
   exact (k1 a9 a10).2 _ hm
 ·rcases Nat.lt_or_ge j i with hji | hji
  ·exact hl'.soon j e q x v a1 hji a3 a4 a5 a6 a7 a8 a9 a10
  ·obtain rfl:j=i:=by omega
   rw [ho] at a3; cases a3
   simp only [Nat.le_refl,if_true,hT,hH] at a7 a8 ⊢
   simp only [e0 e (by omega)] at a10 ⊢
   have hm:=ha.hs e x a1 a4 a9 a10
   exact (k2 v a5 a6 a7 a8).2 _ hm
 ·rcases Nat.lt_or_ge e i with hji | hji
  ·exact hhs _ (ha'.hs e x hji h3 h4 h5)
  ·obtain rfl:e=i:=by omega
   rw [ho] at h3; cases h3
   simp only [Nat.le_refl,if_true,hT,hH] at h5 ⊢
   exact (k1 h4 h5).1
 ·rcases Nat.lt_or_ge j i with hji | hji
  ·exact hrs _ (ha'.rs j q v hji h3 h4 h5 h6 h7)
  ·obtain rfl:j=i:=by omega
   rw [ho] at h3; cases h3
   simp only [Nat.le_refl,if_true,hT,hH] at h6 h7 ⊢
   exact (k2 v h4 h5 h6 h7).1
theorem line_of {P:Program} {ms:List Nat} {l:List AOper} {K:Env→AHeap→Prop}:∀ (r:List AOper) (i:Nat) (hs:List (Nat × AHeap)) (rs:List Seen) (T:Env) (H:AHeap),l.drop i=r→i≤l.length→DrawRun P ms i r hs rs T H K→
  ∀ st,Line P ms l st i→Acc l st i hs rs→st i=(T,H)→∃ st',Line P ms l st' l.length∧K (st' l.length).1 (st' l.length).2∧(∀ j,j≤i→st' j=st j)
 | [],i,hs,rs,T,H,hd,hi,hr,st,hl,ha,hst=>by
  have hlen:l.length≤i:=List.drop_eq_nil_iff.mp hd
  obtain rfl:i=l.length:=by omega
  refine ⟨st,hl,?_,fun j hj=>rfl⟩
  rw [hst]; exact hr
 | o::r,i,hs,rs,T,H,hd,hi,hr,st,hl,ha,hst=>by
  have hlt:i < l.length:=by
   rcases Nat.lt_or_ge i l.length with h | h
   ·exact h
   ·rw [List.drop_eq_nil_of_le h] at hd; cases hd
  have hcons:=List.drop_eq_getElem_cons hlt
  rw [hd] at hcons
  obtain ⟨e1,e2⟩:=List.cons.inj hcons
  have ho:l[i]? = some o:=by rw [List.getElem?_eq_getElem hlt,e1]
  have go:∀ {T1:Env} {H1:AHeap} {hs':List (Nat × AHeap)} {rs':List Seen},StepD P o T H T1 H1→(∀ x ∈ hs,x ∈ hs')→(∀ x ∈ rs,x ∈ rs')→
    (o.op.quiet=false→wantedA T o.guard=some true→(i,H) ∈ hs'∧∀ q ∈ rs,(ms.getD i 0).testBit q.at_=true∨astep q.op q.env H1=some (.value q.val H1))→
    (∀ v,o.op.quiet=true→o.op.reads=true→wantedA T o.guard=some true→astep o.op T H=some (.value v H)→(⟨i,o.op,T,v⟩:Seen) ∈ rs'∧∀ p ∈ hs,(ms.getD i 0).testBit p.1=true∨astep o.op T p.2=some (.value v p.2))→
    DrawRun P ms (i+1) r hs' rs' T1 H1 K→∃ st',Line P ms l st' l.length∧K (st' l.length).1 (st' l.length).2∧(∀ j,j≤i→st' j=st j):=by
   intro T1 H1 hs' rs' b1 b2 b3 b4 b5 b6
   obtain ⟨c1,c2⟩:=snoc ho hl ha hst b1 b2 b3 b4 b5
   obtain ⟨st',d1,d2,d3⟩:=line_of r (i+1) hs' rs' T1 H1 e2.symm (by omega) b6 _ c1 c2 (if_neg (by omega))
   exact ⟨st',d1,d2,fun j hj=>(d3 j (by omega)).trans (if_pos hj)⟩
  simp only [DrawRun,abit_eq] at hr
  cases hw:wantedA T o.guard with
  | none=>rw [hw] at hr; exact hr.elim
  | some b=>
   cases b with
   | false=>
    rw [hw] at hr
    exact go (by simp [StepD,hw]) (fun _ h=>h) (fun _ h=>h) (fun _ h=>by rw [hw] at h; cases h) (fun _ _ _ h=>by rw [hw] at h; cases h) hr
   | true=>
    rw [hw] at hr
    simp only at hr
    cases hs1:astep o.op T H with
    | none=>rw [hs1] at hr; exact hr.elim
    | some nx=>
     rw [hs1] at hr
     cases nx with
     | anyOf _=>exact hr.elim
     | pan _=>exact hr.elim
     | dfr _ _=>exact hr.elim
     | value v H1=>
      simp only at hr
      have hstep:StepD P o T H (T.put o.dst v) H1:=by simp [StepD,hw,hs1]
      by_cases hq:o.op.quiet=true
      ·obtain ⟨v',hv'⟩:=astep_quiet hq hs1
       cases hv'
       rw [if_pos hq] at hr
       by_cases hre:o.op.reads=true
       ·rw [if_pos hre] at hr
        exact go hstep (fun _ h=>h) (fun _ h=>List.mem_cons_of_mem _ h) (fun h=>by rw [hq] at h; cases h) (fun u _ _ _ hu=>by rw [hs1] at hu; cases hu; exact ⟨List.mem_cons_self,hr.1⟩) hr.2
       ·rw [if_neg hre] at hr
        exact go hstep (fun _ h=>h) (fun _ h=>h) (fun h=>by rw [hq] at h; cases h) (fun u _ h=>absurd h hre) hr
      ·rw [if_neg hq] at hr
       exact go hstep (fun _ h=>List.mem_cons_of_mem _ h) (fun _ h=>h) (fun _ _=>⟨List.mem_cons_self,hr.1⟩) (fun u h=>absurd h hq) hr.2
     | enter f as=>
      obtain ⟨u,H1,hdet,hsee,hr⟩:=hr
      have hq:=enter_quiet hs1
      exact go (by simp only [StepD,hw,hs1]; exact ⟨u,hdet,rfl⟩) (fun _ h=>List.mem_cons_of_mem _ h) (fun _ h=>h) (fun _ _=>⟨List.mem_cons_self,hsee⟩) (fun u h=>by rw [hq] at h; cases h) hr
end Go.Am
