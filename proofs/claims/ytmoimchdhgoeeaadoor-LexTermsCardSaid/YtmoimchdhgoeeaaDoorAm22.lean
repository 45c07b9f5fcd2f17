/- The rule of regions whose order is drawn. -/
import Derived.Test.YtmoimchdhgoeeaaDoorAm21
set_option linter.unusedVariables false
set_option linter.unusedSimpArgs false
namespace Go.Am
open Go.RowKit
theorem amask_bit {as ms:List Nat} {j:Nat} (h:(amask as ms).testBit j=true):j ∈ as∨∃ k ∈ as,(ms.getD k 0).testBit j=true:=by
 induction as with
 | nil=>simp [amask] at h
 | cons a r ih=>
  simp only [amask,List.foldr_cons] at h
  rw [Nat.testBit_or,Nat.testBit_or,Nat.shiftLeft_eq,Nat.one_mul,Nat.testBit_two_pow] at h
  simp only [Bool.or_eq_true,decide_eq_true_eq] at h
  rcases h with (h | h) | h
  ·rcases ih h with h | ⟨k,hk,h⟩
   ·exact .inl (List.mem_cons_of_mem _ h)
   ·exact .inr ⟨k,List.mem_cons_of_mem _ hk,h⟩
  ·exact .inl (by rw [h]; exact List.mem_cons_self)
  ·exact .inr ⟨a,List.mem_cons_self,h⟩
theorem okDraw_at {l:List AOper} {ms:List Nat} (h:okDraw l ms=true) {i:Nat} {o:AOper} (ho:l[i]? = some o) :
  (∀ j ∈ o.after,j < i)∧ms.getD i 0=amask o.after ms∧∀ (j:Nat) q,j < i→l[j]? = some q→(ms.getD i 0).testBit j=true∨apart q o=true:=by
 have hi:i < l.length:=(List.getElem?_eq_some_iff.mp ho).1
 have:=List.all_eq_true.mp h i (List.mem_range.mpr hi)
 rw [ho] at this
 simp only [Bool.and_eq_true,beq_iff_eq] at this
 obtain ⟨⟨h1,h2⟩,h3⟩:=this
 refine ⟨fun j hj=>by simpa using List.all_eq_true.mp h1 j hj,h2,fun j q hj hq=> ?_⟩
 have:=List.all_eq_true.mp h3 j (List.mem_range.mpr hj)
 rw [hq] at this
 simpa using this
theorem bit_lt {l:List AOper} {ms:List Nat} (h:okDraw l ms=true):∀ {i:Nat} {o:AOper},l[i]? = some o→∀ {j},(ms.getD i 0).testBit j=true→j < i:=by
 intro i
 induction i using Nat.strongRecOn with
 | ind i ih=>
  intro o ho j hj
  obtain ⟨h1,h2,h3⟩:=okDraw_at h ho
  rw [h2] at hj
  rcases amask_bit hj with hj | ⟨k,hk,hj⟩
  ·exact h1 j hj
  ·have hki:=h1 k hk
   have hl:k < l.length:=Nat.lt_trans hki (List.getElem?_eq_some_iff.mp ho).1
   have:=ih k hki (List.getElem?_eq_getElem hl) hj
   omega
def Down (l:List AOper) (S:Nat→Prop):Prop:=∀ i o,l[i]? = some o→S i→∀ j ∈ o.after,S j
theorem Down.bit {l:List AOper} {ms:List Nat} (h:okDraw l ms=true) {S:Nat→Prop} (hd:Down l S):∀ {i:Nat} {o:AOper},l[i]? = some o→(∀ j ∈ o.after,S j)→∀ {j},(ms.getD i 0).testBit j=true→S j:=by
 intro i
 induction i using Nat.strongRecOn with
 | ind i ih=>
  intro o ho ha j hj
  obtain ⟨h1,h2,h3⟩:=okDraw_at h ho
  rw [h2] at hj
  rcases amask_bit hj with hj | ⟨k,hk,hj⟩
  ·exact ha j hj
  ·have hki:=h1 k hk
   have hl:k < l.length:=Nat.lt_trans hki (List.getElem?_eq_some_iff.mp ho).1
   exact ih k hki (List.getElem?_eq_getElem hl) (hd k _ (List.getElem?_eq_getElem hl) (ha k hk)) hj
theorem StepD.get {P:Program} {o:AOper} {T T':Env} {H H':AHeap} (h:StepD P o T H T' H') {s:Nat} (hs:o.dst≠some s):T'.get s=T.get s:=by
 have key:∀ v,(T.put o.dst v).get s=T.get s:=by
  intro v
  cases hd:o.dst with
  | none=>rfl
  | some d=>
   simp only [Env.put,Env.get_set]
   rw [if_neg (fun e=>hs (by rw [hd,e]))]
 simp only [StepD] at h
 split at h
 ·exact h.elim
 ·rw [h.1,key]
 ·split at h
  ·exact h.elim
  ·rw [h.1,key]
  ·obtain ⟨r,_,h⟩:=h
   rw [h,key]
  ·exact h.elim
  ·exact h.elim
  ·exact h.elim
theorem StepD.heap {P:Program} {o:AOper} {T T':Env} {H H':AHeap} (h:StepD P o T H T' H') (hq:o.op.quiet=true∨wantedA T o.guard=some false):H'=H:=by
 simp only [StepD] at h
 split at h
 ·exact h.elim
 ·exact h.2
 ·rename_i hw
  rcases hq with hq | hq
  ·split at h
   ·exact h.elim
   ·rename_i v H1 hs
    obtain ⟨u,hu⟩:=astep_quiet hq hs
    cases hu
    exact h.2
   ·rename_i f as hs
    rw [enter_quiet hs] at hq; cases hq
   ·exact h.elim
   ·exact h.elim
   ·exact h.elim
  ·rw [hw] at hq; cases hq
theorem StepD.wanted {P:Program} {o:AOper} {T T':Env} {H H':AHeap} (h:StepD P o T H T' H'):wantedA T o.guard=some true∨wantedA T o.guard=some false:=by
 simp only [StepD] at h
 split at h
 ·exact h.elim
 ·rename_i hw; exact .inr hw
 ·rename_i hw; exact .inl hw
section
variable {P:Program} {ms:List Nat} {l:List AOper} {st:Nat→Env × AHeap}
theorem Line.get (hl:Line P ms l st l.length) {s:Nat}:∀ (d p:Nat),p+d≤l.length→(∀ i o,p≤i→i < p+d→l[i]? = some o→o.dst≠some s)→(st (p+d)).1.get s=(st p).1.get s
 | 0,p,_,_=>rfl
 | d+1,p,hp,hn=>by
  have hlt:p+d < l.length:=by omega
  have ho:=List.getElem?_eq_getElem hlt
  have:=(hl.step (p+d) _ hlt ho).get (hn (p+d) _ (by omega) (by omega) ho)
  rw [show p+(d+1)=p+d+1 by omega,this]
  exact Line.get hl d p (by omega) fun i o h1 h2=>hn i o h1 (by omega)
theorem Line.get' (hl:Line P ms l st l.length) {s p q:Nat} (hpq:p≤q) (hq:q≤l.length) (hn:∀ i o,p≤i→i < q→l[i]? = some o→o.dst≠some s):(st q).1.get s=(st p).1.get s:=by
 have:=hl.get (s:=s) (q - p) p (by omega) (fun i o h1 h2=>hn i o h1 (by omega))
 rwa [show p+(q - p)=q by omega] at this
theorem Line.heap (hl:Line P ms l st l.length):∀ (d p:Nat),p+d≤l.length→(∀ i o,p≤i→i < p+d→l[i]? = some o→o.op.quiet=true)→(st (p+d)).2=(st p).2
 | 0,p,_,_=>rfl
 | d+1,p,hp,hn=>by
  have hlt:p+d < l.length:=by omega
  have ho:=List.getElem?_eq_getElem hlt
  have:=(hl.step (p+d) _ hlt ho).heap (.inl (hn (p+d) _ (by omega) (by omega) ho))
  rw [show p+(d+1)=p+d+1 by omega,this]
  exact Line.heap hl d p (by omega) fun i o h1 h2=>hn i o h1 (by omega)
theorem Line.heap' (hl:Line P ms l st l.length) {p q:Nat} (hpq:p≤q) (hq:q≤l.length) (hn:∀ i o,p≤i→i < q→l[i]? = some o→o.op.quiet=true):(st q).2=(st p).2:=by
 have:=hl.heap (q - p) p (by omega) (fun i o h1 h2=>hn i o h1 (by omega))
 rwa [show p+(q - p)=q by omega] at this
theorem Line.later (hl:Line P ms l st l.length) {j:Nat} {q:AOper} {v:AVal} (hj:l[j]? = some q) (hq:q.op.quiet=true) (hw:wantedA (st j).1 q.guard=some true) (hv:astep q.op (st j).1 (st j).2=some (.value v (st j).2)) :
  ∀ (d:Nat),j+d≤l.length→(∀ (e:Nat) o,j < e→e < j+d→l[e]? = some o→o.op.quiet=false→(ms.getD e 0).testBit j=false)→astep q.op (st j).1 (st (j+d)).2=some (.value v (st (j+d)).2)
 | 0,_,_=>hv
 | d+1,hd,hn=>by
  by_cases hr:q.op.reads=true
  ·have hlt:j+d < l.length:=by omega
   have ho:=List.getElem?_eq_getElem hlt
   have ih:=Line.later hl hj hq hw hv d (by omega) fun e o h1 h2=>hn e o h1 (by omega)
   have hstep:=hl.step (j+d) _ hlt ho
   rw [show j+(d+1)=j+d+1 by omega]
   by_cases hqo:(l[j+d]).op.quiet=true∨wantedA (st (j+d)).1 (l[j+d]).guard=some false
   ·rw [hstep.heap hqo]; exact ih
   ·have hq1:(l[j+d]).op.quiet=false:=by
     cases h:(l[j+d]).op.quiet with
     | false=>rfl
     | true=>exact absurd (.inl h) hqo
    have hw1:wantedA (st (j+d)).1 (l[j+d]).guard=some true:=hstep.wanted.resolve_right fun h=>hqo (.inr h)
    have hd0:0 < d:=by
     rcases Nat.eq_zero_or_pos d with h | h
     ·subst h
      have e:=hj.symm.trans ho
      injection e with e
      have e':l[j+0]=q:=e.symm
      rw [e',hq] at hq1; cases hq1
     ·exact h
    have:=hl.late j (j+d) q _ v (by omega) hlt hj ho hq hr hw hv hq1 hw1
    rw [hn (j+d) _ (by omega) (by omega) ho hq1] at this
    exact this.resolve_left (by simp)
  ·exact astep_noread hq (by simpa using hr) hv _
theorem Line.earlier (hl:Line P ms l st l.length) {j:Nat} {q:AOper} {v:AVal} (hj:l[j]? = some q) (hq:q.op.quiet=true) (hw:wantedA (st j).1 q.guard=some true) (hv:astep q.op (st j).1 (st j).2=some (.value v (st j).2)) :
  ∀ (d p:Nat),p+d=j→(∀ (e:Nat) o,p≤e→e < j→l[e]? = some o→o.op.quiet=false→(ms.getD j 0).testBit e=false)→astep q.op (st j).1 (st p).2=some (.value v (st p).2)
 | 0,p,hp,_=>by
  obtain rfl:p=j:=(by omega)
  exact hv
 | d+1,p,hp,hn=>by
  by_cases hr:q.op.reads=true
  ·have hjl:j < l.length:=(List.getElem?_eq_some_iff.mp hj).1
   have hlt:p < l.length:=by omega
   have ho:=List.getElem?_eq_getElem hlt
   have ih:=Line.earlier hl hj hq hw hv d (p+1) (by omega) fun e o h1 h2=>hn e o (by omega) h2
   have hstep:=hl.step p _ hlt ho
   by_cases hqo:(l[p]).op.quiet=true∨wantedA (st p).1 (l[p]).guard=some false
   ·rw [hstep.heap hqo] at ih; exact ih
   ·have hq1:(l[p]).op.quiet=false:=by
     cases h:(l[p]).op.quiet with
     | false=>rfl
     | true=>exact absurd (.inl h) hqo
    have hw1:wantedA (st p).1 (l[p]).guard=some true:=hstep.wanted.resolve_right fun h=>hqo (.inr h)
    have:=hl.soon j p q _ v (by omega) hjl hj ho hq hr hw hv hq1 hw1
    rw [hn p _ (by omega) (by omega) ho hq1] at this
    exact this.resolve_left (by simp)
  ·exact astep_noread hq (by simpa using hr) hv _
end
end Go.Am
