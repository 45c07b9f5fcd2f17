/- Parts: GB1, GB2, GB3, GB4. -/
import Derived.Test.YtcphfgcfmphlfaaDoorPE
import Derived.Test.YtcphfgcfmphlfaaDoorPY
import Derived.Test.YtcphfgcfmphlfaaDoorVE
set_option linter.unusedVariables false
set_option linter.unusedSimpArgs false
namespace Go.Am.Rl
open Go.Proofs
inductive BT where
 | leaf (n:Int)
 | op (o:ByteArray) (a b:BT)
def BT.size:BT→Nat
 | .leaf _=>1
 | .op _ a b=>a.size+b.size+1
def BT.deep:BT→Nat
 | .leaf _=>0
 | .op _ a b=>1+max a.deep b.deep
def BT.post:BT→Nat→List ND
 | .leaf n,_=>[⟨1,empty,n,0,[],0⟩]
 | .op o a b,base=>a.post base++(b.post (base+a.size)++[⟨9,o,0,0,[base+a.size - 1,base+a.size+b.size - 1],0⟩])
theorem BT.pos:∀ t:BT,0 < t.size
 | .leaf _=>Nat.one_pos
 | .op _ _ _=>Nat.succ_pos _
theorem BT.post_len:∀ (t:BT) (b:Nat),(t.post b).length=t.size
 | .leaf _,_=>rfl
 | .op o x y,b=>by simp [BT.post,BT.size,BT.post_len x,BT.post_len y]; omega
def ops12:List ByteArray:=[w_orelse,w_andalso,w_eqeq,w_lt,w_same,w_cat,w_plus,w_minus,w_star,w_slash,w_div,w_rem]
def lv (o:ByteArray):Nat:=if seq o w_orelse=true then 1 else if seq o w_andalso=true then 2 else if (seq o w_eqeq || seq o w_lt || seq o w_same)=true then 3 else if seq o w_cat=true then 4 else if (seq o w_plus || seq o w_minus)=true then 5 else 6
def sg:Nat→List ByteArray
 | 1=>[w_orelse]
 | 2=>[w_andalso]
 | 3=>[w_eqeq,w_ne,w_le,w_lt,w_ge,w_gt,w_same,w_nsame]
 | 4=>[w_cat]
 | 5=>[w_plus,w_minus]
 | 6=>[w_star,w_slash,w_div,w_rem]
 | _=>[]
def anyF (o:ByteArray):List ByteArray→ByteArray
 | []=>⟨#[]⟩
 | s::r=>if seq o s=true then s else anyF o r
def R:Nat→NT
 | 1=>.either
 | 2=>.both
 | 3=>.compare
 | 4=>.append
 | 5=>.add
 | 6=>.mul
 | _=>.unary
def lvOk (o:ByteArray):Bool:=(1≤lv o&&lv o≤6)&&[1,2,3,4,5,6].all fun k=>seq (anyF o (sg k)) (if k=lv o then o else ⟨#[]⟩)
theorem lv_all:ops12.all lvOk=true:=by kernel_rfl
theorem seq_eq {a b:ByteArray} (h:seq a b=true):a=b:=by
 have he:=eq_of_beq h
 rw [Go.ByteArray.toList_eq,Go.ByteArray.toList_eq] at he
 exact ByteArray.ext (Array.toList_inj.mp he)
theorem lv_of {o:ByteArray} (h:o ∈ ops12):1≤lv o∧lv o≤6∧∀ k,1≤k→k≤6→anyF o (sg k)=if k=lv o then o else ⟨#[]⟩:=by
 have:=List.all_eq_true.1 lv_all o h
 unfold lvOk at this
 rw [Bool.and_eq_true,Bool.and_eq_true] at this
 obtain ⟨⟨h1,h2⟩,h3⟩:=this
 refine ⟨of_decide_eq_true h1,of_decide_eq_true h2,fun k hk hk'=> ?_⟩
 have hm:k ∈ [1,2,3,4,5,6]:=by simp; omega
 exact seq_eq (List.all_eq_true.1 h3 k hm)
theorem ops_ne {o:ByteArray} (h:o ∈ ops12):seq o empty=false:=by
 have:(ops12.all fun o=> !seq o empty)=true:=by kernel_rfl
 simpa using List.all_eq_true.1 this o h
theorem ops_lp {o:ByteArray} (h:o ∈ ops12):seq o w_lp=false:=by
 have:(ops12.all fun o=> !seq o w_lp)=true:=by kernel_rfl
 simpa using List.all_eq_true.1 this o h
section
variable {E:List TK} {st:PS} {i j p h k m:Nat} {t a b:BT} {o:ByteArray}
def Sign (x:TK):Prop:=x.k=6∨x.k=7
theorem isS_sign (hs:Sign (tk E st.at_)) (s:ByteArray):isS E st s=seq (tk E st.at_).s s:=by
 unfold isS; rcases hs with hs | hs <;> rw [hs] <;> rfl
theorem isS_no (h6:(tk E st.at_).k≠6) (h7:(tk E st.at_).k≠7) (s:ByteArray):isS E st s=false:=by
 unfold isS
 rw [show ((tk E st.at_).k==6)=false by simpa using h6,show ((tk E st.at_).k==7)=false by simpa using h7]; rfl
theorem anyS_sign (hs:Sign (tk E st.at_)):∀ l,anyS E st l=anyF (tk E st.at_).s l
 | []=>rfl
 | s::r=>by unfold anyS anyF; rw [isS_sign hs,anyS_sign hs r]
theorem anyS_no (h6:(tk E st.at_).k≠6) (h7:(tk E st.at_).k≠7):∀ l,anyS E st l=⟨#[]⟩
 | []=>rfl
 | s::r=>by unfold anyS; rw [isS_no h6 h7,anyS_no h6 h7 r]; rfl
def Par (E:List TK) (c:NT) (i j:Nat) (t:BT) (h:Nat):Prop:=∀ st:PS,st.at_=i→st.deep+h≤199→st.nodes.length+t.size≤16384→Ev E (rule E c st) (.ok (.n (st.nodes.length+t.size - 1)) ⟨j,st.deep,st.nodes++t.post st.nodes.length⟩)
def Stop (E:List TK) (j k:Nat):Prop:=∀ m,k≤m→m≤6→∀ st:PS,st.at_=j→anyS E st (sg m)=⟨#[]⟩
structure OpAt (E:List TK) (p:Nat) (o:ByteArray):Prop where
 mem:o ∈ ops12
 sign:Sign (tk E p)
 s:(tk E p).s=o
theorem OpAt.any (q:OpAt E p o) (hp:st.at_=p) (h1:1≤k) (h6:k≤6):anyS E st (sg k)=if k=lv o then o else ⟨#[]⟩:=by
 subst hp
 rw [anyS_sign q.sign,q.s]
 exact (lv_of q.mem).2.2 k h1 h6
theorem OpAt.stop (q:OpAt E p o) (hk:lv o < k):Stop E p k:=fun m h1 h6 st hp=>by
 rw [q.any hp (by omega) h6,if_neg (by omega)]
theorem Stop.le {k':Nat} (q:Stop E j k) (h:k≤k'):Stop E j k':=fun m h1 h6=>q m (Nat.le_trans h h1) h6
theorem seq_nil:seq (⟨#[]⟩:ByteArray) empty=true:=by kernel_rfl
theorem Par.up (hE:∀ i,(tk E i).p=0) (q:Par E (R (k+1)) i j t h) (h1:1≤k) (h6:k≤6) (hs:Stop E j k):Par E (R k) i j t h:=by
 intro st hi hd hn
 have ev:=q st hi hd hn
 have hst:∀ st':PS,st'.at_=j→seq (anyS E st' (sg k)) empty=true:=fun st' hj=>by rw [hs k (Nat.le_refl _) h6 st' hj]; exact seq_nil
 have hc:k=1∨k=2∨k=3∨k=4∨k=5∨k=6:=by omega
 rcases hc with rfl | rfl | rfl | rfl | rfl | rfl
 ·exact Ev.pass (c:=.right .both .either (sg 1)) (Ev.call ev (Ev.t (hst _ rfl) .done))
 ·exact Ev.pass (c:=.right .compare .both (sg 2)) (Ev.call ev (Ev.t (hst _ rfl) .done))
 ·exact Ev.pass (c:=.right .append .append (sg 3)) (Ev.call ev (Ev.t (hst _ rfl) .done))
 ·exact Ev.pass (c:=.right .add .append (sg 4)) (Ev.call ev (Ev.t (hst _ rfl) .done))
 ·exact Ev.pass (c:=.left .mul (sg 5)) (Ev.call ev (Ev.pass (Ev.t (hst _ rfl) .done)))
 ·exact Ev.pass (c:=.left .unary (sg 6)) (Ev.call ev (Ev.pass (Ev.t (hst _ rfl) .done)))
theorem Par.ups (hE:∀ i,(tk E i).p=0) (h1:1≤k) (hs:Stop E j k):∀ (d:Nat),k+d≤7→Par E (R (k+d)) i j t h→Par E (R k) i j t h
 | 0,_,q=>q
 | d+1,hd,q=>Par.ups hE h1 hs d (by omega) (Par.up hE q (by omega) (by omega) (hs.le (by omega)))
theorem post_op (n:List ND):(n++a.post n.length)++(b.post (n++a.post n.length).length)++[⟨9,o,0,0,[n.length+a.size - 1,(n++a.post n.length).length+b.size - 1],0⟩]=n++(BT.op o a b).post n.length:=by
 rw [List.length_append,BT.post_len]
 simp only [BT.post,List.append_assoc]
theorem Par.op (hE:∀ i,(tk E i).p=0) {x y:NT} {g:List ByteArray} (qa:Par E x i p a h) (ho:o ∈ ops12) (hg:∀ st:PS,st.at_=p→anyS E st g=o) (qb:Par E y (p+1) j b h):Par E (.right x y g) i j (.op o a b) h:=by
 intro st hi hd hn
 have pa:=a.pos
 have pb:=b.pos
 have hsz:(BT.op o a b).size=a.size+b.size+1:=rfl
 rw [hsz] at hn ⊢
 have hl:(st.nodes++a.post st.nodes.length).length=st.nodes.length+a.size:=by rw [List.length_append,BT.post_len]
 have e1:=qa st hi hd (by omega)
 have hg':=hg ⟨p,st.deep,st.nodes++a.post st.nodes.length⟩ rfl
 have e2:=qb ⟨p+1,st.deep,st.nodes++a.post st.nodes.length⟩ rfl hd (by simp only [hl]; omega)
 refine Ev.call e1 (Ev.f (by rw [hg']; exact ops_ne ho) (Ev.call e2 (Ev.lay ?_ ?_)))
 ·simp only [List.length_append,BT.post_len]; omega
 ·have e3:(⟨9,anyS E ⟨p,st.deep,st.nodes++a.post st.nodes.length⟩ g,0,0,[st.nodes.length+a.size - 1,(st.nodes++a.post st.nodes.length).length+b.size - 1],pos E st⟩:ND)=⟨9,o,0,0,[st.nodes.length+a.size - 1,(st.nodes++a.post st.nodes.length).length+b.size - 1],0⟩:=by
   rw [hg']; unfold pos; rw [hE]
  rw [e3,post_op]
  have e4:(st.nodes++a.post st.nodes.length++b.post (st.nodes++a.post st.nodes.length).length).length=st.nodes.length+(a.size+b.size+1) - 1:=by
   simp only [List.length_append,BT.post_len]; omega
  rw [e4]
  exact .done
def LP (E:List TK) (m i j:Nat) (t:BT) (h:Nat):Prop:=∀ st:PS,st.at_=i→st.deep+h≤199→st.nodes.length+t.size≤16384→∀ out,Ev E (rule E (.leftL (R (m+1)) (sg m) (st.nodes.length+t.size - 1) 0) ⟨j,st.deep,st.nodes++t.post st.nodes.length⟩) out→Ev E (rule E (.left (R (m+1)) (sg m)) st) out
theorem LP.base (hE:∀ i,(tk E i).p=0) (q:Par E (R (m+1)) i j t h):LP E m i j t h:=by
 intro st hi hd hn out ho
 have hp:pos E st=0:=hE _
 refine Ev.call (q st hi hd hn) ?_
 show Ev E (pass1 (.leftL (R (m+1)) (sg m) _ (pos E st)) _) out
 rw [hp]
 exact Ev.pass ho
theorem LP.step (hE:∀ i,(tk E i).p=0) (qa:LP E m i p a h) (q:OpAt E p o) (hm:lv o=m) (qb:Par E (R (m+1)) (p+1) j b h):LP E m i j (.op o a b) h:=by
 intro st hi hd hn out hout
 have pa:=a.pos
 have pb:=b.pos
 have hsz:(BT.op o a b).size=a.size+b.size+1:=rfl
 rw [hsz] at hn hout
 have hlv:=lv_of q.mem
 have hl:(st.nodes++a.post st.nodes.length).length=st.nodes.length+a.size:=by rw [List.length_append,BT.post_len]
 have hg:anyS E ⟨p,st.deep,st.nodes++a.post st.nodes.length⟩ (sg m)=o:=by rw [q.any rfl (by omega) (by omega),if_pos hm.symm]
 have e2:=qb ⟨p+1,st.deep,st.nodes++a.post st.nodes.length⟩ rfl hd (by simp only [hl]; omega)
 refine qa st hi hd (by omega) out (Ev.f (by rw [hg]; exact ops_ne q.mem) (Ev.call e2 (Ev.lay ?_ ?_)))
 ·simp only [List.length_append,BT.post_len]; omega
 ·rw [hg,post_op]
  have e4:(st.nodes++a.post st.nodes.length++b.post (st.nodes++a.post st.nodes.length).length).length=st.nodes.length+(a.size+b.size+1) - 1:=by
   simp only [List.length_append,BT.post_len]; omega
  rw [e4]
  exact Ev.pass hout
theorem LP.fin (qa:LP E m i j t h) (hs:∀ st:PS,st.at_=j→anyS E st (sg m)=⟨#[]⟩):Par E (.left (R (m+1)) (sg m)) i j t h:=by
 intro st hi hd hn
 exact qa st hi hd hn _ (Ev.t (by rw [hs _ rfl]; exact seq_nil) .done)
def Cond (o:ByteArray) (l1 l2:List ByteArray):Prop:=(∀ q ∈ l1,lv o≤lv q∧(lv o≤4→lv o < lv q))∧∀ q ∈ l2,lv o≤lv q∧((lv o=3∨5≤lv o)→lv o < lv q)
inductive Rw (E:List TK) (h:Nat):Nat→Nat→List ByteArray→BT→Prop
 | leaf {i j:Nat} {t:BT}:Par E .unary i j t h→Rw E h i j [] t
 | node {i p j:Nat} {l1 l2:List ByteArray} {o:ByteArray} {a b:BT}:Rw E h i p l1 a→OpAt E p o→Rw E h (p+1) j l2 b→Cond o l1 l2→Rw E h i j (l1++o::l2) (.op o a b)
theorem Rw.par (hE:∀ i,(tk E i).p=0) {l:List ByteArray} (r:Rw E h i j l t) :
  (∀ k,1≤k→k≤7→(∀ o ∈ l,k≤lv o)→Stop E j k→Par E (R k) i j t h)∧∀ m,m=5∨m=6→(∀ o ∈ l,m≤lv o)→Stop E j (m+1)→LP E m i j t h:=by
 induction r with
 | leaf q=>
  have A:∀ {j k:Nat},1≤k→k≤7→Stop E j k→∀ {i t},Par E .unary i j t h→Par E (R k) i j t h:=fun {j k} h1 h7 hs {i t} q=>
   Par.ups hE h1 hs (7 - k) (by omega) (by rw [show k+(7 - k)=7 by omega]; exact q)
  exact ⟨fun k h1 h7 _ hs=>A h1 h7 hs q,fun m hm _ hs=>LP.base hE (A (by omega) (by omega) hs q)⟩
 | @node i p j l1 l2 o a b ra q rb c iha ihb=>
  have hlv:=lv_of q.mem
  have hany:∀ st:PS,st.at_=p→anyS E st (sg (lv o))=o:=fun st hp=>by rw [q.any hp hlv.1 hlv.2.1,if_pos rfl]
  have stp:Stop E p (lv o+1):=q.stop (by omega)
  have B:∀ m,m=5∨m=6→m=lv o→Stop E j (m+1)→LP E m i j (.op o a b) h:=by
   intro m hm hmo hs
   have la:=iha.2 m hm (fun q' hq=>by have:=(c.1 q' hq).1; omega) (by rw [hmo]; exact stp)
   have pb:=ihb.1 (m+1) (by omega) (by omega) (fun q' hq=>by have:=(c.2 q' hq).2 (by omega); omega) hs
   exact LP.step hE la q hmo.symm pb
  have A0:Stop E j (lv o)→Par E (R (lv o)) i j (.op o a b) h:=by
   intro hs
   have hc:lv o=1∨lv o=2∨lv o=3∨lv o=4∨lv o=5∨lv o=6:=by omega
   have right:∀ kk,kk=lv o→lv o≤4→Par E (R (kk+1)) i p a h:=fun kk hkk h4=>iha.1 (kk+1) (by omega) (by omega) (fun q' hq=>by have:=(c.1 q' hq).2 h4; omega) (by rw [hkk]; exact stp)
   have same:∀ kk,kk=lv o→Par E (R kk) (p+1) j b h:=fun kk hkk=>ihb.1 kk (by omega) (by omega) (fun q' hq=>by have:=(c.2 q' hq).1; omega) (by rw [hkk]; exact hs)
   rcases hc with e | e | e | e | e | e
   ·rw [e] at hany ⊢
    have:=Par.op hE (right 1 e.symm (by omega)) q.mem hany (same 1 e.symm)
    exact fun st hi hd hn=>Ev.pass (c:=.right .both .either (sg 1)) (this st hi hd hn)
   ·rw [e] at hany ⊢
    have:=Par.op hE (right 2 e.symm (by omega)) q.mem hany (same 2 e.symm)
    exact fun st hi hd hn=>Ev.pass (c:=.right .compare .both (sg 2)) (this st hi hd hn)
   ·have pb:=ihb.1 4 (by omega) (by omega) (fun q' hq=>by have:=(c.2 q' hq).2 (.inl e); omega) (hs.le (by omega))
    rw [e] at hany ⊢
    have:=Par.op hE (right 3 e.symm (by omega)) q.mem hany pb
    exact fun st hi hd hn=>Ev.pass (c:=.right .append .append (sg 3)) (this st hi hd hn)
   ·rw [e] at hany ⊢
    have:=Par.op hE (right 4 e.symm (by omega)) q.mem hany (same 4 e.symm)
    exact fun st hi hd hn=>Ev.pass (c:=.right .add .append (sg 4)) (this st hi hd hn)
   ·have:=LP.fin (B 5 (.inl rfl) e.symm (by rw [e] at hs; exact hs.le (by omega))) (fun st hj=>by rw [e] at hs; exact hs 5 (Nat.le_refl _) (by omega) st hj)
    rw [e]
    exact fun st hi hd hn=>Ev.pass (c:=.left .mul (sg 5)) (this st hi hd hn)
   ·have:=LP.fin (B 6 (.inr rfl) e.symm (by rw [e] at hs; exact hs.le (by omega))) (fun st hj=>by rw [e] at hs; exact hs 6 (Nat.le_refl _) (by omega) st hj)
    rw [e]
    exact fun st hi hd hn=>Ev.pass (c:=.left .unary (sg 6)) (this st hi hd hn)
  have A:∀ k,1≤k→k≤lv o→Stop E j k→Par E (R k) i j (.op o a b) h:=fun k h1 hk hs=>
   Par.ups hE h1 hs (lv o - k) (by omega) (by rw [show k+(lv o - k)=lv o by omega]; exact A0 (hs.le hk))
  have hmem:o ∈ l1++o::l2:=List.mem_append_right _ (List.mem_cons_self ..)
  refine ⟨fun k h1 h7 hl hs=>A k h1 (hl o hmem) hs,fun m hm hl hs=> ?_⟩
  rcases Nat.lt_or_eq_of_le (hl o hmem) with hlt | heq
  ·exact LP.base hE (A (m+1) (by omega) hlt hs)
  ·exact B m hm heq hs
end
end Go.Am.Rl
namespace Go.Am.Rl
open Go.Proofs
def rtA (m:Nat):Bool:=m==1 || m==2 || m==4
def lvN (l:List ByteArray) (i:Nat):Nat:=lv (l.getD i empty)
def later (l:List ByteArray) (a i:Nat):Bool:=decide (lvN l i < lvN l a) || ((lvN l i==lvN l a)&& !rtA (lvN l a))
def splitF (l:List ByteArray):Nat→Nat→Nat→Nat
 | 0,a,_=>a
 | f+1,a,i=>if i < l.length then splitF l f (if later l a i=true then i else a) (i+1) else a
def spl (l:List ByteArray):Nat:=splitF l l.length 0 1
structure SInv (l:List ByteArray) (a i:Nat):Prop where
 lt:a < i
 lo:∀ q,q < a→lvN l a≤lvN l q∧(rtA (lvN l a)=true→lvN l a < lvN l q)
 hi:∀ q,a < q→q < i→lvN l a≤lvN l q∧(rtA (lvN l a)=false→lvN l a < lvN l q)
theorem splitF_inv {l:List ByteArray}:∀ (f a i:Nat),l.length - i≤f→i≤l.length→SInv l a i→SInv l (splitF l f a i) l.length
 | 0,a,i,hf,hi,h=>by
  have:i=l.length:=by omega
  subst this; exact h
 | f+1,a,i,hf,hi,h=>by
  unfold splitF
  by_cases hlt:i < l.length
  ·rw [if_pos hlt]
   refine splitF_inv f _ (i+1) (by omega) hlt ?_
   cases hl:later l a i with
   | true=>
    rw [if_pos rfl]
    unfold later at hl
    rw [Bool.or_eq_true,Bool.and_eq_true] at hl
    refine ⟨by omega,fun q hq=> ?_,fun q h1 h2=>by omega⟩
    have hge:lvN l a≤lvN l q:=by
     rcases Nat.lt_trichotomy q a with h1 | h1 | h1
     ·exact (h.lo q h1).1
     ·rw [h1]; exact Nat.le_refl _
     ·exact (h.hi q h1 hq).1
    rcases hl with hl | ⟨h1,h2⟩
    ·have:=of_decide_eq_true hl
     exact ⟨by omega,fun _=>by omega⟩
    ·have e:=eq_of_beq h1
     rw [e]
     refine ⟨hge,fun hr=> ?_⟩
     rw [hr] at h2; cases h2
   | false=>
    rw [if_neg (by simp)]
    unfold later at hl
    rw [Bool.or_eq_false_iff,Bool.and_eq_false_iff] at hl
    have hge:=of_decide_eq_false hl.1
    refine ⟨by have:=h.lt; omega,h.lo,fun q h1 h2=> ?_⟩
    rcases Nat.lt_or_eq_of_le (Nat.le_of_lt_succ h2) with h3 | h3
    ·exact h.hi q h1 h3
    ·subst h3
     refine ⟨by omega,fun hr=> ?_⟩
     rcases hl.2 with h4 | h4
     ·have:lvN l q≠lvN l a:=by simpa using h4
      omega
     ·rw [hr] at h4; cases h4
  ·rw [if_neg hlt]
   have:i=l.length:=by omega
   subst this; exact h
def Cmp (l:List ByteArray):Prop:=∀ i j,i < j→j < l.length→lvN l i=3→lvN l j=3→∃ q,i < q∧q < j∧lvN l q < 3
theorem lvN_at {l:List ByteArray} {i:Nat} {o:ByteArray} (h:l[i]? = some o):lvN l i=lv o:=by
 unfold lvN; rw [List.getD_eq_getElem?_getD,h]; rfl
theorem spl_spec {l:List ByteArray} (h0:l≠[]) (hc:Cmp l) (hop:∀ o ∈ l,o ∈ ops12):∃ o,l[spl l]? = some o∧Cond o (l.take (spl l)) (l.drop (spl l+1))∧l=l.take (spl l)++o::l.drop (spl l+1):=by
 have hlen:0 < l.length:=List.length_pos_iff.mpr h0
 have inv:SInv l (spl l) l.length:=splitF_inv l.length 0 1 (by omega) (by omega) ⟨by omega,fun q h=>by omega,fun q h1 h2=>by omega⟩
 obtain ⟨n,hn⟩:∃ n,n=spl l:=⟨_,rfl⟩
 rw [← hn] at inv ⊢
 have hlt:=inv.lt
 obtain ⟨o,ho⟩:∃ o,l[n]? = some o:=⟨_,List.getElem?_eq_getElem hlt⟩
 have hlo:=lv_of (hop o (List.mem_of_getElem? ho))
 have hno:=lvN_at ho
 refine ⟨o,ho,⟨fun q hq=> ?_,fun q hq=> ?_⟩,?_⟩
 ·obtain ⟨i,hi⟩:=List.mem_iff_getElem?.mp hq
  have hin:i < n:=by have:=(List.getElem?_eq_some_iff.mp hi).1; simp at this; omega
  rw [List.getElem?_take_of_lt hin] at hi
  have h1:=inv.lo i hin
  rw [hno,lvN_at hi] at h1
  refine ⟨h1.1,fun h4=> ?_⟩
  have:lv o=1∨lv o=2∨lv o=3∨lv o=4:=by omega
  rcases this with e | e | e | e
  ·exact h1.2 (by rw [e]; rfl)
  ·exact h1.2 (by rw [e]; rfl)
  ·rcases Nat.lt_or_eq_of_le h1.1 with h5 | h5
   ·exact h5
   ·obtain ⟨z,hz1,hz2,hz3⟩:=hc i n hin hlt (by rw [lvN_at hi]; omega) (by rw [hno]; exact e)
    have:=(inv.lo z hz2).1
    rw [hno] at this; omega
  ·exact h1.2 (by rw [e]; rfl)
 ·obtain ⟨i,hi⟩:=List.mem_iff_getElem?.mp hq
  rw [List.getElem?_drop] at hi
  have hin:=(List.getElem?_eq_some_iff.mp hi).1
  have h1:=inv.hi (n+1+i) (by omega) hin
  rw [hno,lvN_at hi] at h1
  refine ⟨h1.1,fun h4=>h1.2 ?_⟩
  have:lv o=3∨lv o=5∨lv o=6:=by omega
  rcases this with e | e | e <;> rw [e] <;> rfl
 ·have hd:=List.drop_eq_getElem_cons hlt
  obtain ⟨_,he⟩:=List.getElem?_eq_some_iff.mp ho
  rw [he] at hd
  rw [← hd,List.take_append_drop]
theorem Cmp.take {l:List ByteArray} (h:Cmp l) (n:Nat):Cmp (l.take n):=by
 have e:∀ i,i < n→lvN (l.take n) i=lvN l i:=fun i hi=>by unfold lvN; rw [List.getD_eq_getElem?_getD,List.getElem?_take_of_lt hi,← List.getD_eq_getElem?_getD]
 intro i j hij hj hi3 hj3
 rw [List.length_take] at hj
 rw [e i (by omega)] at hi3
 rw [e j (by omega)] at hj3
 obtain ⟨q,h1,h2,h3⟩:=h i j hij (by omega) hi3 hj3
 exact ⟨q,h1,h2,by rw [e q (by omega)]; exact h3⟩
theorem Cmp.drop {l:List ByteArray} (h:Cmp l) (n:Nat):Cmp (l.drop n):=by
 have e:∀ i,lvN (l.drop n) i=lvN l (n+i):=fun i=>by unfold lvN; rw [List.getD_eq_getElem?_getD,List.getElem?_drop,← List.getD_eq_getElem?_getD]
 intro i j hij hj hi3 hj3
 rw [List.length_drop] at hj
 rw [e] at hi3 hj3
 obtain ⟨q,h1,h2,h3⟩:=h (n+i) (n+j) (by omega) (by omega) hi3 hj3
 exact ⟨q - n,by omega,by omega,by rw [e,show n+(q - n)=q by omega]; exact h3⟩
def brkT:Nat→List Nat→List ByteArray→BT
 | 0,xs,_=>.leaf (xs.headD 0:Nat)
 | f+1,xs,ls=>if ls=[] then .leaf (xs.headD 0:Nat) else .op (ls.getD (spl ls) empty) (brkT f (xs.take (spl ls+1)) (ls.take (spl ls))) (brkT f (xs.drop (spl ls+1)) (ls.drop (spl ls+1)))
section
variable {E:List TK} {st:PS} {h:Nat}
theorem row_rw:∀ (f:Nat) (ls:List ByteArray) (ds:List Nat) (i:Nat),ls.length≤f→ds.length=ls.length+1→(∀ q d,ds[q]? = some d→Par E .unary (i+2 * q) (i+2 * q+1) (.leaf (d:Nat)) h)→(∀ q o,ls[q]? = some o→OpAt E (i+2 * q+1) o)→Cmp ls→Rw E h i (i+2 * ls.length+1) ls (brkT f ds ls):=by
 intro f
 have hleaf:∀ (ds:List Nat) (i:Nat),ds.length=1→(∀ q d,ds[q]? = some d→Par E .unary (i+2 * q) (i+2 * q+1) (.leaf (d:Nat)) h)→Rw E h i (i+1) [] (.leaf (ds.headD 0:Nat)):=by
  intro ds i hd hx
  match ds,hd with
  | [d],_=>exact .leaf (hx 0 d rfl)
 induction f with
 | zero=>
  intro ls ds i hl hd hx ho hc
  have:ls=[]:=List.eq_nil_of_length_eq_zero (by omega)
  subst this
  exact hleaf ds i hd hx
 | succ f ih=>
  intro ls ds i hl hd hx ho hc
  unfold brkT
  by_cases h0:ls=[]
  ·subst h0
   rw [if_pos rfl]
   exact hleaf ds i hd hx
  ·rw [if_neg h0]
   have hop:∀ o ∈ ls,o ∈ ops12:=fun o hm=>by
    obtain ⟨q,hq⟩:=List.mem_iff_getElem?.mp hm
    exact (ho q o hq).mem
   obtain ⟨o,hn,hcond,hsplit⟩:=spl_spec h0 hc hop
   obtain ⟨n,hne⟩:∃ n,n=spl ls:=⟨_,rfl⟩
   rw [← hne] at hn hcond hsplit ⊢
   have hnl:=(List.getElem?_eq_some_iff.mp hn).1
   have hgd:ls.getD n empty=o:=by rw [List.getD_eq_getElem?_getD,hn]; rfl
   rw [hgd]
   have r1:=ih (ls.take n) (ds.take (n+1)) i (by rw [List.length_take]; omega) (by rw [List.length_take,List.length_take]; omega) (fun q d hq=>by
    have hlt:q < n+1:=by have:=(List.getElem?_eq_some_iff.mp hq).1; rw [List.length_take] at this; omega
    rw [List.getElem?_take_of_lt hlt] at hq; exact hx q d hq) (fun q o' hq=>by
    have hlt:q < n:=by have:=(List.getElem?_eq_some_iff.mp hq).1; rw [List.length_take] at this; omega
    rw [List.getElem?_take_of_lt hlt] at hq; exact ho q o' hq) (hc.take n)
   have r2:=ih (ls.drop (n+1)) (ds.drop (n+1)) (i+2 * (n+1)) (by rw [List.length_drop]; omega) (by rw [List.length_drop,List.length_drop]; omega) (fun q d hq=>by
    rw [List.getElem?_drop] at hq
    have:=hx (n+1+q) d hq
    rw [show i+2 * (n+1)+2 * q=i+2 * (n+1+q) by omega]; exact this) (fun q o' hq=>by
    rw [List.getElem?_drop] at hq
    have:=ho (n+1+q) o' hq
    rw [show i+2 * (n+1)+2 * q+1=i+2 * (n+1+q)+1 by omega]; exact this) (hc.drop (n+1))
   have e1:i+2 * (ls.take n).length+1=i+2 * n+1:=by rw [List.length_take]; omega
   have e2:i+2 * (n+1)+2 * (ls.drop (n+1)).length+1=i+2 * ls.length+1:=by rw [List.length_drop]; omega
   rw [e1] at r1
   rw [e2] at r2
   have:=Rw.node r1 (ho n o hn) (by rw [show i+2 * n+1+1=i+2 * (n+1) by omega]; exact r2) hcond
   rw [← hsplit] at this
   exact this
theorem isS_of {x:TK} {s:ByteArray} {b:Bool} (ht:tk E st.at_=x) (hb:((x.k==6 || x.k==7)&&seq x.s s)=b):isS E st s=b:=by
 unfold isS; rw [ht]; exact hb
def tokI (d:Int):TK:=⟨3,⟨#[]⟩,d,0,0⟩
def tokO (o:ByteArray):TK:=⟨if (seq o w_orelse || seq o w_andalso || seq o w_div || seq o w_rem)=true then 7 else 6,o,0,0,0⟩
theorem tokO_sign (o:ByteArray):Sign (tokO o):=by
 unfold tokO Sign; split
 ·exact .inr rfl
 ·exact .inl rfl
theorem Par.mono {c:NT} {i j:Nat} {t:BT} {h h':Nat} (q:Par E c i j t h) (hh:h≤h'):Par E c i j t h':=fun st hi hd hn=>q st hi (by omega) hn
theorem par_leaf {p:Nat} {d:Int} (hE:∀ i,(tk E i).p=0) (ht:tk E p=tokI d) (hn:∀ st:PS,st.at_=p+1→isS E st w_lp=false):Par E .unary p (p+1) (.leaf d) h:=by
 intro st hi hd hsz
 have k3:(tk E st.at_).k=3:=by rw [hi,ht]; rfl
 have ha:anyS E st [w_minus,w_not]=⟨#[]⟩:=anyS_no (by rw [k3]; decide) (by rw [k3]; decide) _
 have hlen:st.nodes.length≠16384:=by have:(BT.leaf d).size=1:=rfl; omega
 refine Ev.pass (c:=.unaryL []) (Ev.t (by rw [ha]; exact seq_nil) (Ev.call (v:=.n st.nodes.length) (st1:=⟨p+1,st.deep,st.nodes++[⟨1,empty,d,0,[],0⟩]⟩) ?_ .done))
 refine Ev.f (by rw [k3]; rfl) (Ev.call (v:=.n st.nodes.length) (st1:=⟨p+1,st.deep,st.nodes++[⟨1,empty,d,0,[],0⟩]⟩) ?_ (Ev.pass (Ev.f (hn _ rfl) .done)))
 refine Ev.t (by rw [k3]; rfl) ?_
 have e:(⟨1,empty,(tk E st.at_).n,0,[],(tk E st.at_).p⟩:ND)=⟨1,empty,d,0,[],0⟩:=by rw [hi,ht]; rfl
 rw [e]
 refine Ev.lay (st:=adv st) hlen ?_
 have e2:({ adv st with nodes:=st.nodes++[⟨1,empty,d,0,[],0⟩] }:PS)=⟨p+1,st.deep,st.nodes++[⟨1,empty,d,0,[],0⟩]⟩:=by
  unfold adv; rw [hi]
 show Ev E (.done (.n st.nodes.length) { adv st with nodes:=st.nodes++[⟨1,empty,d,0,[],0⟩] }) _
 rw [e2]
 exact .done
def lpT:TK:=⟨6,w_lp,0,0,0⟩
def rpT:TK:=⟨6,w_rp,0,0,0⟩
theorem w_eqbang {x:TK} (hx:(x.k==6 || x.k==7)=false∨(seq x.s w_eq=false∧seq x.s w_bang=false)) (ht:tk E st.at_=x):anyS E st [w_eq,w_bang]=⟨#[]⟩:=by
 have e1:isS E st w_eq=false:=isS_of ht (hx.elim (fun h=>by rw [h]; rfl) fun h=>by rw [h.1]; simp)
 have e2:isS E st w_bang=false:=isS_of ht (hx.elim (fun h=>by rw [h]; rfl) fun h=>by rw [h.2]; simp)
 unfold anyS; rw [e1]
 unfold anyS; rw [e2]; rfl
theorem par_expr {i j:Nat} {t:BT} (q:Par E (R 1) i j t h) (hc:∀ st:PS,st.at_=i→isS E st w_catch=false) (he:∀ st:PS,st.at_=j→anyS E st [w_eq,w_bang]=⟨#[]⟩):Par E .expr i j t (h+1):=by
 intro st hi hd hn
 have ev:=q { st with deep:=st.deep+1 } hi (by show st.deep+1+h≤199; omega) hn
 unfold rule
 rw [if_neg (show ¬ st.deep=200 by omega)]
 refine Ev.f (hc _ hi) (Ev.call ev (Ev.f (by rw [he _ rfl]; kernel_rfl) (Ev.f (by rw [he _ rfl]; kernel_rfl) ?_)))
 exact .done
theorem par_paren {i j:Nat} {t:BT} (hE:∀ i,(tk E i).p=0) (h1:tk E i=lpT) (q:Par E .expr (i+1) j t h) (h2:tk E j=rpT) (hn:∀ st:PS,st.at_=j+1→isS E st w_lp=false):Par E .unary i (j+1) t h:=by
 intro st hi hd hsz
 have hk:tk E st.at_=lpT:=by rw [hi,h1]
 have hs:Sign (tk E st.at_):=by rw [hk]; exact .inl rfl
 have ev:=q (adv st) (by unfold adv; rw [hi]) hd hsz
 refine Ev.pass (c:=.unaryL []) (Ev.t (by rw [anyS_sign hs,hk]; kernel_rfl) (Ev.call (v:=.n (st.nodes.length+t.size - 1)) (st1:=⟨j+1,st.deep,st.nodes++t.post st.nodes.length⟩) ?_ .done))
 refine Ev.f (by rw [hk]; rfl) (Ev.call (v:=.n (st.nodes.length+t.size - 1)) (st1:=⟨j+1,st.deep,st.nodes++t.post st.nodes.length⟩) ?_ (Ev.pass (Ev.f (hn _ rfl) .done)))
 refine Ev.f (by rw [hk]; rfl) (Ev.f (by rw [hk]; rfl) (Ev.f (by rw [hk]; rfl) (Ev.f (by rw [hk]; rfl) (Ev.f (by rw [hk]; rfl) (Ev.pass ?_)))))
 have ha:anyS E st [w_lp,w_lb,w_lk,w_begin,w_case,w_fun,w_try,w_receive]=w_lp:=by rw [anyS_sign hs,hk]; exact seq_eq (by kernel_rfl)
 refine Ev.f (by rw [ha]; kernel_rfl) (Ev.t (by rw [ha]; kernel_rfl) (Ev.call ev (Ev.must (isS_of (x:=rpT) h2 (by kernel_rfl)) ?_)))
 exact .done
end
end Go.Am.Rl
namespace Go.Am.Rl
open Go.Proofs
def BT.ops:BT→List ByteArray
 | .leaf _=>[]
 | .op o a b=>o::(a.ops++b.ops)
def btoks:BT→List TK
 | .leaf n=>[tokI n]
 | .op o a b=>lpT::(btoks a++tokO o::(btoks b++[rpT]))
def rtoks:List Nat→List ByteArray→List TK
 | d::ds,o::ls=>tokI (d:Nat)::tokO o::rtoks ds ls
 | d::_,[]=>[tokI (d:Nat)]
 | [],_=>[]
def TkAt (E:List TK) (i:Nat) (L:List TK):Prop:=∀ q x,L[q]? = some x→tk E (i+q)=x
section
variable {E:List TK} {i j:Nat} {h:Nat}
theorem TkAt.head {x:TK} {L:List TK} (a:TkAt E i (x::L)):tk E i=x:=a 0 x rfl
theorem TkAt.tail {x:TK} {L:List TK} (a:TkAt E i (x::L)):TkAt E (i+1) L:=fun q y hq=>by
 have:=a (q+1) y hq
 rw [show i+1+q=i+(q+1) by omega]; exact this
theorem TkAt.left {A B:List TK} (a:TkAt E i (A++B)):TkAt E i A:=fun q y hq=>a q y (by
 rw [List.getElem?_append_left (List.getElem?_eq_some_iff.mp hq).1]; exact hq)
theorem TkAt.right {A B:List TK} (a:TkAt E i (A++B)):TkAt E (i+A.length) B:=fun q y hq=>by
 have:=a (A.length+q) y (by rw [List.getElem?_append_right (by omega),show A.length+q - A.length=q by omega]; exact hq)
 rw [show i+A.length+q=i+(A.length+q) by omega]; exact this
theorem stop_of {x:TK} (hx:(∀ m,1≤m→m≤6→anyF x.s (sg m)=⟨#[]⟩)∧Sign x) (ht:tk E j=x):Stop E j 1:=fun m h1 h6 st hj=>by
 have e:tk E st.at_=x:=by rw [hj,ht]
 rw [anyS_sign (by rw [e]; exact hx.2),e]; exact hx.1 m h1 h6
theorem six {P:Nat→Prop} (h1:P 1) (h2:P 2) (h3:P 3) (h4:P 4) (h5:P 5) (h6:P 6):∀ m,1≤m→m≤6→P m:=by
 intro m a b
 have:m=1∨m=2∨m=3∨m=4∨m=5∨m=6:=by omega
 rcases this with rfl | rfl | rfl | rfl | rfl | rfl <;> assumption
theorem anyF_nil {o:ByteArray} {l:List ByteArray} (h:(l.any fun s=>seq o s)=false):anyF o l=⟨#[]⟩:=by
 induction l with
 | nil=>rfl
 | cons a r ih=>
  rw [List.any_cons,Bool.or_eq_false_iff] at h
  unfold anyF; rw [h.1,if_neg (by simp)]; exact ih h.2
def dotT:TK:=⟨6,w_dot,0,0,0⟩
theorem rp_stop:(∀ m,1≤m→m≤6→anyF rpT.s (sg m)=⟨#[]⟩)∧Sign rpT:=
 ⟨six (anyF_nil (by kernel_rfl)) (anyF_nil (by kernel_rfl)) (anyF_nil (by kernel_rfl)) (anyF_nil (by kernel_rfl)) (anyF_nil (by kernel_rfl)) (anyF_nil (by kernel_rfl)),.inl rfl⟩
theorem dot_stop:(∀ m,1≤m→m≤6→anyF dotT.s (sg m)=⟨#[]⟩)∧Sign dotT:=
 ⟨six (anyF_nil (by kernel_rfl)) (anyF_nil (by kernel_rfl)) (anyF_nil (by kernel_rfl)) (anyF_nil (by kernel_rfl)) (anyF_nil (by kernel_rfl)) (anyF_nil (by kernel_rfl)),.inl rfl⟩
theorem op_lp {st:PS} {o:ByteArray} (ho:o ∈ ops12) (ht:tk E st.at_=tokO o):isS E st w_lp=false:=by
 rw [isS_sign (by rw [ht]; exact tokO_sign o),ht]; exact ops_lp ho
theorem btoks_head (t:BT):∃ x L,btoks t=x::L∧(x.k=3∨x=lpT):=by
 cases t with
 | leaf n=>exact ⟨_,_,rfl,.inl rfl⟩
 | op o a b=>exact ⟨_,_,rfl,.inr rfl⟩
theorem no_catch {x:TK} (hx:x.k=3∨x=lpT) {st:PS} (ht:tk E st.at_=x):isS E st w_catch=false:=by
 refine isS_of ht ?_
 rcases hx with h | h
 ·rw [h]; rfl
 ·rw [h]; kernel_rfl
theorem par_brk (hE:∀ i,(tk E i).p=0):∀ (t:BT) (i:Nat),TkAt E i (btoks t)→(∀ o ∈ t.ops,o ∈ ops12)→(∀ st:PS,st.at_=i+(btoks t).length→isS E st w_lp=false)→Par E .unary i (i+(btoks t).length) t t.deep
 | .leaf n,i,ht,_,hn=>par_leaf hE ht.head hn
 | .op o a b,i,ht,ho,hn=>by
  have ha:TkAt E (i+1) (btoks a):=ht.tail.left
  have hr:=ht.tail.right
  have hop:=hr.head
  have hb:TkAt E (i+1+(btoks a).length+1) (btoks b):=hr.tail.left
  have hrp:=hr.tail.right.head
  have hoo:o ∈ ops12:=ho o (List.mem_cons_self ..)
  have pa:=par_brk hE a (i+1) ha (fun q hq=>ho q (List.mem_cons_of_mem _ (List.mem_append_left _ hq))) (fun st hst=>op_lp hoo (by rw [hst]; exact hop))
  have pb:=par_brk hE b _ hb (fun q hq=>ho q (List.mem_cons_of_mem _ (List.mem_append_right _ hq))) (fun st hst=>isS_of (x:=rpT) (by rw [hst]; exact hrp) (by kernel_rfl))
  have q:OpAt E (i+1+(btoks a).length) o:=⟨hoo,by rw [hop]; exact tokO_sign o,by rw [hop]; rfl⟩
  have rw1:=Rw.node (Rw.leaf (pa.mono (Nat.le_max_left a.deep b.deep))) q (Rw.leaf (pb.mono (Nat.le_max_right a.deep b.deep))) ⟨fun q hq=>by (cases hq),fun q hq=>by (cases hq)⟩
  have p1:=(rw1.par hE).1 1 (Nat.le_refl _) (by omega) (fun q hq=>by
   have:q=o:=by simpa using hq
   subst this; exact (lv_of hoo).1) (stop_of rp_stop hrp)
  obtain ⟨x,L,hx,hk⟩:=btoks_head a
  have pe:=par_expr p1 (fun st hst=>no_catch hk (by rw [hst]; rw [hx] at ha; exact ha.head)) (fun st hst=>w_eqbang (x:=rpT) (.inr ⟨by kernel_rfl,by kernel_rfl⟩) (by rw [hst]; exact hrp))
  have el:i+(btoks (.op o a b)).length=i+1+(btoks a).length+1+(btoks b).length+1:=by
   show i+(lpT::(btoks a++tokO o::(btoks b++[rpT]))).length=_
   simp only [List.length_cons,List.length_append,List.length_nil]; omega
  rw [el] at hn ⊢
  have:=par_paren hE ht.head pe hrp hn
  rw [show (BT.op o a b).deep=max a.deep b.deep+1 from Nat.add_comm _ _]
  exact this
abbrev w_m:ByteArray:=⟨#[109]⟩
abbrev w_f:ByteArray:=⟨#[102]⟩
def ptoks:List TK:=[⟨6,w_minus,0,0,0⟩,⟨1,w_module,0,0,0⟩,lpT,⟨1,w_m,0,0,0⟩,rpT,dotT,⟨1,w_f,0,0,0⟩,lpT,rpT,⟨6,w_arrow,0,0,0⟩]
def modN (t:BT):List ND:=[node 22 [] 0]++t.post 1++[node 19 [t.size] 0,⟨21,w_f,0,0,[0,t.size+1],0⟩,node 20 [t.size+2] 0,⟨23,w_f,0,0,[t.size+3],0⟩,⟨24,w_m,0,0,[t.size+4],0⟩]
theorem module_ev {t:BT} (hE:∀ i,(tk E i).p=0) (hp:TkAt E 0 ptoks) (q:Par E .expr 10 j t h) (hj:tk E j=dotT) (hj1:(tk E (j+1)).k=8) (hh:h≤199) (hs:t.size≤16000):Ev E (rule E .module ⟨0,0,[]⟩) (.ok (.n (t.size+5)) ⟨j+1,0,modN t⟩):=by
 have t0:tk E 0=_:=hp 0 _ rfl
 have t1:tk E 1=_:=hp 1 _ rfl
 have t2:tk E 2=_:=hp 2 _ rfl
 have t3:tk E 3=_:=hp 3 _ rfl
 have t4:tk E 4=_:=hp 4 _ rfl
 have t5:tk E 5=_:=hp 5 _ rfl
 have t6:tk E 6=_:=hp 6 _ rfl
 have t7:tk E 7=_:=hp 7 _ rfl
 have t8:tk E 8=_:=hp 8 _ rfl
 have t9:tk E 9=_:=hp 9 _ rfl
 have hpos:∀ st:PS,pos E st=0:=fun st=>hE _
 have pl:=t.post_len 1
 have e0:=q ⟨10,0,[node 22 [] 0]⟩ rfl (by show 0+h≤199; omega) (by show 1+t.size≤16384; omega)
 have ea:([node 22 [] 0]:List ND).length+t.size - 1=t.size:=by show 1+t.size - 1=_; omega
 rw [ea] at e0
 obtain ⟨N2,hN2⟩:∃ N2,N2=[node 22 [] 0]++t.post 1:=⟨_,rfl⟩
 have l2:N2.length=t.size+1:=by rw [hN2,List.length_append,pl]; show 1+t.size=_; omega
 have e0:Ev E (rule E .expr ⟨10,0,[node 22 [] 0]⟩) (.ok (.n t.size) ⟨j,0,N2⟩):=by rw [hN2]; exact e0
 have dot:∀ (st:PS) (s:ByteArray),st.at_=j→seq w_dot s=false→isS E st s=false:=fun st s h1 h2=>isS_of (x:=dotT) (by rw [h1]; exact hj) (by show (true&&_)=false; rw [show dotT.s=w_dot from rfl,h2]; rfl)
 have eb:Ev E (rule E .body ⟨10,0,[node 22 [] 0]⟩) (.ok (.n (t.size+1)) ⟨j,0,N2++[node 19 [t.size] 0]⟩):=by
  refine Ev.call (v:=.l [t.size]) (st1:=⟨j,0,N2⟩) (Ev.pass (c:=.some 0) (Ev.call e0 (Ev.pass (Ev.f (dot _ _ rfl (by kernel_rfl)) .done)))) (Ev.lay (show N2.length≠16384 by omega) ?_)
  rw [hpos]
  show Ev E (.done (.n N2.length) ⟨j,0,N2++[node 19 [t.size] 0]⟩) _
  rw [l2]; exact .done
 obtain ⟨N3,hN3⟩:∃ N3,N3=N2++[node 19 [t.size] 0]:=⟨_,rfl⟩
 have l3:N3.length=t.size+2:=by rw [hN3,List.length_append,l2]; rfl
 rw [← hN3] at eb
 have ec:Ev E (rule E .named ⟨6,0,[]⟩) (.ok (.n (t.size+2)) ⟨j,0,N3++[⟨21,w_f,0,0,[0,t.size+1],0⟩]⟩):=by
  simp only [rule]
  refine Ev.kind ?_ ?_
  ·show ((tk E 6).k==1)=true; rw [t6]; rfl
  refine Ev.must (isS_of t7 (by kernel_rfl)) ?_
  refine Ev.call (v:=.l []) (st1:=⟨9,0,[]⟩) (Ev.t (isS_of t8 (by kernel_rfl)) .done) (Ev.pass ?_)
  refine Ev.f (isS_of t9 (by kernel_rfl)) (Ev.lay (by decide) ?_)
  rw [hpos]
  refine Ev.must (isS_of t9 (by kernel_rfl)) (Ev.call eb (Ev.lay (show N3.length≠16384 by omega) ?_))
  have e6:(tk E (PS.mk 6 0 []).at_)=_:=t6
  rw [e6]
  show Ev E (.done (.n N3.length) ⟨j,0,N3++[⟨21,w_f,0,0,[0,t.size+1],0⟩]⟩) _
  rw [l3]; exact .done
 obtain ⟨N4,hN4⟩:∃ N4,N4=N3++[⟨21,w_f,0,0,[0,t.size+1],0⟩]:=⟨_,rfl⟩
 have l4:N4.length=t.size+3:=by rw [hN4,List.length_append,l3]; rfl
 rw [← hN4] at ec
 have g4:N4.getD (t.size+2) (node 0 [] 0)=⟨21,w_f,0,0,[0,t.size+1],0⟩:=by
  rw [hN4,List.getD_eq_getElem?_getD,List.getElem?_append_right (by omega),l3,Nat.sub_self]; rfl
 have ef:Ev E (rule E .function ⟨6,0,[]⟩) (.ok (.n (t.size+4)) ⟨j+1,0,N4++[node 20 [t.size+2] 0]++[⟨23,w_f,0,0,[t.size+3],0⟩]⟩):=by
  refine Ev.call ec (Ev.pass ?_)
  rw [hpos]
  refine Ev.f (dot _ _ rfl (by kernel_rfl)) (Ev.lay (show N4.length≠16384 by omega) ?_)
  refine Ev.must (isS_of (x:=dotT) hj (by kernel_rfl)) (Ev.lay ?_ ?_)
  ·show (N4++[node 20 [t.size+2] 0]).length≠16384
   rw [List.length_append,l4]; simp; omega
  ·show Ev E (.done (.n (N4++[node 20 [t.size+2] 0]).length) ⟨j+1,0,N4++[node 20 [t.size+2] 0]++[⟨23,(N4.getD (t.size+2) (node 0 [] 0)).s,(N4.getD (t.size+2) (node 0 [] 0)).n,0,[N4.length],0⟩]⟩) _
   rw [g4,l4,List.length_append,l4]; exact .done
 have hres:N4++[node 20 [t.size+2] 0]++[⟨23,w_f,0,0,[t.size+3],0⟩]++[⟨24,w_m,0,0,[t.size+4],0⟩]=modN t:=by
  rw [hN4,hN3,hN2]; unfold modN; simp only [List.append_assoc]; rfl
 obtain ⟨N6,hN6⟩:∃ N6,N6=N4++[node 20 [t.size+2] 0]++[⟨23,w_f,0,0,[t.size+3],0⟩]:=⟨_,rfl⟩
 have l6:N6.length=t.size+5:=by rw [hN6,List.length_append,List.length_append,l4]; rfl
 rw [← hN6] at ef hres
 simp only [rule]
 refine Ev.must (isS_of t0 (by kernel_rfl)) ?_
 refine Ev.kind ?_ ?_
 ·show ((tk E 1).k==1)=true; rw [t1]; rfl
 refine Ev.t (by show seq (tk E 1).s w_module=true; rw [t1]; kernel_rfl) ?_
 refine Ev.must (isS_of t2 (by kernel_rfl)) ?_
 refine Ev.kind ?_ ?_
 ·show ((tk E 3).k==1)=true; rw [t3]; rfl
 refine Ev.must (isS_of t4 (by kernel_rfl)) ?_
 refine Ev.must (isS_of t5 (by kernel_rfl)) ?_
 refine Ev.pass ?_
 rw [hpos]
 refine Ev.t (by show ((tk E 6).k != 8)=true; rw [t6]; rfl) (Ev.call ef (Ev.pass (Ev.f (by show ((tk E (j+1)).k != 8)=false; rw [hj1]; rfl) (Ev.lay (show N6.length≠16384 by omega) ?_))))
 have e3:(tk E (adv (adv (adv (PS.mk 0 0 [])))).at_)=_:=t3
 rw [e3]
 show Ev E (.done (.n N6.length) ⟨j+1,0,N6++[⟨24,w_m,0,0,[t.size+4],0⟩]⟩) _
 rw [hres,l6]; exact .done
end
end Go.Am.Rl
namespace Go.Am.Rl
open Go.Proofs
abbrev w_sp:ByteArray:=⟨#[32]⟩
def AtB (t:ByteArray) (o:Nat) (u:ByteArray):Prop:=∀ q,q < u.size→t[o+q]? = u[q]?
theorem app_left {a b:ByteArray} {k:Nat} (h:k < a.size):(a++b)[k]? = a[k]? :=by
 have hs:(a++b).size=a.size+b.size:=ByteArray.size_append
 rw [getElem?_pos (a++b) k (by omega),getElem?_pos a k h,ByteArray.getElem_append_left h]
theorem app_right {a b:ByteArray} {k:Nat}:(a++b)[a.size+k]? = b[k]? :=by
 have hs:(a++b).size=a.size+b.size:=ByteArray.size_append
 by_cases h:k < b.size
 ·rw [getElem?_pos (a++b) (a.size+k) (by omega),getElem?_pos b k h,ByteArray.getElem_append_right (by omega)]
  congr 2; omega
 ·rw [byte_none (by omega),byte_none h]
section
variable {t u v:ByteArray} {i j o e:Nat}
theorem AtB.left (h:AtB t o (u++v)):AtB t o u:=fun q hq=>by
 rw [h q (by rw [ByteArray.size_append]; omega),app_left hq]
theorem AtB.right (h:AtB t o (u++v)):AtB t (o+u.size) v:=fun q hq=>by
 have:=h (u.size+q) (by rw [ByteArray.size_append]; omega)
 rw [app_right] at this
 rw [Nat.add_assoc]; exact this
def Nb (t:ByteArray) (j:Nat):Prop:=∃ c,t[j]? = some c∧sep c.toNat=false
theorem Nb.pass (h:Nb t j):pass t j=j:=by
 obtain ⟨c,hc,hs⟩:=h
 unfold sep at hs
 rw [Bool.or_eq_false_iff] at hs
 exact pass_stop hc hs.1 hs.2
def LX (t:ByteArray) (i:Nat) (L:List TK) (j:Nat):Prop:=∀ acc,∃ l',l'.map (fun c=>(tkOf c).er)=L∧toks t i acc=toks t j (acc++l')
theorem LX.trans {L M:List TK} {k:Nat} (a:LX t i L j) (b:LX t j M k):LX t i (L++M) k:=fun acc=>by
 obtain ⟨l1,h1,e1⟩:=a acc
 obtain ⟨l2,h2,e2⟩:=b (acc++l1)
 exact ⟨l1++l2,by rw [List.map_append,h1,h2],by rw [e1,e2,List.append_assoc]⟩
theorem LX.one {c:UInt8} {k:Int} {w:ByteArray} {n:Int} {f:Nat} (hc:t[i]? = some c) (ht:token t i c.toNat (i:Nat) = .inr (tokC k w n f (i:Nat),e)) (hj:pass t e=j):LX t i [⟨k,w,n,f,0⟩] j:=fun acc=>
 ⟨[tokC k w n f (i:Nat)],rfl,by rw [toks_more hc ht]; dsimp only; rw [hj]⟩
theorem sign_filter {c:UInt8} (hc:t[i]? = some c):∀ l:List ByteArray,(∀ g ∈ l,plain g)→signIn t i l=signIn t i (l.filter fun g=>g[0]? ==some c)
 | [],_=>rfl
 | g::r,hp=>by
  have ih:=sign_filter hc r (fun g hg=>hp g (List.mem_cons_of_mem _ hg))
  cases h:(g[0]? ==some c) with
  | true=>rw [List.filter_cons_of_pos (by simpa using h)]; simp only [signIn,ih]
  | false=>
   rw [List.filter_cons_of_neg (by simp [h])]
   have:stands t i g=false:=by
    cases hs:stands t i g with
    | false=>rfl
    | true=>
     have:=stands_at hs 0 (hp g (List.mem_cons_self ..)).1
     rw [Nat.add_zero,hc] at this
     rw [← this] at h; simp at h
   simp only [signIn,this,Bool.false_eq_true,if_false]; exact ih
theorem tok_sign {c:Nat} {pl:Int} (h:(isName c || isDig c || ((c:Int)==35) || ((c:Int)==39) || ((c:Int)==34))=false):token t i c pl=signTok t i pl:=by
 simp only [Bool.or_eq_false_iff] at h
 obtain ⟨⟨⟨⟨h1,h2⟩,h3⟩,h4⟩,h5⟩:=h
 unfold token
 rw [h1,h2,h3,h4,h5]; rfl
theorem lx_sign {c:UInt8} {w:ByteArray} (hc:t[i]? = some c) (hk:(isName c.toNat || isDig c.toNat || ((c.toNat:Int)==35) || ((c.toNat:Int)==39) || ((c.toNat:Int)==34))=false) (hw:0 < w.size) (hs:signIn t i (signs.filter fun g=>g[0]? ==some c)=w) (hj:pass t (i+w.size)=j):LX t i [⟨6,w,0,0,0⟩] j:=by
 refine LX.one hc ?_ hj
 rw [tok_sign hk]
 have:signAt t i=w:=by unfold signAt; rw [sign_filter hc signs signs_plain,hs]
 unfold signTok
 have hz:decide (w.size=0)=false:=decide_eq_false (by omega)
 rw [this,hz,if_neg (by simp)]
theorem sign_single {c:UInt8} (w:ByteArray) (hw:w=⟨#[c]⟩) (hc:t[i]? = some c):signIn t i [w]=w:=by
 have:stands t i w=true:=stands_of (by rw [hw]; exact Nat.one_pos) (fun k hk=>by
  have:k=0:=by rw [hw] at hk; exact Nat.lt_one_iff.mp hk
  subst this; rw [hw,Nat.add_zero,hc]; rfl)
 simp only [signIn,this,if_true]
theorem lx_lp (hc:t[i]? = some 40) (hj:Nb t (i+1)):LX t i [lpT] (i+1):=
 lx_sign (w:=w_lp) hc (by decide) (by decide) (by rw [show (signs.filter fun g=>g[0]? ==some 40)=[w_lp] by kernel_rfl]; exact sign_single _ rfl hc) hj.pass
theorem lx_rp (hc:t[i]? = some 41):LX t i [rpT] (pass t (i+1)):=
 lx_sign (w:=w_rp) hc (by decide) (by decide) (by rw [show (signs.filter fun g=>g[0]? ==some 41)=[w_rp] by kernel_rfl]; exact sign_single _ rfl hc) rfl
theorem lx_dot (hc:t[i]? = some 46):LX t i [dotT] (pass t (i+1)):=
 lx_sign (w:=w_dot) hc (by decide) (by decide) (by rw [show (signs.filter fun g=>g[0]? ==some 46)=[w_dot] by kernel_rfl]; exact sign_single _ rfl hc) rfl
theorem minus_filter:(signs.filter fun g=>g[0]? ==some 45)=[w_arrow,w_minus]:=by kernel_rfl
theorem lx_minus {c:UInt8} (hc:t[i]? = some 45) (hn:t[i+1]? = some c) (h:c≠62) (hj:Nb t (i+1)):LX t i [⟨6,w_minus,0,0,0⟩] (i+1):=by
 refine lx_sign (w:=w_minus) hc (by decide) (by decide) ?_ hj.pass
 rw [minus_filter]
 have:stands t i w_arrow=false:=by
  cases hs:stands t i w_arrow with
  | false=>rfl
  | true=>
   have:=stands_at hs 1 (by decide)
   rw [hn] at this
   exact absurd (Option.some.inj this) h
 rw [signIn,this,if_neg (by simp)]
 exact sign_single _ rfl hc
theorem lx_arrow (h:AtB t i w_arrow) (hj:pass t (i+2)=j):LX t i [⟨6,w_arrow,0,0,0⟩] j:=by
 have hc:t[i]? = some (45:UInt8):=h 0 (by decide)
 refine lx_sign (w:=w_arrow) hc (by decide) (by decide) ?_ hj
 rw [minus_filter]
 have:stands t i w_arrow=true:=stands_of (by decide) h
 rw [signIn,this,if_pos rfl]
theorem lx_name {c:UInt8} {w:ByteArray} (h:AtB t i w) (hw:w[0]? = some c) (hl:isLow c.toNat=true) (hall:(w.data.toList.all fun b:UInt8=>isNam b.toNat)=true) (hk:kept w=false) (hsz:w.size≤64) {b:UInt8} (hb:t[i+w.size]? = some b) (hbn:isNam b.toNat=false) (hj:pass t (i+w.size)=j):LX t i [⟨1,w,0,0,0⟩] j:=by
 have hw0:=size_of_some hw
 have hbs:=size_of_some hb
 have hc:t[i]? = some c:=by have:=h 0 hw0; rw [Nat.add_zero] at this; rw [this,hw]
 have hsk:skip isNam t i=i+w.size:=by
  refine skip_run (by omega) (by omega) (fun q h1 h2=> ?_) (fun b' hb'=>by rw [hb] at hb'; injection hb' with hb'; subst hb'; exact hbn)
  obtain ⟨x,hx⟩:=byte_at (s:=w) (n:=q - i) (by omega)
  have:=h (q - i) (by omega)
  rw [show i+(q - i)=q by omega,hx] at this
  refine ⟨x,this,?_⟩
  have hm:x ∈ w.data.toList:=by
   rw [getElem?_pos w (q - i) (by omega)] at hx
   injection hx with hx
   rw [← hx]
   exact Array.mem_toList_iff.mpr (Array.getElem_mem _)
  exact List.all_eq_true.1 hall x hm
 have hex:t.extract i (i+w.size)=w:=by
  apply ByteArray.ext_getElem
  ·rw [size_ext (by omega)]; omega
  ·intro q h1 h2
   have e1:=ext_at (s:=t) (a:=i) (b:=i+w.size) (k:=q) (by omega) (by omega)
   rw [h q h2,getElem?_pos _ q h1,getElem?_pos _ q h2] at e1
   exact Option.some.inj e1
 refine LX.one hc ?_ hj
 unfold token
 rw [if_pos (by unfold isName; rw [hl]; rfl)]
 unfold nameTok
 rw [if_pos hl,hsk,hex]
 unfold lowTok
 have hz:decide (((w.size:Nat):Int) > 64)=false:=decide_eq_false (by omega)
 rw [hk,if_neg (by simp),hz,if_neg (by simp)]
theorem op_tok {o:ByteArray} (h:o ∈ ops12):∃ c,o[0]? = some c∧(o++w_sp)[0]? = some c∧sep c.toNat=false∧∀ pl,token (o++w_sp) 0 c.toNat pl = .inr (tokC (tokO o).k o 0 0 pl,o.size):=by
 unfold ops12 at h
 simp only [List.mem_cons,List.not_mem_nil,or_false] at h
 rcases h with rfl | rfl | rfl | rfl | rfl | rfl | rfl | rfl | rfl | rfl | rfl | rfl
 all_goals exact ⟨_,rfl,rfl,by decide,fun pl=>by kernel_rfl⟩
theorem op_pos {o:ByteArray} (h:o ∈ ops12):0 < o.size∧o.size≤7:=by
 unfold ops12 at h
 simp only [List.mem_cons,List.not_mem_nil,or_false] at h
 rcases h with rfl | rfl | rfl | rfl | rfl | rfl | rfl | rfl | rfl | rfl | rfl | rfl
 all_goals decide
theorem AtB.nb (h:AtB t i u) {c:UInt8} (hu:u[0]? = some c) (hs:sep c.toNat=false):Nb t i:=by
 refine ⟨c,?_,hs⟩
 have:=h 0 (size_of_some hu)
 rw [Nat.add_zero] at this; rw [this,hu]
theorem lx_op {o:ByteArray} (ho:o ∈ ops12) (h:AtB t i (o++w_sp)) (hj:Nb t (i+o.size+1)):LX t i [tokO o] (i+o.size+1):=by
 obtain ⟨c,_,hc,hs,htk⟩:=op_tok ho
 have hsz:(o++w_sp).size=o.size+1:=by rw [ByteArray.size_append]; rfl
 have h0:t[i]? = some c:=by have:=h 0 (by omega); rw [Nat.add_zero] at this; rw [this,hc]
 have hsp:t[i+o.size]? = some (32:UInt8):=by
  have:=h.right 0 (by decide)
  rw [Nat.add_zero] at this; rw [this]; rfl
 have hag:Agree (o++w_sp) t 0 i o.size:=fun q hq=>by rw [h q (by omega),Nat.zero_add]
 have htok:=token_agree (s:=o++w_sp) (t:=t) (o:=i) hc hag (b:=32) (by rw [Nat.sub_zero]; exact hsp) (by decide) (htk (i:Nat))
 rw [Nat.sub_zero] at htok
 have he:tokO o=⟨(tokO o).k,o,0,0,0⟩:=rfl
 rw [he]
 refine LX.one h0 htok ?_
 rw [pass_blank hsp (by decide) (by decide)]
 exact hj.pass
def dstr (d:Nat):ByteArray:=⟨#[UInt8.ofNat (48+d)]⟩
theorem dig_all:((List.range 10).all fun d=>(whole (dstr d)==(d:Int))&&isDig (UInt8.ofNat (48+d)).toNat&& !isName (UInt8.ofNat (48+d)).toNat&& !sep (UInt8.ofNat (48+d)).toNat)=true:=by kernel_rfl
theorem dig_of {d:Nat} (h:d < 10):whole (dstr d)=(d:Int)∧isDig (UInt8.ofNat (48+d)).toNat=true∧isName (UInt8.ofNat (48+d)).toNat=false∧sep (UInt8.ofNat (48+d)).toNat=false:=by
 have:=List.all_eq_true.1 dig_all d (List.mem_range.mpr h)
 simp only [Bool.and_eq_true,Bool.not_eq_true'] at this
 obtain ⟨⟨⟨h1,h2⟩,h3⟩,h4⟩:=this
 exact ⟨eq_of_beq h1,h2,h3,h4⟩
def Nx (t:ByteArray) (j:Nat):Prop:=∃ c:UInt8,t[j]? = some c∧(c=32∨c=41∨(c=46∧t[j+1]? = none))
theorem lx_dig {d:Nat} (hd:d < 10) (h:AtB t i (dstr d)) (hn:Nx t (i+1)):LX t i [tokI (d:Nat)] (pass t (i+1)):=by
 obtain ⟨h1,h2,h3,h4⟩:=dig_of hd
 obtain ⟨b,hb,hbc⟩:=hn
 have hbs:=size_of_some hb
 have hc:t[i]? = some (UInt8.ofNat (48+d)):=by have:=h 0 Nat.one_pos; rw [Nat.add_zero] at this; rw [this]; rfl
 have hbd:isDig b.toNat=false:=by rcases hbc with rfl | rfl | ⟨rfl,_⟩ <;> rfl
 have hsk:skip isDig t i=i+1:=by rw [skip_at hc h2,skip_stop hb hbd]
 have hex:t.extract i (i+1)=dstr d:=by
  apply ByteArray.ext_getElem
  ·rw [size_ext (by omega)]; show i+1 - i=1; omega
  ·intro q g1 g2
   have e1:=ext_at (s:=t) (a:=i) (b:=i+1) (k:=q) (by omega) (by have:(dstr d).size=1:=rfl; omega)
   rw [h q g2,getElem?_pos _ q g1,getElem?_pos _ q g2] at e1
   exact Option.some.inj e1
 have hdot:dotted t (i+1)=false:=by
  unfold dotted
  rw [hb]
  rcases hbc with rfl | rfl | ⟨rfl,hn⟩
  ·cases t[i+1+1]? <;> rfl
  ·cases t[i+1+1]? <;> rfl
  ·rw [hn]
 refine LX.one (f:=0) hc ?_ rfl
 unfold token
 rw [h3,if_neg (by simp),if_pos h2]
 unfold numTok
 rw [hsk,hex]
 unfold numAt
 rw [show (decide (((dstr d).size:Int) > 1)&&lead0 (dstr d) 0)=false from rfl,if_neg (by simp),hdot,if_neg (by simp)]
 unfold numI
 have hsm:decide (whole (dstr d) > 576460752303423487)=false:=decide_eq_false (by rw [h1]; omega)
 rw [show decide (((dstr d).size:Int) > 18)=false from rfl,hsm,if_neg (by simp),h1]
def bstr:BT→ByteArray
 | .leaf n=>dstr n.toNat
 | .op o a b=>w_lp++(bstr a++(w_sp++(o++(w_sp++(bstr b++w_rp)))))
def BT.ok:BT→Prop
 | .leaf n=>∃ d:Nat,n=(d:Nat)∧d < 10
 | .op o a b=>o ∈ ops12∧a.ok∧b.ok
theorem bstr_nb {x:BT} (hx:x.ok) (h:AtB t i (bstr x)):Nb t i:=by
 cases x with
 | leaf n=>
  obtain ⟨d,rfl,hd⟩:=hx
  exact h.nb (c:=UInt8.ofNat (48+d)) rfl (dig_of hd).2.2.2
 | op o a b=>exact h.left.nb (c:=40) rfl (by decide)
theorem lx_brk:∀ (x:BT) (i:Nat),x.ok→AtB t i (bstr x)→Nx t (i+(bstr x).size)→LX t i (btoks x) (pass t (i+(bstr x).size))
 | .leaf n,i,hx,h,hn=>by
  obtain ⟨d,rfl,hd⟩:=hx
  exact lx_dig hd h hn
 | .op o a b,i,hx,h,hn=>by
  obtain ⟨ho,hxa,hxb⟩:=hx
  have n1:w_sp.size=1:=rfl
  have n2:w_lp.size=1:=rfl
  have n3:w_rp.size=1:=rfl
  have a0:=h.left
  have r1:=h.right
  rw [n2] at r1
  have aa:=r1.left
  have r2:=r1.right
  have asp:=r2.left
  have r3:=r2.right
  rw [n1] at r3
  have ao:=r3.left
  have r4:=r3.right
  have asp2:=r4.left
  have r5:=r4.right
  rw [n1] at r5
  have ab:=r5.left
  have arp:=r5.right
  have hsz:(bstr (.op o a b)).size=1+((bstr a).size+(1+(o.size+(1+((bstr b).size+1))))):=by
   show (w_lp++(bstr a++(w_sp++(o++(w_sp++(bstr b++w_rp)))))).size=_
   simp only [ByteArray.size_append]; rfl
  have hsp:t[i+1+(bstr a).size]? = some (32:UInt8):=by have:=asp 0 (by decide); rw [Nat.add_zero] at this; rw [this]; rfl
  have hrp:t[i+1+(bstr a).size+1+o.size+1+(bstr b).size]? = some (41:UInt8):=by have:=arp 0 (by decide); rw [Nat.add_zero] at this; rw [this]; rfl
  obtain ⟨c,hc0,_,hcs,_⟩:=op_tok ho
  have nbo:Nb t (i+1+(bstr a).size+1):=ao.nb hc0 hcs
  have L1:LX t i [lpT] (i+1):=lx_lp (by have:=a0 0 (by decide); rw [Nat.add_zero] at this; rw [this]; rfl) (bstr_nb hxa aa)
  have L2:=lx_brk a (i+1) hxa aa ⟨32,hsp,.inl rfl⟩
  rw [pass_blank hsp (by decide) (by decide),nbo.pass] at L2
  have L3:=lx_op ho (i:=i+1+(bstr a).size+1) (fun q hq=>by
   rw [ByteArray.size_append,n1] at hq
   rcases Nat.lt_or_ge q o.size with h1 | h1
   ·rw [ao q h1,app_left h1]
   ·have:q=o.size:=by omega
    subst this
    have:=asp2 0 (by decide)
    have e:=app_right (a:=o) (b:=w_sp) (k:=0)
    rw [Nat.add_zero] at e this
    rw [this,e]) (bstr_nb hxb ab)
  have L4:=lx_brk b _ hxb ab ⟨41,hrp,.inr (.inl rfl)⟩
  rw [(show Nb t _ from ⟨41,hrp,by decide⟩).pass] at L4
  have L5:=lx_rp hrp
  have:=L1.trans (L2.trans (L3.trans (L4.trans L5)))
  rw [show i+(bstr (.op o a b)).size=i+1+(bstr a).size+1+o.size+1+(bstr b).size+1 by rw [hsz]; omega]
  exact this
def rstr:List Nat→List ByteArray→ByteArray
 | d::ds,o::ls=>dstr d++(w_sp++(o++(w_sp++rstr ds ls)))
 | d::_,[]=>dstr d
 | [],_=>⟨#[]⟩
theorem rstr_nb {d:Nat} {ds:List Nat} {ls:List ByteArray} (hd:d < 10) (h:AtB t i (rstr (d::ds) ls)):Nb t i:=by
 cases ls with
 | nil=>exact h.nb (c:=UInt8.ofNat (48+d)) rfl (dig_of hd).2.2.2
 | cons o ls=>exact h.left.nb (c:=UInt8.ofNat (48+d)) rfl (dig_of hd).2.2.2
theorem lx_row:∀ (ls:List ByteArray) (ds:List Nat) (i:Nat),ds.length=ls.length+1→(∀ d ∈ ds,d < 10)→(∀ o ∈ ls,o ∈ ops12)→AtB t i (rstr ds ls)→Nx t (i+(rstr ds ls).size)→LX t i (rtoks ds ls) (pass t (i+(rstr ds ls).size))
 | [],[d],i,_,hd,_,h,hn=>lx_dig (hd d (List.mem_cons_self ..)) h hn
 | o::ls,d::d2::ds,i,hlen,hd,ho,h,hn=>by
  have n1:w_sp.size=1:=rfl
  have nd:(dstr d).size=1:=rfl
  have hoo:=ho o (List.mem_cons_self ..)
  have hd1:=hd d (List.mem_cons_self ..)
  have hd2:=hd d2 (List.mem_cons_of_mem _ (List.mem_cons_self ..))
  have a0:AtB t i (dstr d):=h.left
  have r1:AtB t (i+(dstr d).size) (w_sp++(o++(w_sp++rstr (d2::ds) ls))):=h.right
  rw [nd] at r1
  have asp:=r1.left
  have r2:=r1.right
  rw [n1] at r2
  have ao:=r2.left
  have r3:=r2.right
  have asp2:=r3.left
  have r4:=r3.right
  rw [n1] at r4
  have hsz:(rstr (d::d2::ds) (o::ls)).size=1+(1+(o.size+(1+(rstr (d2::ds) ls).size))):=by
   show (dstr d++(w_sp++(o++(w_sp++rstr (d2::ds) ls)))).size=_
   simp only [ByteArray.size_append]; rfl
  have hsp:t[i+1]? = some (32:UInt8):=by have:=asp 0 (by decide); rw [Nat.add_zero] at this; rw [this]; rfl
  obtain ⟨c,hc0,_,hcs,_⟩:=op_tok hoo
  have nbo:Nb t (i+1+1):=ao.nb hc0 hcs
  have L2:=lx_dig hd1 a0 ⟨32,hsp,.inl rfl⟩
  rw [pass_blank hsp (by decide) (by decide),nbo.pass] at L2
  have L3:=lx_op hoo (i:=i+1+1) (fun q hq=>by
   rw [ByteArray.size_append,n1] at hq
   rcases Nat.lt_or_ge q o.size with h1 | h1
   ·rw [ao q h1,app_left h1]
   ·have:q=o.size:=by omega
    subst this
    have:=asp2 0 (by decide)
    have e:=app_right (a:=o) (b:=w_sp) (k:=0)
    rw [Nat.add_zero] at e this
    rw [this,e]) (rstr_nb hd2 r4)
  have e1:i+(rstr (d::d2::ds) (o::ls)).size=i+1+1+o.size+1+(rstr (d2::ds) ls).size:=by rw [hsz]; omega
  rw [e1] at hn ⊢
  have L4:=lx_row ls (d2::ds) _ (by simpa using hlen) (fun x hx=>hd x (List.mem_cons_of_mem _ hx)) (fun x hx=>ho x (List.mem_cons_of_mem _ hx)) r4 hn
  exact L2.trans (L3.trans L4)
 | [],[],_,hlen,_,_,_,_=>by simp at hlen
 | [],_::_::_,_,hlen,_,_,_,_=>by simp at hlen
 | _::_,[],_,hlen,_,_,_,_=>by simp at hlen
 | _::_,[_],_,hlen,_,_,_,_=>by simp at hlen
abbrev preT:ByteArray:=⟨#[45,109,111,100,117,108,101,40,109,41,46,32,102,40,41,32,45,62,32]⟩
theorem lx_pre (h:AtB t 0 preT) (hn:Nb t 19):LX t 0 ptoks 19:=by
 have b:∀ q (c:UInt8),q < 19→preT[q]? = some c→t[q]? = some c:=fun q c hq hc=>by have:=h q hq; rw [Nat.zero_add] at this; rw [this,hc]
 have at1:∀ (i:Nat) (w:ByteArray),i+w.size≤19→(∀ q,q < w.size→preT[i+q]? = w[q]?)→AtB t i w:=fun i w hi hw q hq=>by
  have:=h (i+q) (by show i+q < 19; omega); rw [Nat.zero_add] at this; rw [this,hw q hq]
 have nb:∀ q (c:UInt8),q < 19→preT[q]? = some c→sep c.toNat=false→Nb t q:=fun q c hq hc hs=>⟨c,b q c hq hc,hs⟩
 have c0:=lx_minus (b 0 45 (by decide) rfl) (b 1 109 (by decide) rfl) (by decide) (nb 1 109 (by decide) rfl (by decide))
 have c1:=lx_name (t:=t) (i:=1) (j:=7) (w:=w_module) (c:=109) (at1 1 w_module (by decide) (by decide)) rfl (by decide) (by decide) (by kernel_rfl) (by decide) (b 7 40 (by decide) rfl) (by decide) (nb 7 40 (by decide) rfl (by decide)).pass
 have c2:=lx_lp (b 7 40 (by decide) rfl) (nb 8 109 (by decide) rfl (by decide))
 have c3:=lx_name (t:=t) (i:=8) (j:=9) (w:=w_m) (c:=109) (at1 8 w_m (by decide) (by decide)) rfl (by decide) (by decide) (by kernel_rfl) (by decide) (b 9 41 (by decide) rfl) (by decide) (nb 9 41 (by decide) rfl (by decide)).pass
 have c4:=lx_rp (b 9 41 (by decide) rfl)
 rw [(nb 10 46 (by decide) rfl (by decide)).pass] at c4
 have c5:=lx_dot (b 10 46 (by decide) rfl)
 rw [pass_blank (b 11 32 (by decide) rfl) (by decide) (by decide),(nb 12 102 (by decide) rfl (by decide)).pass] at c5
 have c6:=lx_name (t:=t) (i:=12) (j:=13) (w:=w_f) (c:=102) (at1 12 w_f (by decide) (by decide)) rfl (by decide) (by decide) (by kernel_rfl) (by decide) (b 13 40 (by decide) rfl) (by decide) (nb 13 40 (by decide) rfl (by decide)).pass
 have c7:=lx_lp (b 13 40 (by decide) rfl) (nb 14 41 (by decide) rfl (by decide))
 have c8:=lx_rp (b 14 41 (by decide) rfl)
 rw [pass_blank (b 15 32 (by decide) rfl) (by decide) (by decide),(nb 16 45 (by decide) rfl (by decide)).pass] at c8
 have c9:=lx_arrow (t:=t) (i:=16) (j:=19) (at1 16 w_arrow (by decide) (by decide)) (by rw [pass_blank (b 18 32 (by decide) rfl) (by decide) (by decide)]; exact hn.pass)
 exact c0.trans (c1.trans (c2.trans (c3.trans (c4.trans (c5.trans (c6.trans (c7.trans (c8.trans c9))))))))
def endT:TK:=⟨8,⟨#[]⟩,0,0,0⟩
theorem lx_text {X:ByteArray} {L:List TK} (hX:∀ t:ByteArray,AtB t 19 X→Nx t (19+X.size)→Nb t 19∧LX t 19 L (pass t (19+X.size))) (hsz:X.size≤60000) :
  ∃ l,tokens ((preT++X)++w_dot) = .inr l∧(lexT ((preT++X)++w_dot)).map TK.er=ptoks++(L++[dotT,endT]):=by
 obtain ⟨t,ht⟩:∃ t,t=(preT++X)++w_dot:=⟨_,rfl⟩
 rw [← ht]
 have hall:AtB t 0 ((preT++X)++w_dot):=fun q _=>by rw [ht,Nat.zero_add]
 have h0:=hall.left.left
 have h1:=hall.left.right
 have h2:=hall.right
 have hp:preT.size=19:=rfl
 rw [hp,Nat.zero_add] at h1
 rw [ByteArray.size_append,hp,Nat.zero_add] at h2
 have hts:t.size=19+X.size+1:=by rw [ht,ByteArray.size_append,ByteArray.size_append]; rfl
 have hdot:t[19+X.size]? = some (46:UInt8):=by have:=h2 0 (by decide); rw [Nat.add_zero] at this; rw [this]; rfl
 have hend:t[19+X.size+1]? = none:=byte_none (by omega)
 obtain ⟨hnb,hL⟩:=hX t h1 ⟨46,hdot,.inr (.inr ⟨rfl,hend⟩)⟩
 rw [(show Nb t _ from ⟨46,hdot,by decide⟩).pass] at hL
 have hD:=lx_dot hdot
 rw [pass_end hend] at hD
 obtain ⟨l',e1,e2⟩:=((lx_pre h0 hnb).trans (hL.trans hD)) []
 have hp0:pass t 0=0:=(show Nb t 0 from ⟨45,by have:=h0 0 (by decide); rw [Nat.zero_add] at this; rw [this]; rfl,by decide⟩).pass
 have htk:tokens t = .inr (l'++[endTok t]):=by
  unfold tokens
  have hbig:decide ((t.size:Int) > 65536)=false:=decide_eq_false (by omega)
  rw [hbig,if_neg (by simp),hp0,e2,toks_end hend,List.nil_append]
 refine ⟨_,htk,?_⟩
 have e3:lexT t=(l'++[endTok t]).map tkOf:=by unfold lexT; rw [htk]; rfl
 rw [e3,List.map_map]
 have e4:(TK.er ∘ tkOf)=fun c=>(tkOf c).er:=rfl
 rw [e4,List.map_append,e1]
 show (ptoks++(L++[dotT]))++[endT]=_
 simp only [List.append_assoc]; rfl
end
end Go.Am.Rl
