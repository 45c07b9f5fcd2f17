/- Parts: GB1, GB2, GB3, GB4. -/
import Derived.Test.YtcphfgcfmphlfaaDoorPE
import Derived.Test.YtcphfgcfmphlfaaDoorPY
import Derived.Test.YtcphfgcfmphlfaaDoorVE
set_option linter.unusedVariables false
set_option linter.unusedSimpArgs false
namespace Go.Am.Rl
open Go.Proofs
inductive BT where
 | leaf (n:Int)
 | op (o:ByteArray) (a b:BT)
def BT.size:BT→Nat
 | .leaf _=>1
 | .op _ a b=>a.size+b.size+1
def BT.deep:BT→Nat
 | .leaf _=>0
 | .op _ a b=>1+max a.deep b.deep
def BT.post:BT→Nat→List ND
 | .leaf n,_=>[⟨1,empty,n,0,[],0⟩]
 | .op o a b,base=>a.post base++(b.post (base+a.size)++[⟨9,o,0,0,[base+a.size - 1,base+a.size+b.size - 1],0⟩])
theorem BT.pos:∀ t:BT,0 < t.size
 | .leaf _=>Nat.one_pos
 | .op _ _ _=>Nat.succ_pos _
theorem BT.post_len:∀ (t:BT) (b:Nat),(t.post b).length=t.size
 | .leaf _,_=>rfl
 | .op o x y,b=>by simp [BT.post,BT.size,BT.post_len x,BT.post_len y]; omega
def ops12:List ByteArray:=[w_orelse,w_andalso,w_eqeq,w_lt,w_same,w_cat,w_plus,w_minus,w_star,w_slash,w_div,w_rem]
def lv (o:ByteArray):Nat:=if seq o w_orelse=true then 1 else if seq o w_andalso=true then 2 else if (seq o w_eqeq || seq o w_lt || seq o w_same)=true then 3 else if seq o w_cat=true then 4 else if (seq o w_plus || seq o w_minus)=true then 5 else 6
def sg:Nat→List ByteArray
 | 1=>[w_orelse]
 | 2=>[w_andalso]
 | 3=>[w_eqeq,w_ne,w_le,w_lt,w_ge,w_gt,w_same,w_nsame]
 | 4=>[w_cat]
 | 5=>[w_plus,w_minus]
 | 6=>[w_star,w_slash,w_div,w_rem]
 | _=>[]
def anyF (o:ByteArray):List ByteArray→ByteArray
 | []=>⟨#[]⟩
 | s::r=>if seq o s=true then s else anyF o r
def R:Nat→NT
 | 1=>.either
 | 2=>.both
 | 3=>.compare
 | 4=>.append
 | 5=>.add
 | 6=>.mul
 | _=>.unary
def lvOk (o:ByteArray):Bool:=(1≤lv o&&lv o≤6)&&[1,2,3,4,5,6].all fun k=>seq (anyF o (sg k)) (if k=lv o then o else ⟨#[]⟩)
theorem lv_all:ops12.all lvOk=true:=by kernel_rfl
theorem seq_eq {a b:ByteArray} (h:seq a b=true):a=b:=by
 have he:=eq_of_beq h
 rw [Go.ByteArray.toList_eq,Go.ByteArray.toList_eq] at he
 exact ByteArray.ext (Array.toList_inj.mp he)
theorem lv_of {o:ByteArray} (h:o ∈ ops12):1≤lv o∧lv o≤6∧∀ k,1≤k→k≤6→anyF o (sg k)=if k=lv o then o else ⟨#[]⟩:=by
 have:=List.all_eq_true.1 lv_all o h
 unfold lvOk at this
 rw [Bool.and_eq_true,Bool.and_eq_true] at this
 obtain ⟨⟨h1,h2⟩,h3⟩:=this
 refine ⟨of_decide_eq_true h1,of_decide_eq_true h2,fun k hk hk'=> ?_⟩
 have hm:k ∈ [1,2,3,4,5,6]:=by simp; omega
 exact seq_eq (List.all_eq_true.1 h3 k hm)
theorem ops_ne {o:ByteArray} (h:o ∈ ops12):seq o empty=false:=by
 have:(ops12.all fun o=> !seq o empty)=true:=by kernel_rfl
 simpa using List.all_eq_true.1 this o h
section
variable {E:List TK} {st:PS} {i j p h k m:Nat} {t a b:BT} {o:ByteArray}
def Sign (x:TK):Prop:=x.k=6∨x.k=7
theorem isS_sign (hs:Sign (tk E st.at_)) (s:ByteArray):isS E st s=seq (tk E st.at_).s s:=by
 unfold isS; rcases hs with hs | hs <;> rw [hs] <;> rfl
theorem anyS_sign (hs:Sign (tk E st.at_)):∀ l,anyS E st l=anyF (tk E st.at_).s l
 | []=>rfl
 | s::r=>by unfold anyS anyF; rw [isS_sign hs,anyS_sign hs r]
def Par (E:List TK) (c:NT) (i j:Nat) (t:BT) (h:Nat):Prop:=∀ st:PS,st.at_=i→st.deep+h≤199→st.nodes.length+t.size≤16384→Ev E (rule E c st) (.ok (.n (st.nodes.length+t.size - 1)) ⟨j,st.deep,st.nodes++t.post st.nodes.length⟩)
def Stop (E:List TK) (j k:Nat):Prop:=∀ m,k≤m→m≤6→∀ st:PS,st.at_=j→anyS E st (sg m)=⟨#[]⟩
structure OpAt (E:List TK) (p:Nat) (o:ByteArray):Prop where
 mem:o ∈ ops12
 sign:Sign (tk E p)
 s:(tk E p).s=o
theorem OpAt.any (q:OpAt E p o) (hp:st.at_=p) (h1:1≤k) (h6:k≤6):anyS E st (sg k)=if k=lv o then o else ⟨#[]⟩:=by
 subst hp
 rw [anyS_sign q.sign,q.s]
 exact (lv_of q.mem).2.2 k h1 h6
theorem Stop.le {k':Nat} (q:Stop E j k) (h:k≤k'):Stop E j k':=fun m h1 h6=>q m (Nat.le_trans h h1) h6
theorem seq_nil:seq (⟨#[]⟩:ByteArray) empty=true:=by kernel_rfl
theorem Par.up (hE:∀ i,(tk E i).p=0) (q:Par E (R (k+1)) i j t h) (h1:1≤k) (h6:k≤6) (hs:Stop E j k):Par E (R k) i j t h:=by
 intro st hi hd hn
 have ev:=q st hi hd hn
 have hst:∀ st':PS,st'.at_=j→seq (anyS E st' (sg k)) empty=true:=fun st' hj=>by rw [hs k (Nat.le_refl _) h6 st' hj]; exact seq_nil
 have hc:k=1∨k=2∨k=3∨k=4∨k=5∨k=6:=by omega
 rcases hc with rfl | rfl | rfl | rfl | rfl | rfl
 ·exact Ev.pass (c:=.right .both .either (sg 1)) (Ev.call ev (Ev.t (hst _ rfl) .done))
 ·exact Ev.pass (c:=.right .compare .both (sg 2)) (Ev.call ev (Ev.t (hst _ rfl) .done))
 ·exact Ev.pass (c:=.right .append .append (sg 3)) (Ev.call ev (Ev.t (hst _ rfl) .done))
 ·exact Ev.pass (c:=.right .add .append (sg 4)) (Ev.call ev (Ev.t (hst _ rfl) .done))
 ·exact Ev.pass (c:=.left .mul (sg 5)) (Ev.call ev (Ev.pass (Ev.t (hst _ rfl) .done)))
 ·exact Ev.pass (c:=.left .unary (sg 6)) (Ev.call ev (Ev.pass (Ev.t (hst _ rfl) .done)))
theorem post_op (n:List ND):(n++a.post n.length)++(b.post (n++a.post n.length).length)++[⟨9,o,0,0,[n.length+a.size - 1,(n++a.post n.length).length+b.size - 1],0⟩]=n++(BT.op o a b).post n.length:=by
 rw [List.length_append,BT.post_len]
 simp only [BT.post,List.append_assoc]
theorem Par.op (hE:∀ i,(tk E i).p=0) {x y:NT} {g:List ByteArray} (qa:Par E x i p a h) (ho:o ∈ ops12) (hg:∀ st:PS,st.at_=p→anyS E st g=o) (qb:Par E y (p+1) j b h):Par E (.right x y g) i j (.op o a b) h:=by
 intro st hi hd hn
 have pa:=a.pos
 have pb:=b.pos
 have hsz:(BT.op o a b).size=a.size+b.size+1:=rfl
 rw [hsz] at hn ⊢
 have hl:(st.nodes++a.post st.nodes.length).length=st.nodes.length+a.size:=by rw [List.length_append,BT.post_len]
 have e1:=qa st hi hd (by omega)
 have hg':=hg ⟨p,st.deep,st.nodes++a.post st.nodes.length⟩ rfl
 have e2:=qb ⟨p+1,st.deep,st.nodes++a.post st.nodes.length⟩ rfl hd (by simp only [hl]; omega)
 refine Ev.call e1 (Ev.f (by rw [hg']; exact ops_ne ho) (Ev.call e2 (Ev.lay ?_ ?_)))
 ·simp only [List.length_append,BT.post_len]; omega
 ·have e3:(⟨9,anyS E ⟨p,st.deep,st.nodes++a.post st.nodes.length⟩ g,0,0,[st.nodes.length+a.size - 1,(st.nodes++a.post st.nodes.length).length+b.size - 1],pos E st⟩:ND)=⟨9,o,0,0,[st.nodes.length+a.size - 1,(st.nodes++a.post st.nodes.length).length+b.size - 1],0⟩:=by
   rw [hg']; unfold pos; rw [hE]
  rw [e3,post_op]
  have e4:(st.nodes++a.post st.nodes.length++b.post (st.nodes++a.post st.nodes.length).length).length=st.nodes.length+(a.size+b.size+1) - 1:=by
   simp only [List.length_append,BT.post_len]; omega
  rw [e4]
  exact .done
def LP (E:List TK) (m i j:Nat) (t:BT) (h:Nat):Prop:=∀ st:PS,st.at_=i→st.deep+h≤199→st.nodes.length+t.size≤16384→∀ out,Ev E (rule E (.leftL (R (m+1)) (sg m) (st.nodes.length+t.size - 1) 0) ⟨j,st.deep,st.nodes++t.post st.nodes.length⟩) out→Ev E (rule E (.left (R (m+1)) (sg m)) st) out
theorem LP.base (hE:∀ i,(tk E i).p=0) (q:Par E (R (m+1)) i j t h):LP E m i j t h:=by
 intro st hi hd hn out ho
 have hp:pos E st=0:=hE _
 refine Ev.call (q st hi hd hn) ?_
 show Ev E (pass1 (.leftL (R (m+1)) (sg m) _ (pos E st)) _) out
 rw [hp]
 exact Ev.pass ho
theorem LP.step (hE:∀ i,(tk E i).p=0) (qa:LP E m i p a h) (q:OpAt E p o) (hm:lv o=m) (qb:Par E (R (m+1)) (p+1) j b h):LP E m i j (.op o a b) h:=by
 intro st hi hd hn out hout
 have pa:=a.pos
 have pb:=b.pos
 have hsz:(BT.op o a b).size=a.size+b.size+1:=rfl
 rw [hsz] at hn hout
 have hlv:=lv_of q.mem
 have hl:(st.nodes++a.post st.nodes.length).length=st.nodes.length+a.size:=by rw [List.length_append,BT.post_len]
 have hg:anyS E ⟨p,st.deep,st.nodes++a.post st.nodes.length⟩ (sg m)=o:=by rw [q.any rfl (by omega) (by omega),if_pos hm.symm]
 have e2:=qb ⟨p+1,st.deep,st.nodes++a.post st.nodes.length⟩ rfl hd (by simp only [hl]; omega)
 refine qa st hi hd (by omega) out (Ev.f (by rw [hg]; exact ops_ne q.mem) (Ev.call e2 (Ev.lay ?_ ?_)))
 ·simp only [List.length_append,BT.post_len]; omega
 ·rw [hg,post_op]
  have e4:(st.nodes++a.post st.nodes.length++b.post (st.nodes++a.post st.nodes.length).length).length=st.nodes.length+(a.size+b.size+1) - 1:=by
   simp only [List.length_append,BT.post_len]; omega
  rw [e4]
  exact Ev.pass hout
theorem LP.fin (qa:LP E m i j t h) (hs:∀ st:PS,st.at_=j→anyS E st (sg m)=⟨#[]⟩):Par E (.left (R (m+1)) (sg m)) i j t h:=by
 intro st hi hd hn
 exact qa st hi hd hn _ (Ev.t (by rw [hs _ rfl]; exact seq_nil) .done)
end
end Go.Am.Rl
namespace Go.Am.Rl
open Go.Proofs
def rtA (m:Nat):Bool:=m==1 || m==2 || m==4
def lvN (l:List ByteArray) (i:Nat):Nat:=lv (l.getD i empty)
def later (l:List ByteArray) (a i:Nat):Bool:=decide (lvN l i < lvN l a) || ((lvN l i==lvN l a)&& !rtA (lvN l a))
def Cmp (l:List ByteArray):Prop:=∀ i j,i < j→j < l.length→lvN l i=3→lvN l j=3→∃ q,i < q∧q < j∧lvN l q < 3
theorem Cmp.take {l:List ByteArray} (h:Cmp l) (n:Nat):Cmp (l.take n):=by
 have e:∀ i,i < n→lvN (l.take n) i=lvN l i:=fun i hi=>by unfold lvN; rw [List.getD_eq_getElem?_getD,List.getElem?_take_of_lt hi,← List.getD_eq_getElem?_getD]
 intro i j hij hj hi3 hj3
 rw [List.length_take] at hj
 rw [e i (by omega)] at hi3
 rw [e j (by omega)] at hj3
 obtain ⟨q,h1,h2,h3⟩:=h i j hij (by omega) hi3 hj3
 exact ⟨q,h1,h2,by rw [e q (by omega)]; exact h3⟩
theorem Cmp.drop {l:List ByteArray} (h:Cmp l) (n:Nat):Cmp (l.drop n):=by
 have e:∀ i,lvN (l.drop n) i=lvN l (n+i):=fun i=>by unfold lvN; rw [List.getD_eq_getElem?_getD,List.getElem?_drop,← List.getD_eq_getElem?_getD]
 intro i j hij hj hi3 hj3
 rw [List.length_drop] at hj
 rw [e] at hi3 hj3
 obtain ⟨q,h1,h2,h3⟩:=h (n+i) (n+j) (by omega) (by omega) hi3 hj3
 exact ⟨q - n,by omega,by omega,by rw [e,show n+(q - n)=q by omega]; exact h3⟩
section
variable {E:List TK} {st:PS} {h:Nat}
theorem isS_of {x:TK} {s:ByteArray} {b:Bool} (ht:tk E st.at_=x) (hb:((x.k==6 || x.k==7)&&seq x.s s)=b):isS E st s=b:=by
 unfold isS; rw [ht]; exact hb
theorem Par.mono {c:NT} {i j:Nat} {t:BT} {h h':Nat} (q:Par E c i j t h) (hh:h≤h'):Par E c i j t h':=fun st hi hd hn=>q st hi (by omega) hn
def lpT:TK:=⟨6,w_lp,0,0,0⟩
def rpT:TK:=⟨6,w_rp,0,0,0⟩
theorem w_eqbang {x:TK} (hx:(x.k==6 || x.k==7)=false∨(seq x.s w_eq=false∧seq x.s w_bang=false)) (ht:tk E st.at_=x):anyS E st [w_eq,w_bang]=⟨#[]⟩:=by
 have e1:isS E st w_eq=false:=isS_of ht (hx.elim (fun h=>by rw [h]; rfl) fun h=>by rw [h.1]; simp)
 have e2:isS E st w_bang=false:=isS_of ht (hx.elim (fun h=>by rw [h]; rfl) fun h=>by rw [h.2]; simp)
 unfold anyS; rw [e1]
 unfold anyS; rw [e2]; rfl
end
end Go.Am.Rl
namespace Go.Am.Rl
open Go.Proofs
def BT.ops:BT→List ByteArray
 | .leaf _=>[]
 | .op o a b=>o::(a.ops++b.ops)
def TkAt (E:List TK) (i:Nat) (L:List TK):Prop:=∀ q x,L[q]? = some x→tk E (i+q)=x
section
variable {E:List TK} {i j:Nat} {h:Nat}
theorem TkAt.head {x:TK} {L:List TK} (a:TkAt E i (x::L)):tk E i=x:=a 0 x rfl
theorem TkAt.tail {x:TK} {L:List TK} (a:TkAt E i (x::L)):TkAt E (i+1) L:=fun q y hq=>by
 have:=a (q+1) y hq
 rw [show i+1+q=i+(q+1) by omega]; exact this
theorem TkAt.left {A B:List TK} (a:TkAt E i (A++B)):TkAt E i A:=fun q y hq=>a q y (by
 rw [List.getElem?_append_left (List.getElem?_eq_some_iff.mp hq).1]; exact hq)
theorem TkAt.right {A B:List TK} (a:TkAt E i (A++B)):TkAt E (i+A.length) B:=fun q y hq=>by
 have:=a (A.length+q) y (by rw [List.getElem?_append_right (by omega),show A.length+q - A.length=q by omega]; exact hq)
 rw [show i+A.length+q=i+(A.length+q) by omega]; exact this
theorem stop_of {x:TK} (hx:(∀ m,1≤m→m≤6→anyF x.s (sg m)=⟨#[]⟩)∧Sign x) (ht:tk E j=x):Stop E j 1:=fun m h1 h6 st hj=>by
 have e:tk E st.at_=x:=by rw [hj,ht]
 rw [anyS_sign (by rw [e]; exact hx.2),e]; exact hx.1 m h1 h6
theorem six {P:Nat→Prop} (h1:P 1) (h2:P 2) (h3:P 3) (h4:P 4) (h5:P 5) (h6:P 6):∀ m,1≤m→m≤6→P m:=by
 intro m a b
 have:m=1∨m=2∨m=3∨m=4∨m=5∨m=6:=by omega
 rcases this with rfl | rfl | rfl | rfl | rfl | rfl <;> assumption
theorem anyF_nil {o:ByteArray} {l:List ByteArray} (h:(l.any fun s=>seq o s)=false):anyF o l=⟨#[]⟩:=by
 induction l with
 | nil=>rfl
 | cons a r ih=>
  rw [List.any_cons,Bool.or_eq_false_iff] at h
  unfold anyF; rw [h.1,if_neg (by simp)]; exact ih h.2
def dotT:TK:=⟨6,w_dot,0,0,0⟩
theorem dot_stop:(∀ m,1≤m→m≤6→anyF dotT.s (sg m)=⟨#[]⟩)∧Sign dotT:=
 ⟨six (anyF_nil (by kernel_rfl)) (anyF_nil (by kernel_rfl)) (anyF_nil (by kernel_rfl)) (anyF_nil (by kernel_rfl)) (anyF_nil (by kernel_rfl)) (anyF_nil (by kernel_rfl)),.inl rfl⟩
abbrev w_m:ByteArray:=⟨#[109]⟩
abbrev w_f:ByteArray:=⟨#[102]⟩
def ptoks:List TK:=[⟨6,w_minus,0,0,0⟩,⟨1,w_module,0,0,0⟩,lpT,⟨1,w_m,0,0,0⟩,rpT,dotT,⟨1,w_f,0,0,0⟩,lpT,rpT,⟨6,w_arrow,0,0,0⟩]
end
end Go.Am.Rl
namespace Go.Am.Rl
open Go.Proofs
def AtB (t:ByteArray) (o:Nat) (u:ByteArray):Prop:=∀ q,q < u.size→t[o+q]? = u[q]?
section
variable {t u v:ByteArray} {i j o e:Nat}
theorem AtB.left (h:AtB t o (u++v)):AtB t o u:=fun q hq=>by
 rw [h q (by rw [ByteArray.size_append]; omega),app_left hq]
theorem AtB.right (h:AtB t o (u++v)):AtB t (o+u.size) v:=fun q hq=>by
 have:=h (u.size+q) (by rw [ByteArray.size_append]; omega)
 rw [app_right] at this
 rw [Nat.add_assoc]; exact this
def Nb (t:ByteArray) (j:Nat):Prop:=∃ c,t[j]? = some c∧sep c.toNat=false
theorem Nb.pass (h:Nb t j):pass t j=j:=by
 obtain ⟨c,hc,hs⟩:=h
 unfold sep at hs
 rw [Bool.or_eq_false_iff] at hs
 exact pass_stop hc hs.1 hs.2
def LX (t:ByteArray) (i:Nat) (L:List TK) (j:Nat):Prop:=∀ acc,∃ l',l'.map (fun c=>(tkOf c).er)=L∧toks t i acc=toks t j (acc++l')
theorem LX.trans {L M:List TK} {k:Nat} (a:LX t i L j) (b:LX t j M k):LX t i (L++M) k:=fun acc=>by
 obtain ⟨l1,h1,e1⟩:=a acc
 obtain ⟨l2,h2,e2⟩:=b (acc++l1)
 exact ⟨l1++l2,by rw [List.map_append,h1,h2],by rw [e1,e2,List.append_assoc]⟩
theorem LX.one {c:UInt8} {k:Int} {w:ByteArray} {n:Int} {f:Nat} (hc:t[i]? = some c) (ht:token t i c.toNat (i:Nat) = .inr (tokC k w n f (i:Nat),e)) (hj:pass t e=j):LX t i [⟨k,w,n,f,0⟩] j:=fun acc=>
 ⟨[tokC k w n f (i:Nat)],rfl,by rw [toks_more hc ht]; dsimp only; rw [hj]⟩
theorem sign_filter {c:UInt8} (hc:t[i]? = some c):∀ l:List ByteArray,(∀ g ∈ l,plain g)→signIn t i l=signIn t i (l.filter fun g=>g[0]? ==some c)
 | [],_=>rfl
 | g::r,hp=>by
  have ih:=sign_filter hc r (fun g hg=>hp g (List.mem_cons_of_mem _ hg))
  cases h:(g[0]? ==some c) with
  | true=>rw [List.filter_cons_of_pos (by simpa using h)]; simp only [signIn,ih]
  | false=>
   rw [List.filter_cons_of_neg (by simp [h])]
   have:stands t i g=false:=by
    cases hs:stands t i g with
    | false=>rfl
    | true=>
     have:=stands_at hs 0 (hp g (List.mem_cons_self ..)).1
     rw [Nat.add_zero,hc] at this
     rw [← this] at h; simp at h
   simp only [signIn,this,Bool.false_eq_true,if_false]; exact ih
theorem tok_sign {c:Nat} {pl:Int} (h:(isName c || isDig c || ((c:Int)==35) || ((c:Int)==39) || ((c:Int)==34))=false):token t i c pl=signTok t i pl:=by
 simp only [Bool.or_eq_false_iff] at h
 obtain ⟨⟨⟨⟨h1,h2⟩,h3⟩,h4⟩,h5⟩:=h
 unfold token
 rw [h1,h2,h3,h4,h5]; rfl
theorem lx_sign {c:UInt8} {w:ByteArray} (hc:t[i]? = some c) (hk:(isName c.toNat || isDig c.toNat || ((c.toNat:Int)==35) || ((c.toNat:Int)==39) || ((c.toNat:Int)==34))=false) (hw:0 < w.size) (hs:signIn t i (signs.filter fun g=>g[0]? ==some c)=w) (hj:pass t (i+w.size)=j):LX t i [⟨6,w,0,0,0⟩] j:=by
 refine LX.one hc ?_ hj
 rw [tok_sign hk]
 have:signAt t i=w:=by unfold signAt; rw [sign_filter hc signs signs_plain,hs]
 unfold signTok
 have hz:decide (w.size=0)=false:=decide_eq_false (by omega)
 rw [this,hz,if_neg (by simp)]
theorem sign_single {c:UInt8} (w:ByteArray) (hw:w=⟨#[c]⟩) (hc:t[i]? = some c):signIn t i [w]=w:=by
 have:stands t i w=true:=stands_of (by rw [hw]; exact Nat.one_pos) (fun k hk=>by
  have:k=0:=by rw [hw] at hk; exact Nat.lt_one_iff.mp hk
  subst this; rw [hw,Nat.add_zero,hc]; rfl)
 simp only [signIn,this,if_true]
theorem lx_lp (hc:t[i]? = some 40) (hj:Nb t (i+1)):LX t i [lpT] (i+1):=
 lx_sign (w:=w_lp) hc (by decide) (by decide) (by rw [show (signs.filter fun g=>g[0]? ==some 40)=[w_lp] by kernel_rfl]; exact sign_single _ rfl hc) hj.pass
theorem lx_rp (hc:t[i]? = some 41):LX t i [rpT] (pass t (i+1)):=
 lx_sign (w:=w_rp) hc (by decide) (by decide) (by rw [show (signs.filter fun g=>g[0]? ==some 41)=[w_rp] by kernel_rfl]; exact sign_single _ rfl hc) rfl
theorem lx_dot (hc:t[i]? = some 46):LX t i [dotT] (pass t (i+1)):=
 lx_sign (w:=w_dot) hc (by decide) (by decide) (by rw [show (signs.filter fun g=>g[0]? ==some 46)=[w_dot] by kernel_rfl]; exact sign_single _ rfl hc) rfl
theorem minus_filter:(signs.filter fun g=>g[0]? ==some 45)=[w_arrow,w_minus]:=by kernel_rfl
theorem lx_minus {c:UInt8} (hc:t[i]? = some 45) (hn:t[i+1]? = some c) (h:c≠62) (hj:Nb t (i+1)):LX t i [⟨6,w_minus,0,0,0⟩] (i+1):=by
 refine lx_sign (w:=w_minus) hc (by decide) (by decide) ?_ hj.pass
 rw [minus_filter]
 have:stands t i w_arrow=false:=by
  cases hs:stands t i w_arrow with
  | false=>rfl
  | true=>
   have:=stands_at hs 1 (by decide)
   rw [hn] at this
   exact absurd (Option.some.inj this) h
 rw [signIn,this,if_neg (by simp)]
 exact sign_single _ rfl hc
theorem lx_arrow (h:AtB t i w_arrow) (hj:pass t (i+2)=j):LX t i [⟨6,w_arrow,0,0,0⟩] j:=by
 have hc:t[i]? = some (45:UInt8):=h 0 (by decide)
 refine lx_sign (w:=w_arrow) hc (by decide) (by decide) ?_ hj
 rw [minus_filter]
 have:stands t i w_arrow=true:=stands_of (by decide) h
 rw [signIn,this,if_pos rfl]
theorem lx_name {c:UInt8} {w:ByteArray} (h:AtB t i w) (hw:w[0]? = some c) (hl:isLow c.toNat=true) (hall:(w.data.toList.all fun b:UInt8=>isNam b.toNat)=true) (hk:kept w=false) (hsz:w.size≤64) {b:UInt8} (hb:t[i+w.size]? = some b) (hbn:isNam b.toNat=false) (hj:pass t (i+w.size)=j):LX t i [⟨1,w,0,0,0⟩] j:=by
 have hw0:=size_of_some hw
 have hbs:=size_of_some hb
 have hc:t[i]? = some c:=by have:=h 0 hw0; rw [Nat.add_zero] at this; rw [this,hw]
 have hsk:skip isNam t i=i+w.size:=by
  refine skip_run (by omega) (by omega) (fun q h1 h2=> ?_) (fun b' hb'=>by rw [hb] at hb'; injection hb' with hb'; subst hb'; exact hbn)
  obtain ⟨x,hx⟩:=byte_at (s:=w) (n:=q - i) (by omega)
  have:=h (q - i) (by omega)
  rw [show i+(q - i)=q by omega,hx] at this
  refine ⟨x,this,?_⟩
  have hm:x ∈ w.data.toList:=by
   rw [getElem?_pos w (q - i) (by omega)] at hx
   injection hx with hx
   rw [← hx]
   exact Array.mem_toList_iff.mpr (Array.getElem_mem _)
  exact List.all_eq_true.1 hall x hm
 have hex:t.extract i (i+w.size)=w:=by
  apply ByteArray.ext_getElem
  ·rw [size_ext (by omega)]; omega
  ·intro q h1 h2
   have e1:=ext_at (s:=t) (a:=i) (b:=i+w.size) (k:=q) (by omega) (by omega)
   rw [h q h2,getElem?_pos _ q h1,getElem?_pos _ q h2] at e1
   exact Option.some.inj e1
 refine LX.one hc ?_ hj
 unfold token
 rw [if_pos (by unfold isName; rw [hl]; rfl)]
 unfold nameTok
 rw [if_pos hl,hsk,hex]
 unfold lowTok
 have hz:decide (((w.size:Nat):Int) > 64)=false:=decide_eq_false (by omega)
 rw [hk,if_neg (by simp),hz,if_neg (by simp)]
theorem AtB.nb (h:AtB t i u) {c:UInt8} (hu:u[0]? = some c) (hs:sep c.toNat=false):Nb t i:=by
 refine ⟨c,?_,hs⟩
 have:=h 0 (size_of_some hu)
 rw [Nat.add_zero] at this; rw [this,hu]
def BT.ok:BT→Prop
 | .leaf n=>∃ d:Nat,n=(d:Nat)∧d < 10
 | .op o a b=>o ∈ ops12∧a.ok∧b.ok
abbrev preT:ByteArray:=⟨#[45,109,111,100,117,108,101,40,109,41,46,32,102,40,41,32,45,62,32]⟩
theorem lx_pre (h:AtB t 0 preT) (hn:Nb t 19):LX t 0 ptoks 19:=by
 have b:∀ q (c:UInt8),q < 19→preT[q]? = some c→t[q]? = some c:=fun q c hq hc=>by have:=h q hq; rw [Nat.zero_add] at this; rw [this,hc]
 have at1:∀ (i:Nat) (w:ByteArray),i+w.size≤19→(∀ q,q < w.size→preT[i+q]? = w[q]?)→AtB t i w:=fun i w hi hw q hq=>by
  have:=h (i+q) (by show i+q < 19; omega); rw [Nat.zero_add] at this; rw [this,hw q hq]
 have nb:∀ q (c:UInt8),q < 19→preT[q]? = some c→sep c.toNat=false→Nb t q:=fun q c hq hc hs=>⟨c,b q c hq hc,hs⟩
 have c0:=lx_minus (b 0 45 (by decide) rfl) (b 1 109 (by decide) rfl) (by decide) (nb 1 109 (by decide) rfl (by decide))
 have c1:=lx_name (t:=t) (i:=1) (j:=7) (w:=w_module) (c:=109) (at1 1 w_module (by decide) (by decide)) rfl (by decide) (by decide) (by kernel_rfl) (by decide) (b 7 40 (by decide) rfl) (by decide) (nb 7 40 (by decide) rfl (by decide)).pass
 have c2:=lx_lp (b 7 40 (by decide) rfl) (nb 8 109 (by decide) rfl (by decide))
 have c3:=lx_name (t:=t) (i:=8) (j:=9) (w:=w_m) (c:=109) (at1 8 w_m (by decide) (by decide)) rfl (by decide) (by decide) (by kernel_rfl) (by decide) (b 9 41 (by decide) rfl) (by decide) (nb 9 41 (by decide) rfl (by decide)).pass
 have c4:=lx_rp (b 9 41 (by decide) rfl)
 rw [(nb 10 46 (by decide) rfl (by decide)).pass] at c4
 have c5:=lx_dot (b 10 46 (by decide) rfl)
 rw [pass_blank (b 11 32 (by decide) rfl) (by decide) (by decide),(nb 12 102 (by decide) rfl (by decide)).pass] at c5
 have c6:=lx_name (t:=t) (i:=12) (j:=13) (w:=w_f) (c:=102) (at1 12 w_f (by decide) (by decide)) rfl (by decide) (by decide) (by kernel_rfl) (by decide) (b 13 40 (by decide) rfl) (by decide) (nb 13 40 (by decide) rfl (by decide)).pass
 have c7:=lx_lp (b 13 40 (by decide) rfl) (nb 14 41 (by decide) rfl (by decide))
 have c8:=lx_rp (b 14 41 (by decide) rfl)
 rw [pass_blank (b 15 32 (by decide) rfl) (by decide) (by decide),(nb 16 45 (by decide) rfl (by decide)).pass] at c8
 have c9:=lx_arrow (t:=t) (i:=16) (j:=19) (at1 16 w_arrow (by decide) (by decide)) (by rw [pass_blank (b 18 32 (by decide) rfl) (by decide) (by decide)]; exact hn.pass)
 exact c0.trans (c1.trans (c2.trans (c3.trans (c4.trans (c5.trans (c6.trans (c7.trans (c8.trans c9))))))))
def endT:TK:=⟨8,⟨#[]⟩,0,0,0⟩
end
end Go.Am.Rl
