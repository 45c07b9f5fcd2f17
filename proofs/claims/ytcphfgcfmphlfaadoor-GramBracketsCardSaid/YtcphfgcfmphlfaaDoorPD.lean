/- Parts: PS1, PS2, P25, P26, P27, P28, P29, P30. -/
import Derived.Test.YtcphfgcfmphlfaaDoorPA
import Derived.Test.YtcphfgcfmphlfaaDoorPC
set_option linter.unusedVariables false
set_option linter.unusedSimpArgs false
namespace Go.Am.Rl
open Go.Proofs
inductive Safe (p:Nat):IT→Prop
 | done {v:Val} {st:PS}:p≤st.at_→Safe p (.done v st)
 | fail {e q:Int}:Safe p (.fail e q)
 | call {c:NT} {st:PS} {k:Val→PS→IT}:p≤st.at_→(∀ v st',st.at_≤st'.at_→Safe p (k v st'))→Safe p (.call c st k)
theorem Safe.ite {p:Nat} {c:Prop} [Decidable c] {a b:IT} (h1:Safe p a) (h2:Safe p b):Safe p (if c then a else b):=by
 by_cases h:c
 ·rw [if_pos h]; exact h1
 ·rw [if_neg h]; exact h2
theorem Safe.laySigns {p:Nat}:∀ (l:List TK) (a:Nat) (st:PS),p≤st.at_→Safe p (laySigns l a st)
 | [],a,st,h=>.done h
 | t::r,a,st,h=>by
  unfold Rl.laySigns lay
  split
  ·exact .fail
  ·exact Safe.laySigns r _ _ h
variable {ts:List TK}
theorem safe_named (st:PS):Safe (st.at_+1) (rule ts .named st):=by
 simp only [rule,kind,must,lay,pass1,callN,callL,callD]
 repeat' (first | exact Safe.fail | (refine Safe.laySigns _ _ _ ?_; first | omega | (simp only [adv] at *; omega)) | (refine Safe.done ?_; first | omega | (simp only [adv] at *; omega)) | (refine Safe.call (by first | omega | (simp only [adv] at *; omega)) fun _ _ _=> ?_) | refine Safe.ite ?_ ?_ | split)
theorem safe_rule (c:NT) (st:PS):Safe st.at_ (rule ts c st):=by
 cases c <;> simp only [rule,kind,must,lay,none1,pass1,callN,callL,callD]
 all_goals repeat' (first | exact Safe.fail | (refine Safe.laySigns _ _ _ ?_; first | omega | (simp only [adv] at *; omega)) | (refine Safe.done ?_; first | omega | (simp only [adv] at *; omega)) | (refine Safe.call (by first | omega | (simp only [adv] at *; omega)) fun _ _ _=> ?_) | refine Safe.ite ?_ ?_ | split)
theorem run_safe:∀ (n:Nat) {t:IT} {p:Nat} {v:Val} {st:PS},Safe p t→run ts n t=some (.ok v st)→p≤st.at_
 | 0,_,_,_,_,.done h,e=>by simp only [run,Option.some.injEq,Out1.ok.injEq] at e; rw [← e.2]; exact h
 | n+1,_,_,_,_,.done h,e=>by simp only [run,Option.some.injEq,Out1.ok.injEq] at e; rw [← e.2]; exact h
 | 0,_,_,_,_,.fail,e=>by simp [run] at e
 | n+1,_,_,_,_,.fail,e=>by simp [run] at e
 | 0,_,_,_,_,.call _ _,e=>by simp [run] at e
 | n+1,_,_,_,_,.call (c:=c) (st:=st) h hk,e=>by
  simp only [run] at e
  cases h1:run ts n (rule ts c st) with
  | none=>rw [h1] at e; cases e
  | some x=>
   rw [h1] at e
   cases x with
   | err e1 p1=>simp at e
   | ok v1 st1=>exact run_safe n (hk v1 st1 (run_safe n (safe_rule c st) h1)) e
theorem Ev.safe {t:IT} {p:Nat} {v:Val} {st:PS} (h:Ev ts t (.ok v st)) (hs:Safe p t):p≤st.at_:=by
 obtain ⟨n,h⟩:=h; exact run_safe n hs h
theorem Ev.le {c:NT} {st st':PS} {v:Val} (h:Ev ts (rule ts c st) (.ok v st')):st.at_≤st'.at_:=h.safe (safe_rule c st)
theorem Ev.function_lt {st st':PS} {v:Val} (h:Ev ts (rule ts .function st) (.ok v st')):st.at_ < st'.at_:=by
 have h':Ev ts (callN .named st fun a st1=>pass1 (.functionL [a] (pos ts st)) st1) (.ok v st'):=h
 rcases h'.inv with ⟨e,p,h1,_⟩ | ⟨v1,st1,h1,h2⟩
 ·cases h1
 ·have e1:=h1.safe (safe_named st)
  have e2:st1.at_≤st'.at_:=h2.safe (by
   simp only [pass1]
   repeat' (first | exact Safe.fail | (refine Safe.laySigns _ _ _ ?_; first | omega | (simp only [adv] at *; omega)) | (refine Safe.done ?_; first | omega | (simp only [adv] at *; omega)) | (refine Safe.call (by first | omega | (simp only [adv] at *; omega)) fun _ _ _=> ?_) | refine Safe.ite ?_ ?_ | split))
  omega
end Go.Am.Rl
namespace Go.Am.Rl
open Go.Proofs
def Sort1 (t:Tok):Prop:=(∀ e,t = .inl e→e≠0)∧∀ p,t = .inr p→∃ k s m f i,p.1=tokC k s m f i∧k≠8
theorem Sort1.err {e:Int} (h:e≠0):Sort1 (.inl e):=⟨fun e' he=>by cases he; exact h,fun p hp=>by cases hp⟩
theorem Sort1.one {k:Int} {s:ByteArray} {m:Int} {f:Nat} {i:Int} {e:Nat} (h:k≠8):Sort1 (.inr (tokC k s m f i,e)):=⟨fun e he=>(by cases he),fun p hp=>by cases hp; exact ⟨_,_,_,_,_,rfl,h⟩⟩
theorem token_sort (s:ByteArray) (i c:Nat) (pl:Int):Sort1 (token s i c pl):=by
 unfold token nameTok lowTok numTok numAt numF numI bitTok quoTok signTok
 repeat' split
 all_goals first | exact Sort1.err (by decide) | exact Sort1.one (by decide)
def NotEnd (c:List AVal):Prop:=∃ k s m f i,c=tokC k s m f i∧k≠8
theorem toks_sort {s:ByteArray}:∀ (d i:Nat) (acc:List (List AVal)),s.size - i≤d→(∀ c ∈ acc,NotEnd c)→(∀ e,toks s i acc = .inl e→e.1≠0)∧∀ l,toks s i acc = .inr l→∀ c ∈ l,NotEnd c:=by
 intro d
 induction d with
 | zero=>
  intro i acc hi hacc
  rw [toks_end (byte_none (by omega))]
  exact ⟨fun e he=>(by cases he),fun l hl=>by cases hl; exact hacc⟩
 | succ d ih=>
  intro i acc hi hacc
  cases hc:s[i]? with
  | none=>
   rw [toks_end hc]
   exact ⟨fun e he=>(by cases he),fun l hl=>by cases hl; exact hacc⟩
  | some c=>
   have hm:=token_made hc (i:Nat)
   have hs:=token_sort s i c.toNat (i:Nat)
   cases hk:token s i c.toNat (i:Nat) with
   | inl e=>
    rw [hk] at hs
    rw [toks_bad hc hk]
    exact ⟨fun e he=>by cases he; exact hs.1 _ rfl,fun l hl=>(by cases hl)⟩
   | inr p=>
    rw [hk] at hm hs
    obtain ⟨htok,h1,h2⟩:=hm p rfl
    have hp:=pass_le (s:=s) h2
    rw [toks_more hc hk]
    refine ih (pass s p.2) (acc++[p.1]) (by omega) fun c hc=> ?_
    rcases List.mem_append.mp hc with hc | hc
    ·exact hacc c hc
    ·rw [List.mem_singleton.mp hc]
     exact hs.2 p rfl
theorem tokens_sort (s:ByteArray):(∀ e,tokens s = .inl e→e.1≠0)∧∀ l,tokens s = .inr l→s.size≤65536∧∃ l',l=l'++[endTok s]∧∀ c ∈ l',NotEnd c:=by
 unfold tokens
 split
 ·exact ⟨fun e he=>by cases he; decide,fun l hl=>(by cases hl)⟩
 ·rename_i h
  have hsz:s.size≤65536:=by
   have:=of_decide_eq_false (eq_false_of_ne_true h); omega
  obtain ⟨h1,h2⟩:=toks_sort (s:=s) _ (pass s 0) [] (Nat.le_refl _) (fun c hc=>(by cases hc))
  cases ht:toks s (pass s 0) [] with
  | inl e=>exact ⟨fun e' he=>by cases he; exact h1 _ ht,fun l hl=>(by cases hl)⟩
  | inr l'=>exact ⟨fun e' he=>(by cases he),fun l hl=>by cases hl; exact ⟨hsz,l',rfl,h2 _ ht⟩⟩
def tkOf (c:List AVal):TK:=match c with
 | [.int _ k,.str s,.int _ n,.flt _ f,.int _ p]=>⟨k,s,n,f,p⟩
 | _=>⟨8,⟨#[]⟩,0,0,0⟩
theorem tkOf_cells {c:List AVal} (h:IsTok c):(tkOf c).cells=c:=by
 obtain ⟨k,s,n,f,i,rfl⟩:=h; rfl
theorem tkOf_map:∀ {l:List (List AVal)},(∀ c ∈ l,IsTok c)→(l.map tkOf).map TK.cells=l
 | [],_=>rfl
 | c::l,h=>by
  rw [List.map_cons,List.map_cons,tkOf_cells (h c (List.mem_cons_self ..)),tkOf_map fun c hc=>h c (List.mem_cons_of_mem _ hc)]
def lexT (s:ByteArray):List TK:=(resRow (tokens s)).map tkOf
theorem lexT_cells (s:ByteArray):(lexT s).map TK.cells=resRow (tokens s):=tkOf_map (res_all s).1
theorem lexT_ok {s:ByteArray} {l:List (List AVal)} (h:tokens s = .inr l):TOk (lexT s):=by
 obtain ⟨hsz,l',rfl,hl'⟩:=(tokens_sort s).2 l h
 have hlen:=(res_all s).2
 have e:lexT s=l'.map tkOf++[tkOf (endTok s)]:=by
  unfold lexT; rw [h]; simp [resRow]
 rw [h] at hlen
 have hlen':(l'++[endTok s]).length≤s.size+1:=hlen
 have hel:(lexT s).length=l'.length+1:=by rw [e]; simp
 refine ⟨by rw [hel]; simp at hlen'; omega,?_,fun i hi=> ?_⟩
 ·rw [hel,e]
  unfold tk
  rw [Nat.add_sub_cancel,List.getD_eq_getElem?_getD,List.getElem?_append_right (by simp)]
  simp; rfl
 ·rw [hel] at hi
  have hil:i < l'.length:=by omega
  rw [e]
  unfold tk
  rw [List.getD_eq_getElem?_getD,List.getElem?_append_left (by simpa using hil),List.getElem?_map,List.getElem?_eq_getElem hil]
  obtain ⟨k,s',m,f,i',h1,h2⟩:=hl' _ (List.getElem_mem hil)
  simp only [Option.map_some,Option.getD_some]
  rw [h1]; exact h2
end Go.Am.Rl
namespace Go.Am.Rl
open Go.Proofs
section
variable {ts:List TK} {H:AHeap} {pid:Nat} {st:PS} {D:Nat→Prop} {s1 s2:PS} {H1 H2:AHeap} {D1 D2:Nat→Prop} {bn br bt:Nat} {v:AVal} {n:ND}
theorem PR.depth (hp:PR ts H pid st D) (d:Nat) (hd:d≤200):aload H none (.ptr pid 2)=some (.int .i64 (st.deep:Nat))∧∃ H5,astore H 1 (.ptr pid 2) (.int .i64 (d:Nat))=some H5∧PR ts H5 pid { st with deep:=d } D∧Fr H D H5 D:=by
 obtain ⟨⟨xt,xn,hb,htk,hn,hx,ho⟩,h6,h7,hlt,hd',hm⟩:=hp
 refine ⟨load_cell hb (o:=2) rfl,_,store_cell hb (by show 2 < 4; omega) rfl rfl,?_,?_⟩
 ·have hf:∀ j,j≠pid→(H.set pid (.cells 61 [xt,.int .i64 (st.at_:Nat),.int .i64 (d:Nat),xn])).get j=H.get j:=fun j hj=>by rw [AHeap.get_set,if_neg hj]
  exact ⟨⟨xt,xn,by rw [AHeap.get_set,if_pos rfl,if_pos (AHeap.get_lt hb)]; rfl,htk.frame fun j hj=>hf j (hx j hj).2.1,hn.frame (fun j hj=>hf j (ho j hj).2) (fun j _ hj=>hf j hj),hx,ho⟩,h6,h7,hlt,hd,hm⟩
 ·exact ⟨by simp,fun j hj hjd=>by rw [AHeap.get_set,if_neg (fun e=>hjd (by rw [e]; exact h6))],fun j h=>.inl h⟩
theorem u68 {bx:Nat} {m:AEnd} (hp:PR ts H pid st D) (hd:0 < st.deep) (hb:H.get bx=some (.cells 59 [.ptr pid 0])):DCallD Tryd.prog 68 [.ptr bx 0] m H fun m' H'=>m'=m∧PR ts H' pid { st with deep:=st.deep - 1 } D∧Fr H D H' D:=by
 refine DCallD.of_body (fn:=Tryd.f68) (by kernel_rfl) c68 (by kernel_rfl) (by simp [f68]) ?_
 unfold f68
 simp only []
 have h200:=hp.deep
 obtain ⟨l2,H2,s2,p2,f2⟩:=hp.depth (st.deep - 1) (by omega)
 have lb:=load_cell hb (o:=0) (v:=.ptr pid 0) rfl
 have hw:IntKind.i64.wrap (((st.deep:Nat):Int) - 1)=((st.deep - 1:Nat):Int):=by
  rw [show (((st.deep:Nat):Int) - 1)=((st.deep - 1:Nat):Int) by omega]; exact wrap64 (by omega)
 refine DR.go rfl ?_
 simp -dsimp only [SZ,EZ,astep,aun,AVal.cells,seval,lb,l2,abin,hw,s2]
 refine DR.nm rfl ?_
 exact DR.done ⟨.tup [],rfl,trivial,p2,f2⟩
theorem leaveE {bx:Nat} {st1:PS} {t:IT} {e p:Int} {w:AVal} {T:Env} {Hx:AHeap} (hd:st1.deep=st.deep+1) (F1:Fr H D H1 D) (hb:H1.get bx=some (.cells 59 [.ptr pid 0])) (hbd:¬ D bx) (ev:Ev ts t (.err e p)) (b:Bad ts pid H1 D st1 e p (.pan w) Hx) :
  DLeave Tryd.prog [.tmp 2] [(68,[.ptr bx 0])] (.pan w) T Hx (PostN ts pid H D st t):=by
 obtain ⟨b1,s,D',b2,b3,b4⟩:=b
 refine (u68 b2 (by omega) (b4.keep hb hbd).1).mono ?_
 rintro m H' ⟨rfl,p2,f2⟩
 exact DLeave.pan' (.inl ⟨e,p,ev,b1,_,_,p2,by simp only; omega,F1.trans (b4.trans f2)⟩)
theorem leaveR {bx i:Nat} {st1 s:PS} {t:IT} {T:Env} {Hx:AHeap} {Dx:Nat→Prop} (hd:st1.deep=st.deep+1) (ha:st.at_≤st1.at_) (hn:st.nodes.length≤st1.nodes.length) (F1:Fr H D H1 D) (hb:H1.get bx=some (.cells 59 [.ptr pid 0])) (hbd:¬ D bx) (q:Good1 ts pid H1 D st1 s Hx Dx) (hi:i < s.nodes.length) (ev:Ev ts t (.ok (.n i) { s with deep:=s.deep - 1 })) (hT:∀ H',aresult H' T [.tmp 2]=some (.int .i64 (i:Nat))) :
  DLeave Tryd.prog [.tmp 2] [(68,[.ptr bx 0])] .ret T Hx (PostN ts pid H D st t):=by
 have hsd:=q.deep
 refine (u68 q.pr (by omega) (q.fr.keep hb hbd).1).mono ?_
 rintro m H' ⟨rfl,p2,f2⟩
 exact ⟨_,hT H',.inr ⟨i,_,Dx,ev,rfl,hi,p2,by simp only; omega,Nat.le_trans ha q.at_,F1.trans (q.fr.trans f2),Nat.le_trans hn q.nds⟩⟩
def outE (i:Nat) (s:PS):IT:=.done (.n i) { s with deep:=s.deep - 1 }
theorem lay67 {bx:Nat} {st1:PS} {N:Nat} {p:Int} {t:IT} (ht:TOk ts) (hd:st1.deep=st.deep+1) (ha:st.at_≤st1.at_) (hn:st.nodes.length≤st1.nodes.length) (F1:Fr H D H1 D) (hb:H1.get bx=some (.cells 59 [.ptr pid 0])) (hbd:¬ D bx) (hx:Upto ts pid 67 .expr N)
  {H2:AHeap} {D2:Nat→Prop} {s2:PS} (q2:Good1 ts pid H1 D st1 s2 H2 D2) (hN:rem ts s2≤N) (w2:∀ o,Ev ts (callN .expr s2 fun a s3=>lay s3 (node 17 [a] p) outE) o→Ev ts t o) {k:List AItem} :
  DRX Tryd.prog (kof k67) 74 (.code (.region true r67_7 [2])::.code .ret::k) [(68,[.ptr bx 0])] [(1,.ptr bx 0),(3,.int .i64 p)] H2 (fun e ds T' H'=>DLeave Tryd.prog [.tmp 2] ds e T' H' (PostN ts pid H D st t)):=by
 have lb2:=load_cell (q2.fr.keep hb hbd).1 (o:=0) (v:=.ptr pid 0) rfl
 refine DRX.nm rfl ?_
 refine DRX.draw (by kernel_rfl) d67_7 ?_
 simp -dsimp only [m67_7,YZ,XZ,SZ,EZ,astep,aun,AVal.cells,seval,DS_nil,DS_cons,seesAll,staysAll,abit,List.getD_cons_zero,List.getD_cons_succ,AOp.quiet,AOp.reads,true_and,and_true,decide_true,decide_false,and_self,lb2]
 refine (hx _ hN _ _ q2.pr).mono ?_
 rintro o H3 (⟨e,p,ev3,rfl,b⟩ | ⟨a3,s3,D3,ev3,rfl,ha3,g3⟩)
 ·refine And.intro (leaveE hd F1 hb hbd (w2 _ (Ev.callE ev3)) (q2.bad ⟨rfl,b⟩)) ?_
  simp -dsimp only [YZ,XZ,SZ,EZ,astep,aun,AVal.cells,seval,DS_nil,DS_cons,seesAll,staysAll,abit,List.getD_cons_zero,List.getD_cons_succ,AOp.quiet,AOp.reads,true_and,and_true,decide_true,decide_false,and_self,lb2]
 have q3:=q2.trans g3
 have w3:=fun o h=>w2 o (Ev.call ev3 h)
 have lb3:=load_cell (q3.fr.keep hb hbd).1 (o:=0) (v:=.ptr pid 0) rfl
 obtain ⟨H4,e4⟩:∃ H4,H3.push (.cells 3 [.int .i64 (a3:Nat)])=H4:=⟨_,rfl⟩
 obtain ⟨hr4,k4⟩:RowI H4 (.sl H3.next 0 1 (some 1)) [a3]∧Gro H3 H4:=row2v (x:=[a3]) (by simp) e4
 have q4:=q3.gro k4
 have w4:=w3
 have lb4:=load_cell (q4.fr.keep hb hbd).1 (o:=0) (v:=.ptr pid 0) rfl
 have f4:=q3.fresh (n:=H3.next) (c:=1) (Nat.le_refl _)
 have hfl:afill [.int .i64 0] [(0,1,.int .i64 (a3:Nat))]=some [.int .i64 (a3:Nat)]:=rfl
 have hf5:afill [.int .i64 0,.str ⟨#[]⟩,.int .i64 0,.flt .f64 0,.nils,.int .i64 0] [(0,1,.int .i64 17),(4,1,.sl H3.next 0 1 (some 1)),(5,1,.int .i64 p)]=some (ndC (.sl H3.next 0 1 (some 1)) (node 17 [a3] p)):=rfl
 simp -dsimp only [YZ,XZ,SZ,EZ,astep,aun,AVal.cells,seval,DS_nil,DS_cons,seesAll,staysAll,abit,List.getD_cons_zero,List.getD_cons_succ,AOp.quiet,AOp.reads,true_and,and_true,decide_true,decide_false,and_self,lb2,lb3,Env.parts,hfl,e4,lb4,hf5]
 refine (g39 (v:=.sl H3.next 0 1 (some 1)) (n:=node 17 [a3] p) q4.pr hr4 f4.2).mono ?_
 rintro o H5 (⟨m5,rfl,p5,f5⟩ | ⟨m5,rfl,D5,p5,n5,f5,d5⟩)
 ·refine And.intro (leaveE hd F1 hb hbd (w4 _ (Ev.layE m5)) (q4.bad ⟨rfl,_,_,p5,rfl,f5⟩)) ?_
  simp -dsimp only [YZ,XZ,SZ,EZ,astep,aun,AVal.cells,seval,DS_nil,DS_cons,seesAll,staysAll,abit,List.getD_cons_zero,List.getD_cons_succ,AOp.quiet,AOp.reads,true_and,and_true,decide_true,decide_false,and_self,lb2,lb3]
 have q5:=q4.lay f4.1 p5 n5 f5 d5
 have w5:=fun o h=>w4 o (Ev.lay m5 h)
 simp -dsimp only [YZ,XZ,SZ,EZ,astep,aun,AVal.cells,seval,DS_nil,DS_cons,seesAll,staysAll,abit,List.getD_cons_zero,List.getD_cons_succ,AOp.quiet,AOp.reads,true_and,and_true,decide_true,decide_false,and_self]
 refine DRX.nm rfl ?_
 exact DRX.ret (leaveR hd ha hn F1 hb hbd q5 (by simp) (w5 _ .done) fun H'=>by simp [aresult,ares,Env.get] <;> rfl)
end
end Go.Am.Rl
namespace Go.Am.Rl
open Go.Proofs
section
variable {ts:List TK} {H:AHeap} {pid:Nat} {st:PS} {D:Nat→Prop} {s1 s2:PS} {H1 H2:AHeap} {D1 D2:Nat→Prop} {bn br bt:Nat} {v:AVal} {n:ND}
theorem lay67m {bx:Nat} {st1:PS} {N:Nat} {p:Int} {a:Nat} {t:IT} (ht:TOk ts) (hd:st1.deep=st.deep+1) (ha:st.at_≤st1.at_) (hn:st.nodes.length≤st1.nodes.length) (F1:Fr H D H1 D) (hb:H1.get bx=some (.cells 59 [.ptr pid 0])) (hbd:¬ D bx) (hx:Upto ts pid 67 .expr N)
  {H2:AHeap} {D2:Nat→Prop} {s2:PS} (q2:Good1 ts pid H1 D st1 s2 H2 D2) (hN:rem ts s2≤N) (w2:∀ o,Ev ts (callN .expr s2 fun b s3=>lay s3 (node 10 [a,b] p) outE) o→Ev ts t o) {k:List AItem} :
  DRX Tryd.prog (kof k67) 74 (.code (.seq (.region true r67_13 [2]) .ret)::k) [(68,[.ptr bx 0])] [(1,.ptr bx 0),(3,.int .i64 p),(4,.int .i64 (a:Nat))] H2 (fun e ds T' H'=>DLeave Tryd.prog [.tmp 2] ds e T' H' (PostN ts pid H D st t)):=by
 have lb2:=load_cell (q2.fr.keep hb hbd).1 (o:=0) (v:=.ptr pid 0) rfl
 refine DRX.nm rfl ?_
 refine DRX.draw (by kernel_rfl) d67_13 ?_
 simp -dsimp only [m67_13,YZ,XZ,SZ,EZ,astep,aun,AVal.cells,seval,DS_nil,DS_cons,seesAll,staysAll,abit,List.getD_cons_zero,List.getD_cons_succ,AOp.quiet,AOp.reads,true_and,and_true,decide_true,decide_false,and_self,lb2]
 refine (hx _ hN _ _ q2.pr).mono ?_
 rintro o H3 (⟨e,p,ev3,rfl,b⟩ | ⟨a3,s3,D3,ev3,rfl,ha3,g3⟩)
 ·refine And.intro (leaveE hd F1 hb hbd (w2 _ (Ev.callE ev3)) (q2.bad ⟨rfl,b⟩)) ?_
  simp -dsimp only [YZ,XZ,SZ,EZ,astep,aun,AVal.cells,seval,DS_nil,DS_cons,seesAll,staysAll,abit,List.getD_cons_zero,List.getD_cons_succ,AOp.quiet,AOp.reads,true_and,and_true,decide_true,decide_false,and_self,lb2]
 have q3:=q2.trans g3
 have w3:=fun o h=>w2 o (Ev.call ev3 h)
 have lb3:=load_cell (q3.fr.keep hb hbd).1 (o:=0) (v:=.ptr pid 0) rfl
 obtain ⟨H4,e4⟩:∃ H4,H3.push (.cells 3 [.int .i64 (a:Nat),.int .i64 (a3:Nat)])=H4:=⟨_,rfl⟩
 obtain ⟨hr4,k4⟩:RowI H4 (.sl H3.next 0 2 (some 2)) [a,a3]∧Gro H3 H4:=row2v (x:=[a,a3]) (by simp) e4
 have q4:=q3.gro k4
 have w4:=w3
 have lb4:=load_cell (q4.fr.keep hb hbd).1 (o:=0) (v:=.ptr pid 0) rfl
 have f4:=q3.fresh (n:=H3.next) (c:=2) (Nat.le_refl _)
 have hfl:afill [.int .i64 0,.int .i64 0] [(0,1,.int .i64 (a:Nat)),(1,1,.int .i64 (a3:Nat))]=some [.int .i64 (a:Nat),.int .i64 (a3:Nat)]:=rfl
 have hf5:afill [.int .i64 0,.str ⟨#[]⟩,.int .i64 0,.flt .f64 0,.nils,.int .i64 0] [(0,1,.int .i64 10),(4,1,.sl H3.next 0 2 (some 2)),(5,1,.int .i64 p)]=some (ndC (.sl H3.next 0 2 (some 2)) (node 10 [a,a3] p)):=rfl
 simp -dsimp only [YZ,XZ,SZ,EZ,astep,aun,AVal.cells,seval,DS_nil,DS_cons,seesAll,staysAll,abit,List.getD_cons_zero,List.getD_cons_succ,AOp.quiet,AOp.reads,true_and,and_true,decide_true,decide_false,and_self,lb2,lb3,Env.parts,hfl,e4,lb4,hf5]
 refine (g39 (v:=.sl H3.next 0 2 (some 2)) (n:=node 10 [a,a3] p) q4.pr hr4 f4.2).mono ?_
 rintro o H5 (⟨m5,rfl,p5,f5⟩ | ⟨m5,rfl,D5,p5,n5,f5,d5⟩)
 ·refine And.intro (leaveE hd F1 hb hbd (w4 _ (Ev.layE m5)) (q4.bad ⟨rfl,_,_,p5,rfl,f5⟩)) ?_
  simp -dsimp only [YZ,XZ,SZ,EZ,astep,aun,AVal.cells,seval,DS_nil,DS_cons,seesAll,staysAll,abit,List.getD_cons_zero,List.getD_cons_succ,AOp.quiet,AOp.reads,true_and,and_true,decide_true,decide_false,and_self,lb2,lb3]
 have q5:=q4.lay f4.1 p5 n5 f5 d5
 have w5:=fun o h=>w4 o (Ev.lay m5 h)
 simp -dsimp only [YZ,XZ,SZ,EZ,astep,aun,AVal.cells,seval,DS_nil,DS_cons,seesAll,staysAll,abit,List.getD_cons_zero,List.getD_cons_succ,AOp.quiet,AOp.reads,true_and,and_true,decide_true,decide_false,and_self]
 refine DRX.nm rfl ?_
 exact DRX.ret (leaveR hd ha hn F1 hb hbd q5 (by simp) (w5 _ .done) fun H'=>by simp [aresult,ares,Env.get] <;> rfl)
theorem lay67s {bx:Nat} {st1:PS} {N:Nat} {p:Int} {sg:ByteArray} {a:Nat} {t:IT} (ht:TOk ts) (hd:st1.deep=st.deep+1) (ha:st.at_≤st1.at_) (hn:st.nodes.length≤st1.nodes.length) (F1:Fr H D H1 D) (hb:H1.get bx=some (.cells 59 [.ptr pid 0])) (hbd:¬ D bx) (hx:Upto ts pid 67 .expr N)
  {H2:AHeap} {D2:Nat→Prop} {s2:PS} (q2:Good1 ts pid H1 D st1 s2 H2 D2) (hN:rem ts s2≤N) (w2:∀ o,Ev ts (callN .expr s2 fun b s3=>lay s3 ⟨9,sg,0,0,[a,b],p⟩ outE) o→Ev ts t o) {k:List AItem} :
  DRX Tryd.prog (kof k67) 74 (.code (.seq (.region true r67_16 [2]) .ret)::k) [(68,[.ptr bx 0])] [(1,.ptr bx 0),(3,.int .i64 p),(4,.int .i64 (a:Nat)),(5,.str sg)] H2 (fun e ds T' H'=>DLeave Tryd.prog [.tmp 2] ds e T' H' (PostN ts pid H D st t)):=by
 have lb2:=load_cell (q2.fr.keep hb hbd).1 (o:=0) (v:=.ptr pid 0) rfl
 refine DRX.nm rfl ?_
 refine DRX.draw (by kernel_rfl) d67_16 ?_
 simp -dsimp only [m67_16,YZ,XZ,SZ,EZ,astep,aun,AVal.cells,seval,DS_nil,DS_cons,seesAll,staysAll,abit,List.getD_cons_zero,List.getD_cons_succ,AOp.quiet,AOp.reads,true_and,and_true,decide_true,decide_false,and_self,lb2]
 refine (hx _ hN _ _ q2.pr).mono ?_
 rintro o H3 (⟨e,p,ev3,rfl,b⟩ | ⟨a3,s3,D3,ev3,rfl,ha3,g3⟩)
 ·refine And.intro (leaveE hd F1 hb hbd (w2 _ (Ev.callE ev3)) (q2.bad ⟨rfl,b⟩)) ?_
  simp -dsimp only [YZ,XZ,SZ,EZ,astep,aun,AVal.cells,seval,DS_nil,DS_cons,seesAll,staysAll,abit,List.getD_cons_zero,List.getD_cons_succ,AOp.quiet,AOp.reads,true_and,and_true,decide_true,decide_false,and_self,lb2]
 have q3:=q2.trans g3
 have w3:=fun o h=>w2 o (Ev.call ev3 h)
 have lb3:=load_cell (q3.fr.keep hb hbd).1 (o:=0) (v:=.ptr pid 0) rfl
 obtain ⟨H4,e4⟩:∃ H4,H3.push (.cells 3 [.int .i64 (a:Nat),.int .i64 (a3:Nat)])=H4:=⟨_,rfl⟩
 obtain ⟨hr4,k4⟩:RowI H4 (.sl H3.next 0 2 (some 2)) [a,a3]∧Gro H3 H4:=row2v (x:=[a,a3]) (by simp) e4
 have q4:=q3.gro k4
 have w4:=w3
 have lb4:=load_cell (q4.fr.keep hb hbd).1 (o:=0) (v:=.ptr pid 0) rfl
 have f4:=q3.fresh (n:=H3.next) (c:=2) (Nat.le_refl _)
 have hfl:afill [.int .i64 0,.int .i64 0] [(0,1,.int .i64 (a:Nat)),(1,1,.int .i64 (a3:Nat))]=some [.int .i64 (a:Nat),.int .i64 (a3:Nat)]:=rfl
 have hf5:afill [.int .i64 0,.str ⟨#[]⟩,.int .i64 0,.flt .f64 0,.nils,.int .i64 0] [(0,1,.int .i64 9),(1,1,.str sg),(4,1,.sl H3.next 0 2 (some 2)),(5,1,.int .i64 p)]=some (ndC (.sl H3.next 0 2 (some 2)) ⟨9,sg,0,0,[a,a3],p⟩):=rfl
 simp -dsimp only [YZ,XZ,SZ,EZ,astep,aun,AVal.cells,seval,DS_nil,DS_cons,seesAll,staysAll,abit,List.getD_cons_zero,List.getD_cons_succ,AOp.quiet,AOp.reads,true_and,and_true,decide_true,decide_false,and_self,lb2,lb3,Env.parts,hfl,e4,lb4,hf5]
 refine (g39 (v:=.sl H3.next 0 2 (some 2)) (n:=⟨9,sg,0,0,[a,a3],p⟩) q4.pr hr4 f4.2).mono ?_
 rintro o H5 (⟨m5,rfl,p5,f5⟩ | ⟨m5,rfl,D5,p5,n5,f5,d5⟩)
 ·refine And.intro (leaveE hd F1 hb hbd (w4 _ (Ev.layE m5)) (q4.bad ⟨rfl,_,_,p5,rfl,f5⟩)) ?_
  simp -dsimp only [YZ,XZ,SZ,EZ,astep,aun,AVal.cells,seval,DS_nil,DS_cons,seesAll,staysAll,abit,List.getD_cons_zero,List.getD_cons_succ,AOp.quiet,AOp.reads,true_and,and_true,decide_true,decide_false,and_self,lb2,lb3]
 have q5:=q4.lay f4.1 p5 n5 f5 d5
 have w5:=fun o h=>w4 o (Ev.lay m5 h)
 simp -dsimp only [YZ,XZ,SZ,EZ,astep,aun,AVal.cells,seval,DS_nil,DS_cons,seesAll,staysAll,abit,List.getD_cons_zero,List.getD_cons_succ,AOp.quiet,AOp.reads,true_and,and_true,decide_true,decide_false,and_self]
 refine DRX.nm rfl ?_
 exact DRX.ret (leaveR hd ha hn F1 hb hbd q5 (by simp) (w5 _ .done) fun H'=>by simp [aresult,ares,Env.get] <;> rfl)
theorem match67 {bx:Nat} {st1:PS} {N:Nat} {p:Int} {a:Nat} {t:IT} (ht:TOk ts) (hd:st1.deep=st.deep+1) (ha:st.at_≤st1.at_) (hn:st.nodes.length≤st1.nodes.length) (F1:Fr H D H1 D) (hb:H1.get bx=some (.cells 59 [.ptr pid 0])) (hbd:¬ D bx) (hx:∀ n,n < N→Upto ts pid 67 .expr n)
  {H2:AHeap} {D2:Nat→Prop} {s2:PS} (q2:Good1 ts pid H1 D st1 s2 H2 D2) (hN:rem ts s2≤N) (hal:a < s2.nodes.length)
  (w2:∀ o,Ev ts (if seq (anyS ts s2 [w_eq,w_bang]) w_eq=true then callN .expr (adv s2) fun b s3=>lay s3 (node 10 [a,b] p) outE
    else if seq (anyS ts s2 [w_eq,w_bang]) w_bang=true then callN .expr (adv s2) fun b s3=>lay s3 ⟨9,anyS ts s2 [w_eq,w_bang],0,0,[a,b],p⟩ outE
    else outE a s2) o→Ev ts t o) :
  DRX Tryd.prog (kof k67) 74 [.code (.region false r67_11 [1,3,4,5,37,38]),.code (.cond (.t 38) (.seq (.region false r67_12 [1,3,4]) (.seq (.region true r67_13 [2]) .ret)) (.seq (.region false r67_14 [1,3,4,5,55]) (.cond (.t 55) (.seq (.region false r67_15 [1,3,4,5]) (.seq (.region true r67_16 [2]) .ret)) .skip))),.inBlock 0,.code (.seq (.region false r67_17 [2]) .ret)] [(68,[.ptr bx 0])] [(1,.ptr bx 0),(3,.int .i64 p),(4,.int .i64 (a:Nat)),(5,.str (anyS ts s2 [w_eq,w_bang])),(37,.str (anyS ts s2 [w_eq,w_bang]))] H2 (fun e ds T' H'=>DLeave Tryd.prog [.tmp 2] ds e T' H' (PostN ts pid H D st t)):=by
 have lb2:=load_cell (q2.fr.keep hb hbd).1 (o:=0) (v:=.ptr pid 0) rfl
 have adlt:∀ q:PS,q.at_+1 < ts.length→rem ts q≤N→rem ts (adv q) < N:=by
  intro q h1 h2; unfold rem at *; simp only [adv]; omega
 cases hc:seq (anyS ts s2 [w_eq,w_bang]) w_eq with
 | true=>
  have w2:=fun o h=>w2 o (Ev.t hc h)
  have hne:seq (anyS ts s2 [w_eq,w_bang]) empty=false:=by
   unfold seq at hc ⊢; rw [eq_of_beq hc]; kernel_rfl
  have hmid:=anyS_mid hne
  have hlt:=ht.next q2.pr.lt hmid
  unfold seq at hc
  refine DRX.go rfl ?_
  simp -dsimp only [XZ,SZ,EZ,astep,aun,AVal.cells,seval,abin,hc]
  refine DRX.ye rfl rfl ?_
  obtain ⟨l3,hw3,H3,e3,p3,f3⟩:=q2.pr.step ht (hmid)
  have q3:=q2.adv p3 f3
  have w3:=w2
  refine DRX.go rfl ?_
  simp -dsimp only [XZ,SZ,EZ,astep,aun,AVal.cells,seval,lb2,l3,abin,hw3,e3]
  exact lay67m ht hd ha hn F1 hb hbd (hx _ (adlt _ hlt hN)) q3 (Nat.le_refl _) w3
 | false=>
  have w2:=fun o h=>w2 o (Ev.f hc h)
  unfold seq at hc
  cases hc2:seq (anyS ts s2 [w_eq,w_bang]) w_bang with
  | true=>
   have w2:=fun o h=>w2 o (Ev.t hc2 h)
   have hne:seq (anyS ts s2 [w_eq,w_bang]) empty=false:=by
    unfold seq at hc2 ⊢; rw [eq_of_beq hc2]; kernel_rfl
   have hmid:=anyS_mid hne
   have hlt:=ht.next q2.pr.lt hmid
   unfold seq at hc2
   refine DRX.go rfl ?_
   simp -dsimp only [XZ,SZ,EZ,astep,aun,AVal.cells,seval,abin,hc]
   refine DRX.ne rfl rfl ?_
   refine DRX.go rfl ?_
   simp -dsimp only [XZ,SZ,EZ,astep,aun,AVal.cells,seval,abin,hc2]
   refine DRX.ye rfl rfl ?_
   obtain ⟨l3,hw3,H3,e3,p3,f3⟩:=q2.pr.step ht (hmid)
   have q3:=q2.adv p3 f3
   have w3:=w2
   refine DRX.go rfl ?_
   simp -dsimp only [XZ,SZ,EZ,astep,aun,AVal.cells,seval,lb2,l3,abin,hw3,e3]
   exact lay67s ht hd ha hn F1 hb hbd (hx _ (adlt _ hlt hN)) q3 (Nat.le_refl _) w3
  | false=>
   have w2:=fun o h=>w2 o (Ev.f hc2 h)
   unfold seq at hc2
   refine DRX.go rfl ?_
   simp -dsimp only [XZ,SZ,EZ,astep,aun,AVal.cells,seval,abin,hc]
   refine DRX.ne rfl rfl ?_
   refine DRX.go rfl ?_
   simp -dsimp only [XZ,SZ,EZ,astep,aun,AVal.cells,seval,abin,hc2]
   refine DRX.ne rfl rfl ?_
   refine DRX.nm rfl ?_
   refine DRX.go rfl ?_
   simp -dsimp only [XZ,SZ,EZ,astep,aun,AVal.cells,seval]
   refine DRX.nm rfl ?_
   exact DRX.ret (leaveR hd ha hn F1 hb hbd q2 hal (w2 _ .done) fun H'=>by simp [aresult,ares,Env.get] <;> rfl)
end
end Go.Am.Rl
namespace Go.Am.Rl
open Go.Proofs
section
variable {ts:List TK} {H:AHeap} {pid:Nat} {st:PS} {D:Nat→Prop} {s1 s2:PS} {H1 H2:AHeap} {D1 D2:Nat→Prop} {bn br bt:Nat} {v:AVal} {n:ND}
theorem either69 {N:Nat} (ht:TOk ts) (hx:∀ n,n < N→Upto ts pid 67 .expr n):Upto ts pid 69 .either N:=by
 have h78:Upto ts pid 78 .unary N:=fun st hr=>u78 ht fun n hn=>hx n (by omega)
 have h77:=u77 ht h78
 have h75:=u75 ht h77
 have h74:∀ n,n≤N→Upto ts pid 74 .append n:=u74 ht h75
 have h73:=u73 ht (h74 N (Nat.le_refl _))
 have h72:∀ n,n≤N→Upto ts pid 72 .both n:=u72 ht h73
 exact u69 ht (h72 N (Nat.le_refl _)) N (Nat.le_refl _)
theorem step67 {N:Nat} (ht:TOk ts) (hx:∀ n,n < N→Upto ts pid 67 .expr n):Upto ts pid 67 .expr N:=by
 intro st hN H D hp
 refine DCallX.of_body (fn:=Tryd.f67) (by kernel_rfl) c67 (by kernel_rfl) (by simp [f67]) ?_
 unfold f67
 simp only []
 have q0:=Good1.refl hp
 have w0:=fun o (h:Ev ts (rule ts (.expr) st) o)=>h
 obtain ⟨Ha,ea,ka,qa,ba,na⟩:=q0.two (.cells 59 [.ptr pid 0])
 have lba:=load_cell ba.get (o:=0) (v:=.ptr pid 0) rfl
 refine DRX.go rfl ?_
 simp -dsimp only [XZ,SZ,EZ,astep,aun,AVal.cells,seval,ea]
 refine DRX.go rfl ?_
 simp -dsimp only [XZ,SZ,EZ,astep,aun,AVal.cells,seval,lba]
 refine DCall.monoX (g33 qa.pr) ?_
 rintro a Hb ⟨rfl,kb⟩
 simp -dsimp only [XZ,SZ,EZ,astep,aun,AVal.cells,seval]
 have qb:=qa.gro kb
 have bb:=ba.gro kb
 have lbb:=load_cell bb.get (o:=0) (v:=.ptr pid 0) rfl
 have h200:=hp.deep
 by_cases hd:st.deep=200
 ·have w1:=fun o h=>w0 o (Ev.tp hd h)
  have lp:=(qb.pr.depth 0 (by omega)).1
  have hc:(((st.deep:Nat):Int)==200)=true:=by rw [hd]; rfl
  refine DRX.go rfl ?_
  simp -dsimp only [XZ,SZ,EZ,astep,aun,AVal.cells,seval,lbb,lp,abin,hc]
  refine DRX.ye rfl rfl ?_
  refine DRX.go rfl ?_
  simp -dsimp only [XZ,SZ,EZ,astep,aun,AVal.cells,seval]
  refine (g36 Hb 25 _).mono ?_
  rintro o H4 ⟨rfl,rfl⟩
  exact DLeave.pan' (.inl ⟨25,_,w1 _ .fail,qb.bad ⟨rfl,_,_,qb.pr,rfl,Fr.refl _ _⟩⟩)
 ·have w1:=fun o h=>w0 o (Ev.fp hd h)
  obtain ⟨lp,H1,s1,p1,f1⟩:=qb.pr.depth (st.deep+1) (by omega)
  have hc:(((st.deep:Nat):Int)==200)=false:=by
   rw [beq_eq_false_iff_ne]; omega
  have hw:IntKind.i64.wrap (((st.deep:Nat):Int)+1)=((st.deep+1:Nat):Int):=by
   rw [show (((st.deep:Nat):Int)+1)=((st.deep+1:Nat):Int) by omega]; exact wrap64 (by omega)
  refine DRX.go rfl ?_
  simp -dsimp only [XZ,SZ,EZ,astep,aun,AVal.cells,seval,lbb,lp,abin,hc]
  refine DRX.ne rfl rfl ?_
  refine DRX.go rfl ?_
  simp -dsimp only [XZ,SZ,EZ,astep,aun,AVal.cells,seval,lbb,lp,abin,hw,s1]
  have F1:Fr H D H1 D:=qb.fr.trans f1
  have b1:=bb.fr f1
  have q1:=Good1.refl p1
  have hd1:({ st with deep:=st.deep+1 }:PS).deep=st.deep+1:=rfl
  have hb:=b1.get
  have hbd:=b1.no
  refine DRX.go rfl ?_
  simp -dsimp only [XZ,SZ,EZ,astep,aun,AVal.cells,seval,LZ]
  have lb1:=load_cell hb (o:=0) (v:=.ptr pid 0) rfl
  refine DRX.go rfl ?_
  simp -dsimp only [XZ,SZ,EZ,astep,aun,AVal.cells,seval,lb1]
  refine DCall.monoX (g45 (s:=w_catch) q1.pr ht) ?_
  rintro a H2 ⟨rfl,p2,f2⟩
  simp -dsimp only [XZ,SZ,EZ,astep,aun,AVal.cells,seval]
  cases hk:isS ts { st with deep:=st.deep+1 } w_catch with
  | true=>
   rw [hk,if_pos rfl] at p2
   have q2:=q1.adv p2 f2
   have w2:∀ o,Ev ts (callN .expr (adv { st with deep:=st.deep+1 }) fun a s3=>lay s3 (node 17 [a] (pos ts st)) outE) o→Ev ts (rule ts .expr st) o:=fun o h=>w1 o (Ev.t hk h)
   have hlt:=p2.lt
   refine DRX.ye rfl rfl ?_
   refine DRX.nm rfl ?_
   exact DRX.only [1,3] <| lay67 ht hd1 (Nat.le_refl _) (Nat.le_refl _) F1 hb hbd (hx (rem ts (adv { st with deep:=st.deep+1 })) (by unfold rem at *; simp only [adv] at *; omega)) q2 (Nat.le_refl _) w2
  | false=>
   rw [hk,if_neg (by simp)] at p2
   have q2:Good1 ts pid H1 D { st with deep:=st.deep+1 } { st with deep:=st.deep+1 } H2 D:=⟨p2,rfl,Nat.le_refl _,f2,Nat.le_refl _⟩
   have w2:∀ o,Ev ts (callN .either { st with deep:=st.deep+1 } fun a s2=>if seq (anyS ts s2 [w_eq,w_bang]) w_eq=true then callN .expr (adv s2) fun b s3=>lay s3 (node 10 [a,b] (pos ts st)) outE
    else if seq (anyS ts s2 [w_eq,w_bang]) w_bang=true then callN .expr (adv s2) fun b s3=>lay s3 ⟨9,anyS ts s2 [w_eq,w_bang],0,0,[a,b],(pos ts st)⟩ outE
    else outE a s2) o→Ev ts (rule ts .expr st) o:=fun o h=>w1 o (Ev.f hk h)
   have b2:=b1.fr f2
   have lb2:=load_cell b2.get (o:=0) (v:=.ptr pid 0) rfl
   refine DRX.ne rfl rfl ?_
   refine DRX.go rfl ?_
   simp -dsimp only [XZ,SZ,EZ,astep,aun,AVal.cells,seval,lb2]
   have hN':rem ts { st with deep:=st.deep+1 }≤N:=hN
   refine (either69 ht hx _ hN' _ _ q2.pr).mono ?_
   rintro o H3 (⟨e,p,ev3,rfl,b⟩ | ⟨a3,s3,D3,ev3,rfl,ha3,g3⟩)
   ·exact leaveE hd1 F1 hb hbd (w2 _ (Ev.callE ev3)) (q2.bad ⟨rfl,b⟩)
   have q3:=q2.trans g3
   have w3:=fun o h=>w2 o (Ev.call ev3 h)
   simp -dsimp only [XZ,SZ,EZ,astep,aun,AVal.cells,seval]
   have b3:=b2.fr g3.fr
   have lb3:=load_cell b3.get (o:=0) (v:=.ptr pid 0) rfl
   obtain ⟨H4,e4⟩:∃ H4,H3.push (.cells 9 [.str ⟨#[61]⟩,.str ⟨#[33]⟩])=H4:=⟨_,rfl⟩
   obtain ⟨hs4,k4⟩:=rowS (l:=[w_eq,w_bang]) e4
   have hf1:afill [.str ⟨#[]⟩,.str ⟨#[]⟩] [(0,1,.str ⟨#[61]⟩),(1,1,.str ⟨#[33]⟩)]=some [.str ⟨#[61]⟩,.str ⟨#[33]⟩]:=rfl
   have q4:=q3.gro k4
   have w4:=w3
   refine DRX.go rfl ?_
   simp -dsimp only [XZ,SZ,EZ,astep,aun,AVal.cells,seval,lb3,Env.vals,Env.parts,hf1,e4]
   refine DCall.monoX (g70 q4.pr hs4 (by decide)) ?_
   rintro a H5 ⟨rfl,h5⟩
   simp -dsimp only [XZ,SZ,EZ,astep,aun,AVal.cells,seval]
   have q5:=q4.gro h5
   have w5:=w4
   refine DRX.go rfl ?_
   simp -dsimp only [XZ,SZ,EZ,astep,aun,AVal.cells,seval]
   refine DRX.nm rfl ?_
   exact match67 ht hd1 (Nat.le_refl _) (Nat.le_refl _) F1 hb hbd hx q5 (by have:=q5.at_; unfold rem at *; simp only at this; omega) ha3 w5
theorem u67 (ht:TOk ts):∀ N,Upto ts pid 67 .expr N:=by
 intro N
 induction N using Nat.strongRecOn with
 | _ N ih=>exact step67 ht ih
end
end Go.Am.Rl
namespace Go.Am.Rl
open Go.Proofs
theorem drop_flatn {k:Nat}:∀ (l:List (List AVal)),(∀ c ∈ l,c.length=k)→∀ i,l.flatten.drop (i * k)=(l.drop i).flatten
 | [],_,i=>by simp
 | c::l,hl,0=>by simp
 | c::l,hl,i+1=>by
  have hc:=hl c (List.mem_cons_self ..)
  rw [List.flatten_cons,List.drop_succ_cons,← drop_flatn l (fun c h=>hl c (List.mem_cons_of_mem _ h)) i,Nat.succ_mul,List.drop_append,hc]
  have e1:List.drop (i * k+k) c=[]:=List.drop_eq_nil_of_le (by omega)
  rw [e1,List.nil_append,Nat.add_sub_cancel]
theorem load_atn {H:AHeap} {id o k e:Nat} {t c r:List AVal} (hk:0 < k) (h:H.get id=some (.cells e t)) (hd:t.drop o=c++r) (hc:c.length=k):aload H (some k) (.ptr id o)=some (.agg c):=by
 have hl:(t.drop o).length=t.length - o:=List.length_drop
 have hl2:(t.drop o).length=k+r.length:=by rw [hd,List.length_append,hc]
 simp only [aload,cellsAt,h]
 rw [if_pos (by omega)]
 obtain ⟨a,z,hz⟩:∃ a z,t.drop o=a::z:=by
  cases hz:t.drop o with
  | nil=>rw [hz] at hl2; simp at hl2; omega
  | cons a z=>exact ⟨a,z,rfl⟩
 have hlen:k≤(a::z).length:=by rw [← hz]; omega
 rw [hz]
 show (if k≤(a::z).length then some (AVal.agg (List.take k (a::z))) else none)=_
 rw [if_pos hlen,← hz,hd,List.take_append_of_le_length (by omega),List.take_of_length_le (by omega)]
section
variable {ts:List TK} {H:AHeap} {pid:Nat} {st:PS} {D:Nat→Prop} {s1 s2:PS} {H1 H2:AHeap} {D1 D2:Nat→Prop} {bn br bt:Nat} {v:AVal} {n:ND}
theorem PR.nodeAt (hp:PR ts H pid st D) {i:Nat} (hi:i < st.nodes.length) (d:ND):∃ xn id o v,aload H none (.ptr pid 3)=some xn∧(∀ H',aiaddr H' 6 xn (.int .i64 (i:Nat))=some (.ptr id o))∧aload H (some 6) (.ptr id o)=some (.agg (ndC v (st.nodes.getD i d)))∧(∃ l,RowI H v l)∧∃ b,H.get id=some b:=by
 obtain ⟨⟨xt,xn,hb,htk,⟨vs,hvs,hgr,hrow⟩,hx,ho⟩,_⟩:=hp
 have l3:=load_cell hb (o:=3) (v:=xn) rfl
 obtain ⟨w,hw⟩:∃ w,vs[i]? = some w:=⟨_,List.getElem?_eq_getElem (by omega)⟩
 obtain ⟨m,hm⟩:∃ m,st.nodes[i]? = some m:=⟨_,List.getElem?_eq_getElem hi⟩
 have hgd:st.nodes.getD i d=m:=by rw [List.getD_eq_getElem?_getD,hm]; rfl
 obtain ⟨hlen,⟨rfl,h0⟩ | ⟨id,rfl,hbk⟩⟩:=hgr
 ·omega
 ·have hk:∀ c ∈ List.zipWith ndC vs st.nodes,c.length=6:=by
   intro c hc
   obtain ⟨j,hj,rfl⟩:=List.mem_iff_getElem.mp hc
   rw [List.getElem_zipWith]; rfl
  have hz:(List.zipWith ndC vs st.nodes)[i]? = some (ndC w m):=by rw [List.getElem?_zipWith,hw,hm]
  have hzl:i < (List.zipWith ndC vs st.nodes).length:=(List.getElem?_eq_some_iff.mp hz).1
  have hd:(List.zipWith ndC vs st.nodes).drop i=ndC w m::(List.zipWith ndC vs st.nodes).drop (i+1):=by
   rw [List.drop_eq_getElem_cons hzl]
   rw [List.getElem?_eq_getElem hzl] at hz; injection hz with hz; rw [hz]
  refine ⟨_,id,i * 6,w,l3,fun H'=> ?_,?_,⟨_,(hrow i m w hm hw).1⟩,_,hbk⟩
  ·simp only [aiaddr]
   rw [if_pos (by omega)]; simp
  ·rw [hgd]
   refine load_atn (r:=((List.zipWith ndC vs st.nodes).drop (i+1)).flatten) (by omega) hbk ?_ (by rfl)
   rw [drop_flatn _ hk,hd,List.flatten_cons]
theorem u46 {N:Nat} (ht:TOk ts):Upto ts pid 46 .named N:=by
 intro st hN H D hp
 have hx:=u67 (pid:=pid) ht (rem ts st)
 refine DCallX.of_body (fn:=Tryd.f46) (by kernel_rfl) c46 (by kernel_rfl) (by simp [f46]) ?_
 unfold f46
 simp only []
 have q0:=Good1.refl hp
 have w0:=fun o (h:Ev ts (rule ts (.named) st) o)=>h
 have w0:∀ o,Ev ts (kind ts st 1 fun t st1=>must ts st1 w_lp fun st2=>callL (.list w_rp 16) st2 fun l st3=>pass1 (.tail ⟨21,t.s,0,0,[],t.p⟩ l) st3) o→Ev ts (rule ts .named st) o:=fun o h=>h
 refine DRX.go rfl ?_
 simp -dsimp only [XZ,SZ,EZ,astep,aun,AVal.cells,seval]
 refine DRX.go rfl ?_
 simp -dsimp only [XZ,SZ,EZ,astep,aun,AVal.cells,seval]
 refine (g35 (d:=1) q0.pr ht (by decide)).mono ?_
 rintro o H1 (⟨m1,rfl,p1,f1⟩ | ⟨m1,rfl,p1,f1⟩)
 rotate_left
 ·exact DLeave.pan' (.inl ⟨24,_,w0 _ (Ev.kindE m1),q0.bad ⟨rfl,_,_,p1,rfl,f1⟩⟩)
 have q1:=q0.adv p1 f1
 have w1:=fun o h=>w0 o (Ev.kind m1 h)
 simp -dsimp only [XZ,SZ,EZ,astep,aun,AVal.cells,seval]
 obtain ⟨Hx,H2,ex,e2,k2,g2,n2⟩:=new31 H1 (tk ts st.at_)
 have b2:Prv H H2 D H1.next _:=Prv.made q1 g2
 have q2:=q1.gro k2
 have w2:=w1
 have hz:tok0=[.int .i64 0,.str ⟨#[]⟩,.int .i64 0,.flt .f64 0,.int .i64 0]:=rfl
 simp -dsimp only [XZ,SZ,EZ,astep,aun,AVal.cells,seval,← hz,ex,e2]
 refine DRX.go rfl ?_
 simp -dsimp only [XZ,SZ,EZ,astep,aun,AVal.cells,seval]
 refine (g34 (s:=w_lp) q2.pr ht).mono ?_
 rintro o H3 (⟨m3,rfl,p3,f3⟩ | ⟨m3,rfl,p3,f3⟩)
 rotate_left
 ·exact DLeave.pan' (.inl ⟨24,_,w2 _ (Ev.mustE m3),q2.bad ⟨rfl,_,_,p3,rfl,f3⟩⟩)
 have q3:=q2.adv p3 f3
 have w3:=fun o h=>w2 o (Ev.must m3 h)
 simp -dsimp only [XZ,SZ,EZ,astep,aun,AVal.cells,seval]
 have b3:=b2.fr f3
 have hN3:rem ts (adv (adv st))≤rem ts st:=by unfold rem; simp only [adv]; omega
 refine DRX.go rfl ?_
 simp -dsimp only [XZ,SZ,EZ,astep,aun,AVal.cells,seval]
 refine (u54 (s:=w_rp) (most:=16) ht hx hN3 _ _ q3.pr).mono ?_
 rintro o H4 (⟨e,p,ev4,rfl,b⟩ | ⟨a4,s4,D4,ev4,v4,rfl,hv4,hvn4,hvd4,hl4,g4⟩)
 ·exact DLeave.pan' (.inl ⟨e,p,w3 _ (Ev.callE ev4),q3.bad ⟨rfl,b⟩⟩)
 have q4:=q3.trans g4
 have w4:=fun o h=>w3 o (Ev.call ev4 h)
 simp -dsimp only [XZ,SZ,EZ,astep,aun,AVal.cells,seval]
 have b4:=b3.fr g4.fr
 have ls:=load_cell b4.get (o:=1) (v:=.str (tk ts st.at_).s) rfl
 have lp:=load_cell b4.get (o:=4) (v:=.int .i64 (tk ts st.at_).p) rfl
 have hf5:afill [.int .i64 0,.str ⟨#[]⟩,.int .i64 0,.flt .f64 0,.nils,.int .i64 0] [(0,1,.int .i64 21),(1,1,.str (tk ts st.at_).s),(5,1,.int .i64 (tk ts st.at_).p)]=some (ndC .nils ⟨21,(tk ts st.at_).s,0,0,[],(tk ts st.at_).p⟩):=rfl
 have hat:=TOk.at_ ht q4.pr
 refine DRX.go rfl ?_
 simp -dsimp only [XZ,SZ,EZ,astep,aun,AVal.cells,seval,ls,lp,Env.parts,hf5]
 refine (u55 (N:=rem ts st) ht hx (by have:=q4.at_; unfold rem; omega) q4.pr hv4.row hvd4 (by omega)).mono ?_
 rintro o H5 ho
 rcases ho with ⟨e,p,ev,rfl,b⟩ | ⟨i,st',D',ev,rfl,hi,g⟩
 ·exact DLeave.pan' (.inl ⟨e,p,w4 _ ev.pass,q4.bad ⟨rfl,b⟩⟩)
 simp -dsimp only [XZ,SZ,EZ,astep,aun,AVal.cells,seval]
 refine DRX.nm rfl ?_
 exact DRX.retv ⟨_,by simp [aresult,ares,Env.get] <;> rfl,.inr ⟨i,st',D',w4 _ ev.pass,rfl,hi,q4.trans g⟩⟩
theorem loopF38 {p:Int} {t:IT} {k k':List AItem} {Q:AEnd→List ADef→Env→AHeap→Prop} (hk:aexitTo 0 k=some k') (ht:TOk ts) (hp:PR ts H pid st D)
  (hbad:∀ T v H',(∃ e p,v=flt1 e p∧Ev ts t (.err e p)∧Bad ts pid H D st e p (.pan v) H')→Q (.pan v) [] T H')
  (hend:∀ H' D' s l v,Good1 ts pid H D st s H' D'→GI H' v l→(∀ j,rid v=some j→H.next≤j)→(∀ j,rid v=some j→¬ D' j)→(∃ a r,l=a::r∧a < s.nodes.length)→(∀ o,Ev ts (lay s (node 20 l p) fun c st1=>must ts st1 w_dot fun st2=>lay st2 ⟨23,(s.nodes.getD (l.headD 0) (node 0 [] 0)).s,(s.nodes.getD (l.headD 0) (node 0 [] 0)).n,0,[c],p⟩ fun i st3=>.done (.n i) st3) o→Ev ts t o)→DRX Tryd.prog (kof k38) 45 k' [] [(0,.ptr pid 0),(3,.int .i64 p),(4,v)] H' Q) :
  ∀ (n:Nat) (H1:AHeap) (D1:Nat→Prop) (s0:PS) (l:List Nat) (v:AVal),rem ts s0≤n→Good1 ts pid H D st s0 H1 D1→GI H1 v l→(∀ j,rid v=some j→H.next≤j)→(∀ j,rid v=some j→¬ D1 j)→l.length≤s0.at_+1→(∃ a r,l=a::r∧a < s0.nodes.length)→(∀ o,Ev ts (rule ts (.functionL l p) s0) o→Ev ts t o)→
   DRX Tryd.prog (kof k38) 45 (.code l38_0::.inLoop l38_0::k) [] [(0,.ptr pid 0),(3,.int .i64 p),(4,v)] H1 Q:=by
 intro n
 induction n with
 | zero=>
  intro H1 D1 s0 l v hr q
  have:=q.pr.lt
  unfold rem at hr; omega
 | succ n ih=>
  intro H1 D1 s0 l v hr q0 hv hvn hvd hll hfst w0
  refine DRX.go rfl ?_
  simp -dsimp only [XZ,SZ,EZ,astep,aun,AVal.cells,seval]
  refine DCall.monoX (g45 (s:=w_semi) q0.pr ht) ?_
  rintro a H2 ⟨rfl,p2,f2⟩
  simp -dsimp only [XZ,SZ,EZ,astep,aun,AVal.cells,seval]
  obtain ⟨hv2,hvd2⟩:=hv.fr f2 hvd
  cases hc:isS ts s0 w_semi with
  | false=>
   rw [hc,if_neg (by simp)] at p2
   refine DRX.ne rfl rfl ?_
   refine DRX.exit (k':=k') (by simpa [aexitTo] using hk) ?_
   exact DRX.only [0,3,4] (hend H2 D1 s0 l v ⟨p2,q0.deep,q0.at_,q0.fr.trans f2,q0.nds⟩ hv2 hvn hvd2 hfst (fun o h=>w0 _ (Ev.f hc h)))
  | true=>
   rw [hc,if_pos rfl] at p2
   have q2:=q0.adv p2 f2
   have w2:=fun o h=>w0 o (Ev.t hc h)
   have h1:s0.at_+1 < ts.length:=p2.lt
   have hs:=ht.short
   refine DRX.ye rfl rfl ?_
   refine DRX.go rfl ?_
   simp -dsimp only [XZ,SZ,EZ,astep,aun,AVal.cells,seval]
   refine (u46 (N:=rem ts (adv s0)) ht (adv s0) (Nat.le_refl _) _ _ q2.pr).mono ?_
   rintro o H5 (⟨e,p',ev5,rfl,b⟩ | ⟨a5,s5,D5,ev5,rfl,ha5,g5⟩)
   ·exact hbad _ _ _ ⟨e,p',rfl,w2 _ (Ev.callE ev5),q2.bad ⟨rfl,b⟩⟩
   have q5:=q2.trans g5
   have w5:=fun o h=>w2 o (Ev.call ev5 h)
   obtain ⟨hv5,hvd5⟩:=hv2.fr g5.fr hvd2
   have hat5:=TOk.at_ ht q5.pr
   have hg5:s0.at_+1≤s5.at_:=g5.at_
   obtain ⟨H6,v7,H7,e6,e7,hv7,q7,hvn7,hvd7,_⟩:=app1 (a:=a5) q5 hv5 hvn hvd5 (by omega)
   have hf1:afill [.int .i64 0] [(0,1,.int .i64 (a5:Nat))]=some [.int .i64 (a5:Nat)]:=rfl
   simp -dsimp only [XZ,SZ,EZ,astep,aun,AVal.cells,seval,Env.parts,hf1,e6,e7]
   refine DRX.nm rfl ?_
   refine DRX.inLoop ?_
   obtain ⟨af,rf,rfl,haf⟩:=hfst
   exact ih H7 D5 s5 _ v7 (by unfold rem at hr ⊢; omega) q7 hv7 hvn7 hvd7 (by simp at hll ⊢; omega) ⟨af,rf++[a5],rfl,Nat.lt_of_lt_of_le haf g5.nds⟩ (fun o h=>w5 o (Ev.pass h))
theorem u38 {N:Nat} (ht:TOk ts):Upto ts pid 38 .function N:=by
 intro st hN H D hp
 refine DCallX.of_body (fn:=Tryd.f38) (by kernel_rfl) c38 (by kernel_rfl) (by simp [f38]) ?_
 unfold f38
 simp only []
 have q0:=Good1.refl hp
 have w0:=fun o (h:Ev ts (rule ts (.function) st) o)=>h
 refine DRX.go rfl ?_
 simp -dsimp only [XZ,SZ,EZ,astep,aun,AVal.cells,seval]
 refine DRX.go rfl ?_
 simp -dsimp only [XZ,SZ,EZ,astep,aun,AVal.cells,seval]
 refine DCall.monoX (g33 q0.pr) ?_
 rintro a H1 ⟨rfl,h1⟩
 simp -dsimp only [XZ,SZ,EZ,astep,aun,AVal.cells,seval]
 have q1:=q0.gro h1
 have w1:=w0
 refine DRX.go rfl ?_
 simp -dsimp only [XZ,SZ,EZ,astep,aun,AVal.cells,seval]
 refine (u46 ht st hN _ _ q1.pr).mono ?_
 rintro o H2 (⟨e,p,ev2,rfl,b⟩ | ⟨a2,s2,D2,ev2,rfl,ha2,g2⟩)
 ·exact DLeave.pan' (.inl ⟨e,p,w1 _ (Ev.callE ev2),q1.bad ⟨rfl,b⟩⟩)
 have q2:=q1.trans g2
 have w2:=fun o h=>w1 o (Ev.call ev2 h)
 simp -dsimp only [XZ,SZ,EZ,astep,aun,AVal.cells,seval]
 obtain ⟨H3,e3⟩:∃ H3,H2.push (.cells 3 [.int .i64 (a2:Nat)])=H3:=⟨_,rfl⟩
 obtain ⟨hr3,k3⟩:RowI H3 (.sl H2.next 0 1 (some 1)) [a2]∧Gro H2 H3:=row2v (x:=[a2]) (by simp) e3
 have hg3:GI H3 (.sl H2.next 0 1 (some 1)) [a2]:=.inr ⟨H2.next,some 1,rfl,.inr rfl,by rw [← e3,AHeap.get_push,if_pos rfl]; rfl⟩
 have hf1:afill [.int .i64 0] [(0,1,.int .i64 (a2:Nat))]=some [.int .i64 (a2:Nat)]:=rfl
 have f1:=q2.fresh (n:=H2.next) (c:=1) (Nat.le_refl _)
 simp -dsimp only [XZ,SZ,EZ,astep,aun,AVal.cells,seval,Env.parts,hf1,e3]
 refine DRX.nm rfl ?_
 refine DRX.loop ?_
 refine loopF38 (t:=rule ts .function st) rfl ht hp ?_ ?_ _ H3 D2 s2 [a2] _ (Nat.le_refl _) (q2.gro k3) hg3 f1.1 f1.2 (by simp) ⟨a2,[],rfl,ha2⟩ (fun o h=>w2 o (Ev.pass h))
 ·rintro T v H' ⟨e,p,rfl,ev,b⟩
  exact DLeave.pan' (.inl ⟨e,p,ev,b⟩)
 ·rintro H3 D3 s3 l v q3 hv hvn hvd ⟨af,rf,rfl,haf⟩ w3
  obtain ⟨xn,id,o,w,l3,ix,lx,⟨ll,hw⟩,bb,hbb⟩:=q3.pr.nodeAt haf (node 0 [] 0)
  obtain ⟨vid,vc,rfl,hvc,hvb⟩:∃ id c,v = .sl id 0 (af::rf).length c∧(c=none∨c=some (af::rf).length)∧H3.get id=some (.cells 3 (intsC (af::rf))):=by
   rcases hv with ⟨_,h⟩ | h
   ·cases h
   ·exact h
  have ixv:∀ H',aiaddr H' 1 (.sl vid 0 (af::rf).length vc) (.int .i64 0)=some (.ptr vid 0):=by
   intro H'
   simp only [aiaddr]
   rw [if_pos (by simp)]; simp
  have lv:=load_cell hvb (o:=0) (v:=.int .i64 (af:Nat)) rfl
  obtain ⟨H4,e4,k4,q4,b4,n4⟩:=q3.two (.cells 42 nd0C)
  have hvb4:=k4.get hvb
  have lv4:=load_cell hvb4 (o:=0) (v:=.int .i64 (af:Nat)) rfl
  have l34:aload H4 none (.ptr pid 3)=some xn:=by
   obtain ⟨⟨xt,xn',hb,_⟩,_⟩:=q3.pr
   have e1:=load_cell hb (o:=3) (v:=xn') rfl
   rw [e1] at l3; injection l3 with l3; subst l3
   exact load_cell (k4.get hb) (o:=3) rfl
  have lx4:aload H4 (some 6) (.ptr id o)=some (.agg (ndC w (s3.nodes.getD af (node 0 [] 0)))):=by
   rw [← lx]
   simp only [aload,cellsAt,hbb,k4.get hbb]
  have s5:=store_all (n:=6) b4.get (new:=ndC w (s3.nodes.getD af (node 0 [] 0))) rfl (ones_nd hw _) rfl
  have q5:=q4.own b4.new b4.no (.cells 42 (ndC w (s3.nodes.getD af (node 0 [] 0))))
  have b5:=b4.set (c:=.cells 42 (ndC w (s3.nodes.getD af (node 0 [] 0))))
  have hvb5:(H4.set H3.next (.cells 42 (ndC w (s3.nodes.getD af (node 0 [] 0))))).get vid=some (.cells 3 (intsC (af::rf))):=by
   rw [AHeap.get_set,if_neg (by have:=AHeap.get_lt hvb; omega)]; exact hvb4
  generalize hH5:H4.set H3.next (.cells 42 (ndC w (s3.nodes.getD af (node 0 [] 0))))=H5 at s5 q5 b5 hvb5
  unfold nd0C at e4
  refine DRX.nm rfl ?_
  refine DRX.draw (by kernel_rfl) d38_5 ?_
  simp -dsimp only [m38_5,YZ,XZ,SZ,EZ,astep,aun,AVal.cells,seval,DS_nil,DS_cons,seesAll,staysAll,abit,List.getD_cons_zero,List.getD_cons_succ,AOp.quiet,AOp.reads,true_and,and_true,decide_true,decide_false,and_self,l3,ixv,lv,ix,lx,e4,lv4,l34,lx4,s5]
  have hr5:RowI H5 (.sl vid 0 (af::rf).length vc) (af::rf):=.inr ⟨vid,vc,rfl,hvb5⟩
  have hf6:=ndC_fill hr5 20 (pos ts st)
  have w5:=w3
  refine DRX.go rfl ?_
  simp -dsimp only [XZ,SZ,EZ,astep,aun,AVal.cells,seval,Env.parts,hf6]
  have vn:(∀ j,rid (.sl vid 0 (af::rf).length vc)=some j→H.next≤j)∧∀ j,rid (.sl vid 0 (af::rf).length vc)=some j→¬ D3 j:=⟨hvn,hvd⟩
  refine (g39 (v:=.sl vid 0 (af::rf).length vc) (n:=node 20 (af::rf) (pos ts st)) q5.pr (hr5) (vn).2).mono ?_
  rintro o H6 (⟨m6,rfl,p6,f6⟩ | ⟨m6,rfl,D6,p6,n6,f6,d6⟩)
  ·exact DLeave.pan' (.inl ⟨2,_,w5 _ (Ev.layE m6),q5.bad ⟨rfl,_,_,p6,rfl,f6⟩⟩)
  have q6:=q5.lay (vn).1 p6 n6 f6 d6
  have w6:=fun o h=>w5 o (Ev.lay m6 h)
  simp -dsimp only [XZ,SZ,EZ,astep,aun,AVal.cells,seval]
  have b6:Prv H H6 D6 H3.next (.cells 42 (ndC w (s3.nodes.getD af (node 0 [] 0)))):=⟨(f6 _ b5.lt b5.no).trans b5.get,fun e=>by
   rcases d6 _ e with e | e | e
   ·exact b5.no e
   ·simp only [rid,Option.some.injEq] at e; have:=AHeap.get_lt hvb; omega
   ·have:=b5.lt; omega,b5.new⟩
  refine DRX.go rfl ?_
  simp -dsimp only [XZ,SZ,EZ,astep,aun,AVal.cells,seval]
  refine (g34 (s:=w_dot) q6.pr ht).mono ?_
  rintro o H7 (⟨m7,rfl,p7,f7⟩ | ⟨m7,rfl,p7,f7⟩)
  rotate_left
  ·exact DLeave.pan' (.inl ⟨24,_,w6 _ (Ev.mustE m7),q6.bad ⟨rfl,_,_,p7,rfl,f7⟩⟩)
  have q7:=q6.adv p7 f7
  have w7:=fun o h=>w6 o (Ev.must m7 h)
  simp -dsimp only [XZ,SZ,EZ,astep,aun,AVal.cells,seval]
  have b7:=b6.fr f7
  have l71:=load_cell b7.get (o:=1) (v:=.str (s3.nodes.getD af (node 0 [] 0)).s) rfl
  have l72:=load_cell b7.get (o:=2) (v:=.int .i64 (s3.nodes.getD af (node 0 [] 0)).n) rfl
  obtain ⟨H8,e8⟩:∃ H8,H7.push (.cells 3 [.int .i64 (s3.nodes.length:Nat)])=H8:=⟨_,rfl⟩
  obtain ⟨hr8,k8⟩:RowI H8 (.sl H7.next 0 1 (some 1)) [s3.nodes.length]∧Gro H7 H8:=row2v (x:=[s3.nodes.length]) (by simp) e8
  have hf8:afill [.int .i64 0] [(0,1,.int .i64 (s3.nodes.length:Nat))]=some [.int .i64 (s3.nodes.length:Nat)]:=rfl
  have f8:=q7.fresh (n:=H7.next) (c:=1) (Nat.le_refl _)
  have q8:=q7.gro k8
  have w8:=w7
  have hf9:afill [.int .i64 0,.str ⟨#[]⟩,.int .i64 0,.flt .f64 0,.nils,.int .i64 0] [(0,1,.int .i64 23),(1,1,.str (s3.nodes.getD af (node 0 [] 0)).s),(2,1,.int .i64 (s3.nodes.getD af (node 0 [] 0)).n),(4,1,.sl H7.next 0 1 (some 1)),(5,1,.int .i64 (pos ts st))]=some (ndC (.sl H7.next 0 1 (some 1)) ⟨23,(s3.nodes.getD af (node 0 [] 0)).s,(s3.nodes.getD af (node 0 [] 0)).n,0,[s3.nodes.length],pos ts st⟩):=rfl
  refine DRX.go rfl ?_
  simp -dsimp only [XZ,SZ,EZ,astep,aun,AVal.cells,seval,l71,l72,Env.parts,hf8,e8,hf9]
  refine (g39 (v:=.sl H7.next 0 1 (some 1)) (n:=⟨23,(s3.nodes.getD af (node 0 [] 0)).s,(s3.nodes.getD af (node 0 [] 0)).n,0,[s3.nodes.length],pos ts st⟩) q8.pr (hr8) (f8).2).mono ?_
  rintro o H9 (⟨m9,rfl,p9,f9⟩ | ⟨m9,rfl,D9,p9,n9,f9,d9⟩)
  ·exact DLeave.pan' (.inl ⟨2,_,w8 _ (Ev.layE m9),q8.bad ⟨rfl,_,_,p9,rfl,f9⟩⟩)
  have q9:=q8.lay (f8).1 p9 n9 f9 d9
  have w9:=fun o h=>w8 o (Ev.lay m9 h)
  simp -dsimp only [XZ,SZ,EZ,astep,aun,AVal.cells,seval]
  refine DRX.nm rfl ?_
  exact DRX.retv ⟨_,by simp [aresult,ares,Env.get] <;> rfl,.inr ⟨_,_,D9,w9 _ .done,rfl,by simp,q9⟩⟩
end
end Go.Am.Rl
namespace Go.Am.Rl
open Go.Proofs
section
variable {ts:List TK} {H:AHeap} {pid:Nat} {st:PS} {D:Nat→Prop} {s1 s2:PS} {H1 H2:AHeap} {D1 D2:Nat→Prop} {bn br bt:Nat} {v:AVal} {n:ND}
theorem loopM21 {p:Int} {sg:ByteArray} {t:IT} {k k':List AItem} {Q:AEnd→List ADef→Env→AHeap→Prop} (hk:aexitTo 0 k=some k') (ht:TOk ts) (hp:PR ts H pid st D)
  (hbad:∀ T v H',(∃ e p,v=flt1 e p∧Ev ts t (.err e p)∧Bad ts pid H D st e p (.pan v) H')→Q (.pan v) [] T H')
  (hend:∀ H' D' s l v,Good1 ts pid H D st s H' D'→GI H' v l→(∀ j,rid v=some j→H.next≤j)→(∀ j,rid v=some j→¬ D' j)→(∀ o,Ev ts (lay s ⟨24,sg,0,0,l,p⟩ fun i st1=>.done (.n i) st1) o→Ev ts t o)→DRX Tryd.prog (kof k21) 43 k' [] [(0,.ptr pid 0),(3,.int .i64 p),(5,.str sg),(6,v)] H' Q) :
  ∀ (n:Nat) (H1:AHeap) (D1:Nat→Prop) (s0:PS) (l:List Nat) (v:AVal),rem ts s0≤n→Good1 ts pid H D st s0 H1 D1→GI H1 v l→(∀ j,rid v=some j→H.next≤j)→(∀ j,rid v=some j→¬ D1 j)→l.length≤s0.at_→(∀ o,Ev ts (rule ts (.moduleL sg p l) s0) o→Ev ts t o)→
   DRX Tryd.prog (kof k21) 43 (.code l21_0::.inLoop l21_0::k) [] [(0,.ptr pid 0),(3,.int .i64 p),(5,.str sg),(6,v)] H1 Q:=by
 intro n
 induction n with
 | zero=>
  intro H1 D1 s0 l v hr q
  have:=q.pr.lt
  unfold rem at hr; omega
 | succ n ih=>
  intro H1 D1 s0 l v hr q0 hv hvn hvd hll w0
  have hfl0:afld 0 none (.agg (tk ts s0.at_).cells)=some (.int .i64 (tk ts s0.at_).k):=rfl
  refine DRX.go rfl ?_
  simp -dsimp only [XZ,SZ,EZ,astep,aun,AVal.cells,seval]
  refine DCall.monoX (g37 q0.pr) ?_
  rintro a H2 ⟨rfl,k2⟩
  have q2:=q0.gro k2
  obtain ⟨hv2,hvd2⟩:=hv.fr (k2.fr _) hvd
  cases hc:((tk ts s0.at_).k==8) with
  | true=>
   have hn:((tk ts s0.at_).k != 8)=false:=by rw [bne,hc]; rfl
   have w2:=fun o h=>w0 o (Ev.f hn h)
   simp -dsimp only [XZ,SZ,EZ,astep,aun,AVal.cells,seval,hfl0,abin,hn]
   refine DRX.ne rfl rfl ?_
   refine DRX.exit (k':=k') (by simpa [aexitTo] using hk) ?_
   exact DRX.only [0,3,5,6] (hend H2 D1 s0 l v q2 hv2 hvn hvd2 w2)
  | false=>
   have hn:((tk ts s0.at_).k != 8)=true:=by rw [bne,hc]; rfl
   have w2:=fun o h=>w0 o (Ev.t hn h)
   have hs:=ht.short
   simp -dsimp only [XZ,SZ,EZ,astep,aun,AVal.cells,seval,hfl0,abin,hn]
   refine DRX.ye rfl rfl ?_
   refine DRX.go rfl ?_
   simp -dsimp only [XZ,SZ,EZ,astep,aun,AVal.cells,seval]
   refine (u38 (N:=rem ts s0) ht s0 (Nat.le_refl _) _ _ q2.pr).mono ?_
   rintro o H5 (⟨e,p',ev5,rfl,b⟩ | ⟨a5,s5,D5,ev5,rfl,ha5,g5⟩)
   ·exact hbad _ _ _ ⟨e,p',rfl,w2 _ (Ev.callE ev5),q2.bad ⟨rfl,b⟩⟩
   have q5:=q2.trans g5
   have w5:=fun o h=>w2 o (Ev.call ev5 h)
   obtain ⟨hv5,hvd5⟩:=hv2.fr g5.fr hvd2
   have hat5:=TOk.at_ ht q5.pr
   have hg5:s0.at_ < s5.at_:=ev5.function_lt
   obtain ⟨H6,v7,H7,e6,e7,hv7,q7,hvn7,hvd7,_⟩:=app1 (a:=a5) q5 hv5 hvn hvd5 (by omega)
   have hf1:afill [.int .i64 0] [(0,1,.int .i64 (a5:Nat))]=some [.int .i64 (a5:Nat)]:=rfl
   simp -dsimp only [XZ,SZ,EZ,astep,aun,AVal.cells,seval,Env.parts,hf1,e6,e7]
   refine DRX.nm rfl ?_
   refine DRX.inLoop ?_
   exact ih H7 D5 s5 _ v7 (by have:=q5.pr.lt; unfold rem at hr ⊢; omega) q7 hv7 hvn7 hvd7 (by simp; omega) (fun o h=>w5 o (Ev.pass h))
theorem u21 (ht:TOk ts):CN ts pid 21 [.ptr pid 0] .module st:=by
 intro H D hp
 refine DCallX.of_body (fn:=Tryd.f21) (by kernel_rfl) c21 (by kernel_rfl) (by simp [f21]) ?_
 unfold f21
 simp only []
 have q0:=Good1.refl hp
 have w0:=fun o (h:Ev ts (rule ts (.module) st) o)=>h
 have w0:∀ o,Ev ts (must ts st w_minus fun st1=>kind ts st1 1 fun t st2=>if seq t.s w_module=true then must ts st2 w_lp fun st3=>kind ts st3 1 fun u st4=>must ts st4 w_rp fun st5=>must ts st5 w_dot fun st6=>pass1 (.moduleL u.s (pos ts st) []) st6 else .fail 24 t.p) o→Ev ts (rule ts .module st) o:=fun o h=>h
 have hfl1:∀ t:TK,afld 1 none (.agg t.cells)=some (.str t.s):=fun t=>rfl
 have hz:tok0=[.int .i64 0,.str ⟨#[]⟩,.int .i64 0,.flt .f64 0,.int .i64 0]:=rfl
 refine DRX.go rfl ?_
 simp -dsimp only [XZ,SZ,EZ,astep,aun,AVal.cells,seval]
 refine DRX.go rfl ?_
 simp -dsimp only [XZ,SZ,EZ,astep,aun,AVal.cells,seval]
 refine DCall.monoX (g33 q0.pr) ?_
 rintro a H1 ⟨rfl,h1⟩
 simp -dsimp only [XZ,SZ,EZ,astep,aun,AVal.cells,seval]
 have q1:=q0.gro h1
 have w1:=w0
 refine DRX.go rfl ?_
 simp -dsimp only [XZ,SZ,EZ,astep,aun,AVal.cells,seval]
 refine (g34 (s:=w_minus) q1.pr ht).mono ?_
 rintro o H2 (⟨m2,rfl,p2,f2⟩ | ⟨m2,rfl,p2,f2⟩)
 rotate_left
 ·exact DLeave.pan' (.inl ⟨24,_,w1 _ (Ev.mustE m2),q1.bad ⟨rfl,_,_,p2,rfl,f2⟩⟩)
 have q2:=q1.adv p2 f2
 have w2:=fun o h=>w1 o (Ev.must m2 h)
 simp -dsimp only [XZ,SZ,EZ,astep,aun,AVal.cells,seval]
 refine DRX.go rfl ?_
 simp -dsimp only [XZ,SZ,EZ,astep,aun,AVal.cells,seval]
 refine (g35 (d:=1) q2.pr ht (by decide)).mono ?_
 rintro o H3 (⟨m3,rfl,p3,f3⟩ | ⟨m3,rfl,p3,f3⟩)
 rotate_left
 ·exact DLeave.pan' (.inl ⟨24,_,w2 _ (Ev.kindE m3),q2.bad ⟨rfl,_,_,p3,rfl,f3⟩⟩)
 have q3:=q2.adv p3 f3
 have w3:=fun o h=>w2 o (Ev.kind m3 h)
 simp -dsimp only [XZ,SZ,EZ,astep,aun,AVal.cells,seval]
 obtain ⟨Hx,H4,ex,e4,k4,g4,n4⟩:=new31 H3 (tk ts (adv st).at_)
 have b4:Prv H H4 D H3.next _:=Prv.made q3 g4
 have q4:=q3.gro k4
 have w4:=w3
 simp -dsimp only [XZ,SZ,EZ,astep,aun,AVal.cells,seval,← hz,ex,e4]
 have ls:=load_cell b4.get (o:=1) (v:=.str (tk ts (adv st).at_).s) rfl
 have lp:=load_cell b4.get (o:=4) (v:=.int .i64 (tk ts (adv st).at_).p) rfl
 cases hm:seq (tk ts (adv st).at_).s w_module with
 | false=>
  have w5:=fun o h=>w4 o (Ev.f hm h)
  unfold seq at hm
  refine DRX.go rfl ?_
  simp -dsimp only [XZ,SZ,EZ,astep,aun,AVal.cells,seval,ls,abin,hm,Bool.not_false]
  refine DRX.ye rfl rfl ?_
  refine DRX.go rfl ?_
  simp -dsimp only [XZ,SZ,EZ,astep,aun,AVal.cells,seval,lp]
  refine (g36 H4 24 _).mono ?_
  rintro o H5 ⟨rfl,rfl⟩
  exact DLeave.pan' (.inl ⟨24,_,w5 _ .fail,q4.bad ⟨rfl,_,_,q4.pr,rfl,Fr.refl _ _⟩⟩)
 | true=>
  have w4:=fun o h=>w4 o (Ev.t hm h)
  unfold seq at hm
  refine DRX.go rfl ?_
  simp -dsimp only [XZ,SZ,EZ,astep,aun,AVal.cells,seval,ls,abin,hm,Bool.not_true]
  refine DRX.ne rfl rfl ?_
  refine DRX.go rfl ?_
  simp -dsimp only [XZ,SZ,EZ,astep,aun,AVal.cells,seval]
  refine (g34 (s:=w_lp) q4.pr ht).mono ?_
  rintro o H5 (⟨m5,rfl,p5,f5⟩ | ⟨m5,rfl,p5,f5⟩)
  rotate_left
  ·exact DLeave.pan' (.inl ⟨24,_,w4 _ (Ev.mustE m5),q4.bad ⟨rfl,_,_,p5,rfl,f5⟩⟩)
  have q5:=q4.adv p5 f5
  have w5:=fun o h=>w4 o (Ev.must m5 h)
  simp -dsimp only [XZ,SZ,EZ,astep,aun,AVal.cells,seval]
  refine DRX.go rfl ?_
  simp -dsimp only [XZ,SZ,EZ,astep,aun,AVal.cells,seval]
  refine (g35 (d:=1) q5.pr ht (by decide)).mono ?_
  rintro o H6 (⟨m6,rfl,p6,f6⟩ | ⟨m6,rfl,p6,f6⟩)
  rotate_left
  ·exact DLeave.pan' (.inl ⟨24,_,w5 _ (Ev.kindE m6),q5.bad ⟨rfl,_,_,p6,rfl,f6⟩⟩)
  have q6:=q5.adv p6 f6
  have w6:=fun o h=>w5 o (Ev.kind m6 h)
  simp -dsimp only [XZ,SZ,EZ,astep,aun,AVal.cells,seval]
  simp -dsimp only [XZ,SZ,EZ,astep,aun,AVal.cells,seval,hfl1]
  refine DRX.go rfl ?_
  simp -dsimp only [XZ,SZ,EZ,astep,aun,AVal.cells,seval]
  refine (g34 (s:=w_rp) q6.pr ht).mono ?_
  rintro o H7 (⟨m7,rfl,p7,f7⟩ | ⟨m7,rfl,p7,f7⟩)
  rotate_left
  ·exact DLeave.pan' (.inl ⟨24,_,w6 _ (Ev.mustE m7),q6.bad ⟨rfl,_,_,p7,rfl,f7⟩⟩)
  have q7:=q6.adv p7 f7
  have w7:=fun o h=>w6 o (Ev.must m7 h)
  simp -dsimp only [XZ,SZ,EZ,astep,aun,AVal.cells,seval]
  refine DRX.go rfl ?_
  simp -dsimp only [XZ,SZ,EZ,astep,aun,AVal.cells,seval]
  refine (g34 (s:=w_dot) q7.pr ht).mono ?_
  rintro o H8 (⟨m8,rfl,p8,f8⟩ | ⟨m8,rfl,p8,f8⟩)
  rotate_left
  ·exact DLeave.pan' (.inl ⟨24,_,w7 _ (Ev.mustE m8),q7.bad ⟨rfl,_,_,p8,rfl,f8⟩⟩)
  have q8:=q7.adv p8 f8
  have w8:=fun o h=>w7 o (Ev.must m8 h)
  simp -dsimp only [XZ,SZ,EZ,astep,aun,AVal.cells,seval]
  refine DRX.go rfl ?_
  simp -dsimp only [XZ,SZ,EZ,astep,aun,AVal.cells,seval]
  refine DRX.nm rfl ?_
  refine DRX.loop ?_
  refine loopM21 (t:=rule ts .module st) rfl ht hp ?_ ?_ _ H8 D _ [] .nils (Nat.le_refl _) q8 (.inl ⟨rfl,rfl⟩) (fun j hj=>(by cases hj)) (fun j hj=>(by cases hj)) (Nat.zero_le _) (fun o h=>w8 o (Ev.pass h))
  ·rintro T v H' ⟨e,p,rfl,ev,b⟩
   exact DLeave.pan' (.inl ⟨e,p,ev,b⟩)
  ·intro H9 D9 s9 l v q9 hv hvn hvd w9
   have hf9:afill [.int .i64 0,.str ⟨#[]⟩,.int .i64 0,.flt .f64 0,.nils,.int .i64 0] [(0,1,.int .i64 24),(1,1,.str (tk ts (adv (adv (adv st))).at_).s),(4,1,v),(5,1,.int .i64 (pos ts st))]=some (ndC v ⟨24,(tk ts (adv (adv (adv st))).at_).s,0,0,l,pos ts st⟩):=by
    rcases hv.row with ⟨rfl,_⟩ | ⟨id,c,rfl,_⟩ <;> rfl
   have vn:(∀ j,rid v=some j→H.next≤j)∧∀ j,rid v=some j→¬ D9 j:=⟨hvn,hvd⟩
   refine DRX.go rfl ?_
   simp -dsimp only [XZ,SZ,EZ,astep,aun,AVal.cells,seval,Env.parts,hf9]
   refine (g39 (v:=v) (n:=⟨24,(tk ts (adv (adv (adv st))).at_).s,0,0,l,pos ts st⟩) q9.pr (hv.row) (vn).2).mono ?_
   rintro o H10 (⟨m10,rfl,p10,f10⟩ | ⟨m10,rfl,D10,p10,n10,f10,d10⟩)
   ·exact DLeave.pan' (.inl ⟨2,_,w9 _ (Ev.layE m10),q9.bad ⟨rfl,_,_,p10,rfl,f10⟩⟩)
   have q10:=q9.lay (vn).1 p10 n10 f10 d10
   have w10:=fun o h=>w9 o (Ev.lay m10 h)
   simp -dsimp only [XZ,SZ,EZ,astep,aun,AVal.cells,seval]
   refine DRX.nm rfl ?_
   exact DRX.retv ⟨_,by simp [aresult,ares,Env.get] <;> rfl,.inr ⟨_,_,D10,w10 _ .done,rfl,by simp,q10⟩⟩
end
end Go.Am.Rl
namespace Go.Am.Rl
open Go.Proofs
inductive Parsed where
 | tree (nodes:List ND) (root:Nat)
 | flaw (e p:Int)
def Parses (s:ByteArray) (r:Parsed):Prop:=
 (∃ e,tokens s = .inl e∧r = .flaw e.1 e.2)∨(∃ l,tokens s = .inr l)∧
  ((∃ e p,Ev (lexT s) (rule (lexT s) .module ⟨0,0,[]⟩) (.err e p)∧r = .flaw e p)∨∃ i st,Ev (lexT s) (rule (lexT s) .module ⟨0,0,[]⟩) (.ok (.n i) st)∧r = .tree st.nodes i∧i < st.nodes.length∧st.nodes.length≤16384)
def TreeR (H:AHeap) (x:AVal) (nodes:List ND):Prop:=∃ vs:List AVal,vs.length=nodes.length∧Grow H 42 6 x nodes.length (List.zipWith ndC vs nodes).flatten∧∀ (i:Nat) n v,nodes[i]? = some n→vs[i]? = some v→RowI H v n.l
theorem TreeR.gro {H H':AHeap} {x:AVal} {nodes:List ND} (h:TreeR H x nodes) (g:Gro H H'):TreeR H' x nodes:=by
 obtain ⟨vs,h1,h2,h3⟩:=h
 exact ⟨vs,h1,h2.frame fun j hj=>g.2 j (h2.lt hj),fun i n v hn hv=>(h3 i n v hn hv).gro g⟩
theorem TreeR.nil (H:AHeap):TreeR H .nils []:=⟨[],rfl,Grow.nils _ _ _,fun i n v hn=>by simp at hn⟩
def Parsed.nodes:Parsed→List ND
 | .tree l _=>l
 | .flaw _ _=>[]
def Parsed.root:Parsed→Nat
 | .tree _ i=>i
 | .flaw _ _=>0
def Parsed.e:Parsed→Int
 | .tree _ _=>0
 | .flaw e _=>e
def Parsed.p:Parsed→Int
 | .tree _ _=>0
 | .flaw _ p=>p
theorem u20r {H:AHeap} {b2 b3:Nat}:DCallD Tryd.prog 20 [.ptr b2 0,.ptr b3 0] .ret H fun m' H'=>m' = .ret∧H'=H:=by
 refine DCallD.of_recov (fn:=Tryd.f20) (by kernel_rfl) c20 (by kernel_rfl) (d:=5) rfl (by simp [f20]) ?_
 simp -dsimp only [SZ,EZ,astep,aun,AVal.cells,seval,AEnd.told]
 refine DR.go rfl ?_
 simp -dsimp only [SZ,EZ,astep,aun,AVal.cells,seval,anil]
 refine DR.ye rfl rfl ?_
 refine DR.go rfl ?_
 simp -dsimp only [SZ,EZ,astep,aun,AVal.cells,seval]
 refine DR.nm rfl ?_
 exact DR.done ⟨.tup [],rfl,rfl⟩
theorem u20p {H:AHeap} {b2 b3:Nat} {e p:Int} {c2 c3:List AVal} (h2:H.get b2=some (.cells 34 c2)) (l2:c2.length=2) (h3:H.get b3=some (.cells 26 c3)) (l3:c3.length=2) (hne:b2≠b3) :
  DCallD Tryd.prog 20 [.ptr b2 0,.ptr b3 0] (.pan (flt1 e p)) H fun m' H'=>m' = .ret∧H'.get b2=some (.cells 34 [.nils,.int .i64 0])∧H'.get b3=some (.cells 26 [.int .i64 e,.int .i64 p])∧H.next≤H'.next∧∀ j,j < H.next→j≠b2→j≠b3→H'.get j=H.get j:=by
 refine DCallD.of_recov (fn:=Tryd.f20) (by kernel_rfl) c20 (by kernel_rfl) (d:=5) rfl (by simp [f20]) ?_
 have n2:=AHeap.get_lt h2
 have n3:=AHeap.get_lt h3
 simp -dsimp only [SZ,EZ,astep,aun,AVal.cells,seval,AEnd.told,flt1]
 refine DR.go rfl ?_
 simp -dsimp only [SZ,EZ,astep,aun,AVal.cells,seval,anil]
 refine DR.ne rfl rfl ?_
 have ix0:([.agg [.int .i64 e,.int .i64 p],.bool true]:List AVal)[0]? = some (.agg [.int .i64 e,.int .i64 p]):=rfl
 have ix1:([.agg [.int .i64 e,.int .i64 p],.bool true]:List AVal)[1]? = some (.bool true):=rfl
 refine DR.go rfl ?_
 simp -dsimp only [SZ,EZ,astep,aun,AVal.cells,seval,atassert,ix0,ix1]
 refine DR.ye rfl rfl ?_
 obtain ⟨H1,hH1,g1,n1,f1⟩:=psh H (.cells 26 [.int .i64 0,.int .i64 0])
 have s2:=store_all (n:=2) g1 (new:=[.int .i64 e,.int .i64 p]) rfl rfl rfl
 obtain ⟨H2,hH2,g2,n2',f2⟩:=upd g1 (.cells 26 [.int .i64 e,.int .i64 p])
 refine DR.go rfl ?_
 simp -dsimp only [SZ,EZ,astep,aun,AVal.cells,seval,← hH1,s2,← hH2]
 have h22:H2.get b2=some (.cells 34 c2):=by rw [f2 b2 (by omega),f1 b2 n2]; exact h2
 have h23:H2.get b3=some (.cells 26 c3):=by rw [f2 b3 (by omega),f1 b3 n3]; exact h3
 have lf:=load_all (n:=2) g2 rfl
 have s3:=store_all (n:=2) h22 (new:=[.nils,.int .i64 0]) (by rw [l2]; rfl) rfl l2
 obtain ⟨H3,hH3,g3,n3',f3⟩:=upd h22 (.cells 34 [.nils,.int .i64 0])
 have lf3:=load_all (n:=2) ((f3 H.next (by omega)).trans g2) rfl
 have h33:H3.get b3=some (.cells 26 c3):=(f3 b3 hne.symm).trans h23
 have s4:=store_all (n:=2) h33 (new:=[.int .i64 e,.int .i64 p]) (by rw [l3]; rfl) rfl l3
 obtain ⟨H4,hH4,g4,n4',f4⟩:=upd h33 (.cells 26 [.int .i64 e,.int .i64 p])
 have hz:afill [.nils,.int .i64 0] []=some [.nils,.int .i64 0]:=rfl
 refine DR.nm rfl ?_
 refine DR.draw (by kernel_rfl) d20_7 ?_
 simp -dsimp only [m20_7,SZ,EZ,astep,aun,AVal.cells,seval,DS_nil,DS_cons,seesAll,staysAll,abit,List.getD_cons_zero,List.getD_cons_succ,AOp.quiet,AOp.reads,true_and,and_true,decide_true,decide_false,and_self,lf,Env.parts,hz,s3,← hH3,lf3,s4,← hH4]
 refine DR.nm rfl ?_
 exact DR.done ⟨.tup [],rfl,(f4 b2 hne).trans g3,g4,by omega,fun j hj h2 h3=>by rw [f4 j h3,f3 j h2,f2 j (by omega),f1 j hj]⟩
def ParseOut (H:AHeap) (s:ByteArray) (o:AOut) (H':AHeap):Prop:=∃ r x,Parses s r∧o = .ret (.tup [.agg [x,.int .i64 (r.root:Nat)],.agg [.int .i64 r.e,.int .i64 r.p]])∧TreeR H' x r.nodes∧Gro H H'
theorem g10 {H:AHeap} {s:ByteArray} (hsz:s.size < 1000000):DCallX Tryd.prog 10 [.str s] H (ParseOut H s):=by
 refine DCallX.of_body (fn:=Tryd.f10) (by kernel_rfl) c10 (by kernel_rfl) (by simp [f10]) ?_
 unfold f10
 simp only []
 obtain ⟨H1,hH1,g1,n1,f1⟩:=psh H (.cells 34 [.nils,.int .i64 0])
 obtain ⟨H2,hH2,g2,n2,f2⟩:=psh H1 (.cells 26 [.int .i64 0,.int .i64 0])
 have k1:Gro H H1:=by rw [hH1]; exact Gro.push _ _
 have k2:Gro H1 H2:=by rw [hH2]; exact Gro.push _ _
 refine DRX.go rfl ?_
 simp -dsimp only [XZ,SZ,EZ,astep,aun,AVal.cells,seval,← hH1,← hH2]
 refine DRX.go rfl ?_
 simp -dsimp only [XZ,SZ,EZ,astep,aun,AVal.cells,seval]
 refine DCall.monoX (g9 hsz) ?_
 rintro a H3 hT
 obtain ⟨x,rfl,hrow,hxn,hn3,hf3⟩:=hT.row
 have k3:Gro H2 H3:=⟨hn3,hf3⟩
 have ix0:([x,.agg [.int .i64 (resErr (tokens s)).1,.int .i64 (resErr (tokens s)).2]]:List AVal)[0]? = some x:=rfl
 have ix1:([x,.agg [.int .i64 (resErr (tokens s)).1,.int .i64 (resErr (tokens s)).2]]:List AVal)[1]? = some (.agg [.int .i64 (resErr (tokens s)).1,.int .i64 (resErr (tokens s)).2]):=rfl
 have g33:=k3.get g2
 have g32:=k3.get (k2.get g1)
 have s4:=store_all (n:=2) g33 (new:=[.int .i64 (resErr (tokens s)).1,.int .i64 (resErr (tokens s)).2]) rfl rfl rfl
 obtain ⟨H4,hH4,g43,n4,f4⟩:=upd g33 (.cells 26 [.int .i64 (resErr (tokens s)).1,.int .i64 (resErr (tokens s)).2])
 have g42:H4.get H.next=some (.cells 34 [.nils,.int .i64 0]):=(f4 H.next (by omega)).trans g32
 have k04:Gro H H4:=⟨by have:=k3.1; omega,fun j hj=>by rw [f4 j (by omega),k3.2 j (by omega),k2.2 j (by omega),k1.2 j hj]⟩
 have hrow4:RowT H4 x (resRow (tokens s)):=hrow.frame fun j hj=>f4 j (by have:=hxn j hj; omega)
 simp -dsimp only [XZ,SZ,EZ,astep,aun,AVal.cells,seval,ix0,ix1,s4,← hH4]
 have l4:=load_cell g43 (o:=0) (v:=.int .i64 (resErr (tokens s)).1) rfl
 have la4:=load_all (n:=2) g43 rfl
 have hz:afill [.nils,.int .i64 0] []=some [.nils,.int .i64 0]:=rfl
 cases ht:tokens s with
 | inl e=>
  have hne:=(tokens_sort s).1 e ht
  rw [ht] at l4 la4 g43 hrow4
  simp only [resErr] at l4 la4 g43
  have hc:(e.1 != 0)=true:=by rw [bne_iff_ne]; exact hne
  refine DRX.go rfl ?_
  simp -dsimp only [XZ,SZ,EZ,astep,aun,AVal.cells,seval,l4,abin,hc]
  refine DRX.ye rfl rfl ?_
  have s5:=store_all (n:=2) g42 (new:=[.nils,.int .i64 0]) rfl rfl rfl
  obtain ⟨H5,hH5,g52,n5,f5⟩:=upd g42 (.cells 34 [.nils,.int .i64 0])
  have g53:H5.get H1.next=some (.cells 26 [.int .i64 e.1,.int .i64 e.2]):=(f5 H1.next (by omega)).trans g43
  have la5:=load_all (n:=2) g53 rfl
  have s6:=store_all (n:=2) g53 (new:=[.int .i64 e.1,.int .i64 e.2]) rfl rfl rfl
  obtain ⟨H6,hH6,g63,n6,f6⟩:=upd g53 (.cells 26 [.int .i64 e.1,.int .i64 e.2])
  have lr2:=load_all (n:=2) ((f6 H.next (by omega)).trans g52) rfl
  have lr3:=load_all (n:=2) g63 rfl
  refine DRX.nm rfl ?_
  refine DRX.draw (by kernel_rfl) d10_3 ?_
  simp -dsimp only [m10_3,YZ,XZ,SZ,EZ,astep,aun,AVal.cells,seval,DS_nil,DS_cons,seesAll,staysAll,abit,List.getD_cons_zero,List.getD_cons_succ,AOp.quiet,AOp.reads,true_and,and_true,decide_true,decide_false,and_self,la4,Env.parts,hz,s5,← hH5,la5,s6,← hH6]
  refine DRX.nm rfl ?_
  have k4:=k04.1
  exact DRX.retv ⟨.tup [.agg [.nils,.int .i64 0],.agg [.int .i64 e.1,.int .i64 e.2]],by simp [aresult,ares,Env.get,lr2,lr3],.flaw e.1 e.2,.nils,.inl ⟨e,ht,rfl⟩,rfl,TreeR.nil _,by omega,fun j hj=>by rw [f6 j (by omega),f5 j (by omega),k04.2 j hj]⟩
 | inr l=>
  have htok:=lexT_ok ht
  rw [ht] at l4 la4 g43
  simp only [resErr] at l4 la4 g43
  have hc0:((0:Int) != 0)=false:=rfl
  refine DRX.go rfl ?_
  simp -dsimp only [XZ,SZ,EZ,astep,aun,AVal.cells,seval,l4,abin,hc0]
  refine DRX.ne rfl rfl ?_
  refine DRX.go rfl ?_
  simp -dsimp only [XZ,SZ,EZ,astep,aun,AVal.cells,seval,LZ]
  have hf5:afill [.nils,.int .i64 0,.int .i64 0,.nils] [(0,1,x)]=some [x,.int .i64 0,.int .i64 0,.nils]:=by
   rcases hrow with ⟨rfl,_⟩ | ⟨id,c,r,rfl,_⟩ <;> rfl
  obtain ⟨H5,hH5,g5,n5,f5⟩:=psh H4 (.cells 61 [x,.int .i64 0,.int .i64 0,.nils])
  have hcc:(AVal.agg [x,.int .i64 0,.int .i64 0,.nils]).cells=[x,.int .i64 0,.int .i64 0,.nils]:=rfl
  refine DRX.go rfl ?_
  simp -dsimp only [XZ,SZ,EZ,astep,aun,AVal.cells,seval,Env.parts,hf5,hcc,← hH5]
  have hx4:∀ j,rid x=some j→j < H4.next:=fun j hj=>hrow4.lt hj
  have p5:PR (lexT s) H5 H4.next ⟨0,0,[]⟩ (fun j=>j=H4.next∨rid x=some j):=by
   refine ⟨⟨x,.nils,g5,?_,⟨[],rfl,Grow.nils _ _ _,fun i n v hn=>by simp at hn⟩,fun j hj=>⟨.inr hj,by have:=hx4 j hj; omega,fun e=>by cases e⟩,fun j hj=>(by cases hj)⟩,.inl rfl,fun j hj=> ?_,?_,by decide,by decide⟩
   ·rw [lexT_cells]; exact hrow4.frame fun j hj=>f5 j (hx4 j hj)
   ·rcases hj with e | e
    ·omega
    ·have:=hx4 j e; omega
   ·show 0 < (lexT s).length
    obtain ⟨hsz',l',e',_⟩:=(tokens_sort s).2 l ht
    unfold lexT; rw [ht,e']; simp [resRow]
  have g52:H5.get H.next=some (.cells 34 [.nils,.int .i64 0]):=(f5 H.next (by have:=k04.1; have:=AHeap.get_lt g42; omega)).trans g42
  have g53:H5.get H1.next=some (.cells 26 [.int .i64 0,.int .i64 0]):=(f5 H1.next (AHeap.get_lt g43)).trans g43
  have hn2:∀ j,j < H2.next→¬ (j=H4.next∨rid x=some j):=fun j hj e=>by
   rcases e with e | e
   ·have:=k3.1; omega
   ·have:=hxn j e; omega
  have k05:∀ j,j < H.next→H5.get j=H.get j:=fun j hj=>by rw [f5 j (by have:=k04.1; omega),k04.2 j hj]
  refine DRX.go rfl ?_
  simp -dsimp only [XZ,SZ,EZ,astep,aun,AVal.cells,seval]
  refine (u21 htok _ _ p5).mono ?_
  rintro o H6 (⟨e,p,ev,rfl,st',D',p6,d6,fr6⟩ | ⟨i,st',D',ev,rfl,hi,q6⟩)
  ·have g62:=(fr6.keep g52 (hn2 _ (by omega))).1
   have g63:=(fr6.keep g53 (hn2 _ (by omega))).1
   refine DCallD.mono (u20p g62 rfl g63 rfl (by omega)) ?_
   rintro m H7 ⟨rfl,g72,g73,n7,f7⟩
   have lr2:=load_all (n:=2) g72 rfl
   have lr3:=load_all (n:=2) g73 rfl
   refine ⟨.tup [.agg [.nils,.int .i64 0],.agg [.int .i64 e,.int .i64 p]],by simp [aresult,ares,Env.get,lr2,lr3],.flaw e p,.nils,.inr ⟨⟨l,ht⟩,.inl ⟨e,p,ev,rfl⟩⟩,rfl,TreeR.nil _,?_,fun j hj=> ?_⟩
   ·have:=k04.1; have:=fr6.1; omega
   ·rw [f7 j (by have:=k04.1; have:=fr6.1; omega) (by omega) (by omega),fr6.2.1 j (by have:=k04.1; omega) (hn2 j (by omega)),k05 j hj]
  ·have g62:=(q6.fr.keep g52 (hn2 _ (by omega))).1
   have g63:=(q6.fr.keep g53 (hn2 _ (by omega))).1
   have fr6:=q6.fr
   have hmany:=q6.pr.many
   obtain ⟨⟨xt,xn,hb,htk,⟨vs,hvs,hgr,hrw⟩,hx6,ho6⟩,_,hd6,_⟩:=q6.pr
   have lx:=load_cell hb (o:=3) (v:=xn) rfl
   have hf7:afill [.nils,.int .i64 0] [(0,1,xn),(1,1,.int .i64 (i:Nat))]=some [xn,.int .i64 (i:Nat)]:=by
    obtain ⟨_,⟨rfl,_⟩ | ⟨id,rfl,_⟩⟩:=hgr <;> rfl
   have hone:ones [xn,.int .i64 (i:Nat)]=true:=by
    obtain ⟨_,⟨rfl,_⟩ | ⟨id,rfl,_⟩⟩:=hgr <;> rfl
   have hf8:afill [.int .i64 0,.int .i64 0] []=some [.int .i64 0,.int .i64 0]:=rfl
   have s7:=store_all (n:=2) g62 (new:=[xn,.int .i64 (i:Nat)]) rfl hone rfl
   obtain ⟨H7,hH7,g72,n7,f7⟩:=upd g62 (.cells 34 [xn,.int .i64 (i:Nat)])
   have g73:H7.get H1.next=some (.cells 26 [.int .i64 0,.int .i64 0]):=(f7 H1.next (by omega)).trans g63
   have s8:=store_all (n:=2) g73 (new:=[.int .i64 0,.int .i64 0]) rfl rfl rfl
   obtain ⟨H8,hH8,g83,n8,f8⟩:=upd g73 (.cells 26 [.int .i64 0,.int .i64 0])
   have lr2:=load_all (n:=2) ((f8 H.next (by omega)).trans g72) rfl
   have lr3:=load_all (n:=2) g83 rfl
   have k4:=k04.1
   have q1:=q6.fr.1
   have hD:∀ j,D' j→j≠H.next∧j≠H1.next:=fun j hj=>by
    rcases fr6.2.2 j hj with e | e
    ·exact ⟨fun e'=>hn2 j (by omega) e,fun e'=>hn2 j (by omega) e⟩
    ·omega
   have same:∀ j,D' j→H8.get j=H6.get j:=fun j hj=>by rw [f8 j (hD j hj).2,f7 j (hD j hj).1]
   have htree:TreeR H8 xn st'.nodes:=⟨vs,hvs,hgr.frame fun j hj=>same j (ho6 j hj).1,fun i n v hn hv=>(hrw i n v hn hv).1.frame fun j hj=>same j ((hrw i n v hn hv).2 j hj).1⟩
   simp -dsimp only [XZ,SZ,EZ,astep,aun,AVal.cells,seval]
   refine DRX.go rfl ?_
   simp -dsimp only [XZ,SZ,EZ,astep,aun,AVal.cells,seval,lx,Env.parts,hf7,hf8,s7,← hH7,s8,← hH8]
   refine DRX.nm rfl ?_
   refine DRX.ret (DCallD.mono u20r ?_)
   rintro m H9 ⟨rfl,rfl⟩
   exact ⟨.tup [.agg [xn,.int .i64 (i:Nat)],.agg [.int .i64 0,.int .i64 0]],by simp [aresult,ares,Env.get,lr2,lr3],.tree st'.nodes i,xn,.inr ⟨⟨l,ht⟩,.inr ⟨i,st',ev,rfl,hi,hmany⟩⟩,rfl,htree,by omega,fun j hj=>by rw [f8 j (by omega),f7 j (by omega),fr6.2.1 j (by omega) (hn2 j (by omega)),k05 j hj]⟩
end Go.Am.Rl
