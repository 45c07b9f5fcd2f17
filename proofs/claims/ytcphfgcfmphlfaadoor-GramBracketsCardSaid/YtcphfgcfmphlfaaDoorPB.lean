/- Parts: P10, P11, P12, P13, P14, P15, P16, P17. -/
import Derived.Test.YtcphfgcfmphlfaaDoorPA
set_option linter.unusedVariables false
set_option linter.unusedSimpArgs false
namespace Go.Am.Rl
open Go.Proofs
structure Prv (H0 H:AHeap) (D:Nat→Prop) (i:Nat) (b:ABlk):Prop where
 get:H.get i=some b
 no:¬ D i
 new:H0.next≤i
theorem Prv.fr {H0 H H':AHeap} {D D':Nat→Prop} {i:Nat} {b:ABlk} (h:Prv H0 H D i b) (f:Fr H D H' D'):Prv H0 H' D' i b:=
 ⟨(f.keep h.get h.no).1,(f.keep h.get h.no).2,h.new⟩
theorem Prv.gro {H0 H H':AHeap} {D:Nat→Prop} {i:Nat} {b:ABlk} (h:Prv H0 H D i b) (f:Gro H H'):Prv H0 H' D i b:=h.fr (f.fr D)
theorem Prv.lt {H0 H:AHeap} {D:Nat→Prop} {i:Nat} {b:ABlk} (h:Prv H0 H D i b):i < H.next:=AHeap.get_lt h.get
theorem Prv.made {ts:List TK} {pid:Nat} {H0 H H':AHeap} {D D0:Nat→Prop} {st0 st:PS} {b:ABlk} (g:Good1 ts pid H0 D0 st0 st H D) (e:H'.get H.next=some b):Prv H0 H' D H.next b:=
 ⟨e,fun h=>by have:=g.pr.dlt _ h; omega,g.fr.1⟩
section
variable {ts:List TK} {H:AHeap} {pid:Nat} {st:PS} {D:Nat→Prop}
theorem new42 (H:AHeap) (n:ND):∃ H1 H2,H.push (.cells 42 [.int .i64 0,.str ⟨#[]⟩,.int .i64 0,.flt .f64 0,.nils,.int .i64 0])=H1∧astore H1 6 (.ptr H.next 0) (.agg (ndC .nils n))=some H2∧Gro H H2∧H2.get H.next=some (.cells 42 (ndC .nils n))∧H2.next=H.next+1:=by
 refine ⟨_,(H.push (.cells 42 [.int .i64 0,.str ⟨#[]⟩,.int .i64 0,.flt .f64 0,.nils,.int .i64 0])).set H.next (.cells 42 (ndC .nils n)),rfl,?_,⟨by simp [AHeap.set],fun j hj=> ?_⟩,?_,rfl⟩
 ·have hg:(H.push (.cells 42 [.int .i64 0,.str ⟨#[]⟩,.int .i64 0,.flt .f64 0,.nils,.int .i64 0])).get H.next=some (.cells 42 [.int .i64 0,.str ⟨#[]⟩,.int .i64 0,.flt .f64 0,.nils,.int .i64 0]):=by rw [AHeap.get_push,if_pos rfl]
  simp only [astore,hg]
  rw [if_pos ⟨rfl,by show 6≤6; omega,rfl⟩]; rfl
 ·rw [AHeap.get_set,if_neg (by omega),AHeap.get_push,if_neg (by omega)]
 ·rw [AHeap.get_set,if_pos rfl,if_pos (by simp)]
theorem new31 (H:AHeap) (t:TK):∃ H1 H2,H.push (.cells 31 tok0)=H1∧astore H1 5 (.ptr H.next 0) (.agg t.cells)=some H2∧Gro H H2∧H2.get H.next=some (.cells 31 t.cells)∧H2.next=H.next+1:=by
 refine ⟨_,(H.push (.cells 31 tok0)).set H.next (.cells 31 t.cells),rfl,?_,⟨by simp [AHeap.set],fun j hj=> ?_⟩,?_,rfl⟩
 ·have hg:(H.push (.cells 31 tok0)).get H.next=some (.cells 31 tok0):=by rw [AHeap.get_push,if_pos rfl]
  simp only [astore,hg]
  rw [if_pos ⟨rfl,by show 5≤5; omega,rfl⟩]; rfl
 ·rw [AHeap.get_set,if_neg (by omega),AHeap.get_push,if_neg (by omega)]
 ·rw [AHeap.get_set,if_pos rfl,if_pos (by simp)]
theorem Good1.none {H1 H2:AHeap} {D1 D2:Nat→Prop} {s1:PS} {n:ND} (g:Good1 ts pid H D st s1 H1 D1) (p:PR ts H2 pid { s1 with nodes:=s1.nodes++[n] } D2) (f:Fr H1 D1 H2 D2):Good1 ts pid H D st { s1 with nodes:=s1.nodes++[n] } H2 D2:=
 ⟨p,g.deep,g.at_,g.fr.trans f,by have:=g.nds; simp; omega⟩
theorem g91 {d:Int} (hp:PR ts H pid st D):DCallX Tryd.prog 91 [.ptr pid 0,.int .i64 d] H fun o H'=>
  (st.nodes.length=16384∧o = .pan (flt1 2 (pos ts st))∧PR ts H' pid st D∧Fr H D H' D)∨
  (st.nodes.length≠16384∧o = .ret (.int .i64 (st.nodes.length:Nat))∧∃ D',PR ts H' pid { st with nodes:=st.nodes++[node d [] (pos ts st)] } D'∧Fr H D H' D'):=by
 refine DCallX.of_body (fn:=Tryd.f91) (by kernel_rfl) c91 (by kernel_rfl) (by simp [f91]) ?_
 unfold f91
 simp only []
 refine DRX.go rfl ?_
 simp -dsimp only [XZ,SZ,EZ,astep,aun,AVal.cells,seval]
 refine DRX.go rfl ?_
 simp -dsimp only [XZ,SZ,EZ,astep,aun,AVal.cells,seval]
 refine DCall.monoX (g33 hp) ?_
 rintro a H1 ⟨rfl,h1⟩
 have hf1:afill [.int .i64 0,.str ⟨#[]⟩,.int .i64 0,.flt .f64 0,.nils,.int .i64 0] [(0,1,.int .i64 d),(5,1,.int .i64 (pos ts st))]=some (ndC .nils (node d [] (pos ts st))):=rfl
 simp -dsimp only [XZ,SZ,EZ,astep,aun,AVal.cells,seval,Env.parts,hf1]
 refine (g39 (v:=.nils) (n:=node d [] (pos ts st)) (hp.gro h1) (.inl ⟨rfl,rfl⟩) (fun j hj=>by cases hj)).mono ?_
 rintro o H2 (⟨m,rfl,p,f⟩ | ⟨m,rfl,D',p,f1,f2,f3⟩)
 ·exact DLeave.pan' (.inl ⟨m,rfl,p,(h1.fr D).trans f⟩)
 simp -dsimp only [XZ,SZ,EZ,astep,aun,AVal.cells,seval]
 have f:Fr H1 D H2 D':=⟨f1,f2,fun j hj=>by
  rcases f3 j hj with e | e | e
  ·exact .inl e
  ·cases e
  ·exact .inr e⟩
 refine DRX.nm rfl ?_
 exact DRX.retv ⟨_,by simp [aresult,ares,Env.get] <;> rfl,.inr ⟨m,rfl,D',p,(h1.fr D).trans f⟩⟩
theorem u89 {N:Nat} (ht:TOk ts) (hx:Upto ts pid 67 .expr N):Upto ts pid 89 .clause N:=by
 intro st hN H D hp
 refine DCallX.of_body (fn:=Tryd.f89) (by kernel_rfl) c89 (by kernel_rfl) (by simp [f89]) ?_
 unfold f89
 simp only []
 have q0:=Good1.refl hp
 have w0:=fun o (h:Ev ts (rule ts (.clause) st) o)=>h
 refine DRX.go rfl ?_
 simp -dsimp only [XZ,SZ,EZ,astep,aun,AVal.cells,seval]
 refine DRX.go rfl ?_
 simp -dsimp only [XZ,SZ,EZ,astep,aun,AVal.cells,seval]
 refine DCall.monoX (g33 q0.pr) ?_
 rintro a H1 ⟨rfl,h1⟩
 simp -dsimp only [XZ,SZ,EZ,astep,aun,AVal.cells,seval]
 have q1:=q0.gro h1
 have w1:=w0
 obtain ⟨Hx,H2,ex,e2,k2,g2,n2⟩:=new42 H1 (node 21 [] (pos ts st))
 have b2:Prv H H2 D H1.next (.cells 42 (ndC .nils (node 21 [] (pos ts st)))):=Prv.made q1 g2
 have q2:=q1.gro k2
 have w2:=w1
 have hf1:afill [.int .i64 0,.str ⟨#[]⟩,.int .i64 0,.flt .f64 0,.nils,.int .i64 0] [(0,1,.int .i64 21),(5,1,.int .i64 (pos ts st))]=some (ndC .nils (node 21 [] (pos ts st))):=rfl
 simp -dsimp only [XZ,SZ,EZ,astep,aun,AVal.cells,seval,Env.parts,hf1,ex,e2]
 have l2:=load_all (n:=6) b2.get rfl
 refine DRX.nm rfl ?_
 refine DRX.draw (by kernel_rfl) d89_2 ?_
 simp -dsimp only [m89_2,YZ,XZ,SZ,EZ,astep,aun,AVal.cells,seval,DS_nil,DS_cons,seesAll,staysAll,abit,List.getD_cons_zero,List.getD_cons_succ,AOp.quiet,AOp.reads,true_and,and_true,decide_true,decide_false,and_self,l2]
 refine (hx st hN _ _ q2.pr).mono ?_
 rintro o H3 (⟨e,p,ev3,rfl,b⟩ | ⟨a3,s3,D3,ev3,rfl,ha3,g3⟩)
 ·refine And.intro (DLeave.pan' (.inl ⟨e,p,w2 _ (Ev.callE ev3),q2.bad ⟨rfl,b⟩⟩)) ?_
  simp -dsimp only [YZ,XZ,SZ,EZ,astep,aun,AVal.cells,seval,DS_nil,DS_cons,seesAll,staysAll,abit,List.getD_cons_zero,List.getD_cons_succ,AOp.quiet,AOp.reads,true_and,and_true,decide_true,decide_false,and_self,l2]
 have q3:=q2.trans g3
 have w3:=fun o h=>w2 o (Ev.call ev3 h)
 have b3:=b2.fr g3.fr
 have l3:=load_all (n:=6) b3.get rfl
 obtain ⟨H4,e4⟩:∃ H4,H3.push (.cells 3 [.int .i64 (a3:Nat)])=H4:=⟨_,rfl⟩
 obtain ⟨hr4,k4⟩:RowI H4 (.sl H3.next 0 1 (some 1)) [a3]∧Gro H3 H4:=row2v (x:=[a3]) (by simp) e4
 have hfl:afill [.int .i64 0] [(0,1,.int .i64 (a3:Nat))]=some [.int .i64 (a3:Nat)]:=rfl
 have b4:=b3.gro k4
 have l4:=load_all (n:=6) b4.get rfl
 have q4:=q3.gro k4
 have w4:=w3
 simp -dsimp only [YZ,XZ,SZ,EZ,astep,aun,AVal.cells,seval,DS_nil,DS_cons,seesAll,staysAll,abit,List.getD_cons_zero,List.getD_cons_succ,AOp.quiet,AOp.reads,true_and,and_true,decide_true,decide_false,and_self,l3,Env.parts,hfl,e4,l4]
 have:=q3.at_
 refine (u55 (N:=N) ht hx (by unfold rem at hN ⊢; omega) q4.pr hr4 (q3.fresh (n:=H3.next) (c:=1) (Nat.le_refl _)).2 (by simp)).mono ?_
 rintro o H5 ho
 rcases ho with ⟨e,p,ev,rfl,b⟩ | ⟨i,st',D',ev,rfl,hi,g⟩
 ·refine And.intro (DLeave.pan' (.inl ⟨e,p,w4 _ ev.pass,q4.bad ⟨rfl,b⟩⟩)) ?_
  simp -dsimp only [YZ,XZ,SZ,EZ,astep,aun,AVal.cells,seval,DS_nil,DS_cons,seesAll,staysAll,abit,List.getD_cons_zero,List.getD_cons_succ,AOp.quiet,AOp.reads,true_and,and_true,decide_true,decide_false,and_self,l2,l3]
 simp -dsimp only [YZ,XZ,SZ,EZ,astep,aun,AVal.cells,seval,DS_nil,DS_cons,seesAll,staysAll,abit,List.getD_cons_zero,List.getD_cons_succ,AOp.quiet,AOp.reads,true_and,and_true,decide_true,decide_false,and_self]
 refine DRX.nm rfl ?_
 exact DRX.retv ⟨_,by simp [aresult,ares,Env.get] <;> rfl,.inr ⟨i,st',D',w4 _ ev.pass,rfl,hi,q4.trans g⟩⟩
end
end Go.Am.Rl
namespace Go.Am.Rl
open Go.Proofs
section
variable {ts:List TK} {H:AHeap} {pid:Nat} {st:PS} {D:Nat→Prop}
theorem PR.look (hp:PR ts H pid st D) (ht:TOk ts) (hlt:st.at_+1 < ts.length):∃ xt id o,aload H none (.ptr pid 0)=some xt∧aload H none (.ptr pid 1)=some (.int .i64 (st.at_:Nat))∧IntKind.i64.wrap ((st.at_:Int)+1)=((st.at_+1:Nat):Int)∧
  (∀ H',aiaddr H' 5 xt (.int .i64 ((st.at_+1:Nat):Int))=some (.ptr id o))∧aload H none (.ptr id (o+0))=some (.int .i64 (tk ts (st.at_+1)).k)∧aload H none (.ptr id (o+1))=some (.str (tk ts (st.at_+1)).s)∧aload H none (.ptr id o)=some (.int .i64 (tk ts (st.at_+1)).k):=by
 obtain ⟨⟨xt,xn,hb,htk,_⟩,_⟩:=hp
 have hs:=ht.short
 obtain ⟨id,ax,rx,tx,gx,lx,dx,hc5⟩:=htk.at (toks_tok ts) (tk_at hlt) H
 have l0:=load_cell hb (o:=0) (v:=xt) rfl
 have l1:=load_cell hb (o:=1) (v:=.int .i64 (st.at_:Nat)) rfl
 have hat:∀ i,i < 5→tx[(st.at_+1) * 5+i]? = (tk ts (st.at_+1)).cells[i]? :=by
  intro i hi
  rw [← List.getElem?_drop,dx,List.getElem?_append_left (by rw [hc5]; exact hi)]
 refine ⟨xt,id,(st.at_+1) * 5,l0,l1,wrap64 (n:=st.at_+1) (by omega),fun H'=> ?_,load_cell gx (by rw [hat 0 (by omega)]; rfl),load_cell gx (by rw [hat 1 (by omega)]; rfl),load_cell gx (by have:=hat 0 (by omega); rw [Nat.add_zero] at this; rw [this]; rfl)⟩
 obtain ⟨id',ax',rx',_⟩:=htk.at (toks_tok ts) (tk_at hlt) H'
 have:=rx.symm.trans rx'
 cases this; exact ax'
theorem Prv.other {H0 H1:AHeap} {D1:Nat→Prop} {i j:Nat} {b c:ABlk} (h:Prv H0 H1 D1 i b) (hne:i≠j):Prv H0 (H1.set j c) D1 i b:=
 ⟨by rw [AHeap.get_set,if_neg hne]; exact h.get,h.no,h.new⟩
theorem Prv.set {H0 H1:AHeap} {D1:Nat→Prop} {i:Nat} {b c:ABlk} (h:Prv H0 H1 D1 i b):Prv H0 (H1.set i c) D1 i c:=
 ⟨by rw [AHeap.get_set,if_pos rfl,if_pos h.lt],h.no,h.new⟩
theorem store_cell {H:AHeap} {id:Nat} {e:TypeId} {cs:List AVal} (h:H.get id=some (.cells e cs)) {o:Nat} {v:AVal} (ho:o < cs.length) (hv:v.cells=[v]) (h1:ones [v]=true):astore H 1 (.ptr id o) v=some (H.set id (.cells e (aput cs o [v]))):=by
 simp only [astore,h,hv]
 rw [if_pos ⟨rfl,by show o+1≤cs.length; omega,h1⟩]
theorem layFr {H1 H2:AHeap} {D1 D2:Nat→Prop} (f1:H1.next≤H2.next) (f2:∀ j,j < H1.next→¬ D1 j→H2.get j=H1.get j) (f3:∀ j,D2 j→D1 j∨rid .nils=some j∨H1.next≤j):Fr H1 D1 H2 D2:=
 ⟨f1,f2,fun j hj=>by
  rcases f3 j hj with e | e | e
  ·exact .inl e
  ·cases e
  ·exact .inr e⟩
def outC (ts:List TK) (p:Int) (n:ND) (s:PS):IT:=lay s n fun k s1=>callN .expr s1 fun a s2=>pass1 (.tail (node 21 [] p) [k,a]) s2
theorem catch12 {N:Nat} {p:Int} {n5:ND} {b4 b5:Nat} {t:IT} {H1:AHeap} {D1:Nat→Prop} {s1:PS} (ht:TOk ts) (hx:Upto ts pid 67 .expr N) (hN:rem ts st≤N) (q1:Good1 ts pid H D st s1 H1 D1) (h4:Prv H H1 D1 b4 (.cells 42 (ndC .nils (node 21 [] p)))) (h5:Prv H H1 D1 b5 (.cells 42 (ndC .nils n5))) (hn5:n5.l=[])
  (w1:∀ o,Ev ts (outC ts p n5 s1) o→Ev ts t o) :
  DRX Tryd.prog (kof k92) 107 [.code (.region false r92_12 [0,4,7]),.code (.seq (.region true r92_13 [2]) .ret)] [] [(0,.ptr pid 0),(4,.ptr b4 0),(5,.ptr b5 0)] H1 (fun e ds T' H'=>DLeave Tryd.prog [.tmp 2] ds e T' H' (PostN ts pid H D st t)):=by
 have l5:=load_all (n:=6) h5.get rfl
 refine DRX.go rfl ?_
 simp -dsimp only [XZ,SZ,EZ,astep,aun,AVal.cells,seval,l5]
 refine (g39 (v:=.nils) (n:=n5) q1.pr (.inl ⟨rfl,hn5⟩) (fun j hj=>by cases hj)).mono ?_
 rintro o H2 (⟨m2,rfl,p2,f2⟩ | ⟨m2,rfl,D2,p2,n2,f2,d2⟩)
 ·exact DLeave.pan' (.inl ⟨2,_,w1 _ (Ev.layE m2),q1.bad ⟨rfl,_,_,p2,rfl,f2⟩⟩)
 have q2:=q1.none p2 (layFr n2 f2 d2)
 have w2:=fun o h=>w1 o (Ev.lay m2 h)
 have c4:=h4.fr (layFr n2 f2 d2)
 simp -dsimp only [XZ,SZ,EZ,astep,aun,AVal.cells,seval]
 have l2:=load_all (n:=6) c4.get rfl
 refine DRX.nm rfl ?_
 refine DRX.draw (by kernel_rfl) d92_13 ?_
 simp -dsimp only [m92_13,YZ,XZ,SZ,EZ,astep,aun,AVal.cells,seval,DS_nil,DS_cons,seesAll,staysAll,abit,List.getD_cons_zero,List.getD_cons_succ,AOp.quiet,AOp.reads,true_and,and_true,decide_true,decide_false,and_self,l2]
 have hN2:rem ts { s1 with nodes:=s1.nodes++[n5] }≤N:=by have:=q2.at_; unfold rem at hN ⊢; simp only at *; omega
 refine (hx _ hN2 _ _ q2.pr).mono ?_
 rintro o H3 (⟨e,p,ev3,rfl,b⟩ | ⟨a3,s3,D3,ev3,rfl,ha3,g3⟩)
 ·refine And.intro (DLeave.pan' (.inl ⟨e,p,w2 _ (Ev.callE ev3),q2.bad ⟨rfl,b⟩⟩)) ?_
  simp -dsimp only [YZ,XZ,SZ,EZ,astep,aun,AVal.cells,seval,DS_nil,DS_cons,seesAll,staysAll,abit,List.getD_cons_zero,List.getD_cons_succ,AOp.quiet,AOp.reads,true_and,and_true,decide_true,decide_false,and_self,l2]
 have q3:=q2.trans g3
 have w3:=fun o h=>w2 o (Ev.call ev3 h)
 have e4:=c4.fr g3.fr
 have l3:=load_all (n:=6) e4.get rfl
 obtain ⟨H4,ee⟩:∃ H4,H3.push (.cells 3 [.int .i64 (s1.nodes.length:Nat),.int .i64 (a3:Nat)])=H4:=⟨_,rfl⟩
 obtain ⟨hr4,k4⟩:RowI H4 (.sl H3.next 0 2 (some 2)) [s1.nodes.length,a3]∧Gro H3 H4:=row2v (x:=[s1.nodes.length,a3]) (by simp) ee
 have hfl:afill [.int .i64 0,.int .i64 0] [(0,1,.int .i64 (s1.nodes.length:Nat)),(1,1,.int .i64 (a3:Nat))]=some [.int .i64 (s1.nodes.length:Nat),.int .i64 (a3:Nat)]:=rfl
 have l4:=load_all (n:=6) (e4.gro k4).get rfl
 have q4:=q3.gro k4
 have w4:=w3
 simp -dsimp only [YZ,XZ,SZ,EZ,astep,aun,AVal.cells,seval,DS_nil,DS_cons,seesAll,staysAll,abit,List.getD_cons_zero,List.getD_cons_succ,AOp.quiet,AOp.reads,true_and,and_true,decide_true,decide_false,and_self,l3,Env.parts,hfl,ee,l4]
 have:=q3.at_
 refine (u55 (N:=N) ht hx (by unfold rem at hN ⊢; omega) q4.pr hr4 (q3.fresh (n:=H3.next) (c:=2) (Nat.le_refl _)).2 (by simp)).mono ?_
 rintro o H5 ho
 rcases ho with ⟨e,p,ev,rfl,b⟩ | ⟨i,st',D',ev,rfl,hi,g⟩
 ·refine And.intro (DLeave.pan' (.inl ⟨e,p,w4 _ ev.pass,q4.bad ⟨rfl,b⟩⟩)) ?_
  simp -dsimp only [YZ,XZ,SZ,EZ,astep,aun,AVal.cells,seval,DS_nil,DS_cons,seesAll,staysAll,abit,List.getD_cons_zero,List.getD_cons_succ,AOp.quiet,AOp.reads,true_and,and_true,decide_true,decide_false,and_self,l2,l3]
 simp -dsimp only [YZ,XZ,SZ,EZ,astep,aun,AVal.cells,seval,DS_nil,DS_cons,seesAll,staysAll,abit,List.getD_cons_zero,List.getD_cons_succ,AOp.quiet,AOp.reads,true_and,and_true,decide_true,decide_false,and_self]
 refine DRX.nm rfl ?_
 exact DRX.retv ⟨_,by simp [aresult,ares,Env.get] <;> rfl,.inr ⟨i,st',D',w4 _ ev.pass,rfl,hi,q4.trans g⟩⟩
theorem catch10 {N:Nat} {p k:Int} {s:ByteArray} {b3 b4 b5:Nat} {t:IT} {H1:AHeap} {D1:Nat→Prop} (ht:TOk ts) (hx:Upto ts pid 67 .expr N) (hN:rem ts st≤N) (hk8:(tk ts st.at_).k≠8) (hk8':(tk ts (st.at_+1)).k≠8) (q1:Good1 ts pid H D st st H1 D1) (h3:Prv H H1 D1 b3 (.cells 31 (tk ts st.at_).cells)) (h4:Prv H H1 D1 b4 (.cells 42 (ndC .nils (node 21 [] p)))) (h5:Prv H H1 D1 b5 (.cells 42 (ndC .nils ⟨k,s,0,0,[],p⟩))) (hne:b4≠b5)
  (w1:∀ o,Ev ts (outC ts p ⟨k,(tk ts st.at_).s,0,0,[],p⟩ (adv (adv st))) o→Ev ts t o) :
  DRX Tryd.prog (kof k92) 107 [.code (.region false r92_10 [0,4,5]),.code (.region false r92_11 [0,4,5]),.code (.seq (.region false r92_12 [0,4,7]) (.seq (.region true r92_13 [2]) .ret))] [] [(0,.ptr pid 0),(3,.ptr b3 0),(4,.ptr b4 0),(5,.ptr b5 0)] H1 (fun e ds T' H'=>DLeave Tryd.prog [.tmp 2] ds e T' H' (PostN ts pid H D st t)):=by
 have l1:=load_cell h3.get (o:=1) (v:=.str (tk ts st.at_).s) rfl
 have s1:=store_cell h5.get (o:=1) (v:=.str (tk ts st.at_).s) (by show 1 < 6; omega) rfl rfl
 have h4':=h4.other (c:=.cells 42 (ndC .nils ⟨k,(tk ts st.at_).s,0,0,[],p⟩)) hne
 have h5':=h5.set (c:=.cells 42 (ndC .nils ⟨k,(tk ts st.at_).s,0,0,[],p⟩))
 have q2:=q1.own h5.new h5.no (.cells 42 (ndC .nils ⟨k,(tk ts st.at_).s,0,0,[],p⟩))
 have hput:aput (ndC .nils ⟨k,s,0,0,[],p⟩) 1 [.str (tk ts st.at_).s]=ndC .nils ⟨k,(tk ts st.at_).s,0,0,[],p⟩:=rfl
 rw [hput] at s1
 generalize hH2:H1.set b5 (.cells 42 (ndC .nils ⟨k,(tk ts st.at_).s,0,0,[],p⟩))=H2 at s1 h4' h5' q2
 obtain ⟨la,hw,H3,e3,p3,f3⟩:=q2.pr.step ht hk8
 have q3:=q2.adv p3 f3
 obtain ⟨lb,hw2,H4,e4,p4,f4⟩:=q3.pr.step ht hk8'
 have q4:=q3.adv p4 f4
 have hw3:IntKind.i64.wrap ((st.at_:Int)+2)=((st.at_+2:Nat):Int):=by
  have:=q4.pr.lt; have:=ht.short; simp only [adv] at *
  exact wrap64 (n:=st.at_+2) (by omega)
 obtain ⟨H5,e5,p5,f5⟩:∃ H5,astore H2 1 (.ptr pid 1) (.int .i64 ((st.at_+2:Nat):Int))=some H5∧PR ts H5 pid (adv (adv st)) D1∧Fr H2 D1 H5 D1:=by
  obtain ⟨⟨xt,xn,hb,htk,hn,hx,ho⟩,h6,h7,hlt,hd,hm⟩:=q2.pr
  refine ⟨_,store_cell hb (by show 1 < 4; omega) rfl rfl,?_,?_⟩
  ·have hf:∀ j,j≠pid→(H2.set pid (.cells 61 [xt,.int .i64 ((st.at_+2:Nat):Int),.int .i64 (st.deep:Nat),xn])).get j=H2.get j:=fun j hj=>by rw [AHeap.get_set,if_neg hj]
   exact ⟨⟨xt,xn,by rw [AHeap.get_set,if_pos rfl,if_pos (AHeap.get_lt hb)]; rfl,htk.frame fun j hj=>hf j (hx j hj).2.1,hn.frame (fun j hj=>hf j (ho j hj).2) (fun j _ hj=>hf j hj),hx,ho⟩,h6,h7,q4.pr.lt,hd,hm⟩
  ·exact ⟨by simp,fun j hj hjd=>by rw [AHeap.get_set,if_neg (fun e=>hjd (by rw [e]; exact h6))],fun j h=>.inl h⟩
 have q5:Good1 ts pid H D st (adv (adv st)) H5 D1:=(q2.adv p3 f3).adv p4 f4 |> fun z=>⟨p5,q2.deep,z.at_,q2.fr.trans f5,q2.nds⟩
 refine DRX.go rfl ?_
 simp -dsimp only [XZ,SZ,EZ,astep,aun,AVal.cells,seval,l1,s1]
 refine DRX.go rfl ?_
 simp -dsimp only [XZ,SZ,EZ,astep,aun,AVal.cells,seval,la,abin,hw3,e5]
 refine DRX.nm rfl ?_
 exact catch12 ht hx hN q5 (h4'.fr f5) (h5'.fr f5) rfl w1
end
end Go.Am.Rl
namespace Go.Am.Rl
open Go.Proofs
section
variable {ts:List TK} {H:AHeap} {pid:Nat} {st:PS} {D:Nat→Prop}
abbrev rest92:ACode:=.seq (.region false r92_12 [0,4,7]) (.seq (.region true r92_13 [2]) .ret)
theorem catch7 {N:Nat} {b3 b4 b5:Nat} {t:IT} {H1:AHeap} {D1:Nat→Prop} (ht:TOk ts) (hx:Upto ts pid 67 .expr N) (hN:rem ts st≤N) (hk8:(tk ts st.at_).k≠8) (hk8':(tk ts (st.at_+1)).k≠8) (q1:Good1 ts pid H D st st H1 D1) (h3:Prv H H1 D1 b3 (.cells 31 (tk ts st.at_).cells)) (h4:Prv H H1 D1 b4 (.cells 42 (ndC .nils (node 21 [] (tk ts st.at_).p)))) (h5:Prv H H1 D1 b5 (.cells 42 (ndC .nils ⟨3,w_throw,0,0,[],(tk ts st.at_).p⟩))) (hne:b4≠b5) (hne3:b3≠b5)
  (w1:∀ o,Ev ts (if ((tk ts st.at_).k==2&&seq (tk ts st.at_).s w_under)=true then outC ts (tk ts st.at_).p ⟨4,(tk ts st.at_).s,0,0,[],(tk ts st.at_).p⟩ (adv (adv st))
    else if ((tk ts st.at_).k==1&&((seq (tk ts st.at_).s w_error || seq (tk ts st.at_).s w_exit) || seq (tk ts st.at_).s w_throw))=true then outC ts (tk ts st.at_).p ⟨3,(tk ts st.at_).s,0,0,[],(tk ts st.at_).p⟩ (adv (adv st))
    else .fail 24 (tk ts st.at_).p) o→Ev ts t o) :
  DRX Tryd.prog (kof k92) 107 [.code (.seq (.block 0 (
   .seq (
   .region false r92_7 [0,3,4,5,58]) (
   .cond (.t 58) (
    .region false r92_8 [0,3,4,5]) (
    .seq (
    .region false r92_9 [0,3,4,5,68]) (
    .cond (.t 68) (
     .skip) (
     .region false r92_6 [0,3,4,5])))))) (.seq (.region false r92_10 [0,4,5]) (.region false r92_11 [0,4,5]))),.code rest92] [] [(0,.ptr pid 0),(3,.ptr b3 0),(4,.ptr b4 0),(5,.ptr b5 0)] H1 (fun e ds T' H'=>DLeave Tryd.prog [.tmp 2] ds e T' H' (PostN ts pid H D st t)):=by
 have l0:=load_cell h3.get (o:=0) (v:=.int .i64 (tk ts st.at_).k) rfl
 have l1:=load_cell h3.get (o:=1) (v:=.str (tk ts st.at_).s) rfl
 have l4:=load_cell h3.get (o:=4) (v:=.int .i64 (tk ts st.at_).p) rfl
 have e1:((tk ts st.at_).k==2&&seq (tk ts st.at_).s w_under)=true∨((tk ts st.at_).k==2&&seq (tk ts st.at_).s w_under)=false:=by cases ((tk ts st.at_).k==2&&seq (tk ts st.at_).s w_under) <;> simp
 rcases e1 with e1 | e1
 ·have w2:=fun o h=>w1 o (Ev.t e1 h)
  rw [Bool.and_eq_true] at e1
  obtain ⟨e1,e2⟩:=e1
  unfold seq at e2
  have s1:=store_cell h5.get (o:=0) (v:=.int .i64 4) (by show 0 < 6; omega) rfl rfl
  refine DRX.go rfl ?_
  simp -dsimp only [XZ,SZ,EZ,astep,aun,AVal.cells,seval,l0,l1,abin,e1,e2]
  refine DRX.ye rfl rfl ?_
  refine DRX.go rfl ?_
  simp -dsimp only [XZ,SZ,EZ,astep,aun,AVal.cells,seval,s1]
  refine DRX.nm rfl ?_
  refine catch10 (k:=4) (s:=w_throw) ht hx hN hk8 hk8' (q1.own h5.new h5.no _) (h3.other hne3) (h4.other hne) (h5.set) hne w2
 ·have w2:=fun o h=>w1 o (Ev.f e1 h)
  have go:DRX Tryd.prog (kof k92) 107 [.code (
    .seq (
    .region false r92_9 [0,3,4,5,68]) (
    .cond (.t 68) (
     .skip) (
     .region false r92_6 [0,3,4,5]))),.inBlock 0,.code (.seq (.region false r92_10 [0,4,5]) (.region false r92_11 [0,4,5])),.code rest92] [] [(0,.ptr pid 0),(3,.ptr b3 0),(4,.ptr b4 0),(5,.ptr b5 0)] H1 (fun e ds T' H'=>DLeave Tryd.prog [.tmp 2] ds e T' H' (PostN ts pid H D st t)):=by
   have fin:((tk ts st.at_).k==1&&((seq (tk ts st.at_).s w_error || seq (tk ts st.at_).s w_exit) || seq (tk ts st.at_).s w_throw))=true→DRX Tryd.prog (kof k92) 107 [.code (.region false r92_10 [0,4,5]),.code (.region false r92_11 [0,4,5]),.code rest92] [] [(0,.ptr pid 0),(3,.ptr b3 0),(4,.ptr b4 0),(5,.ptr b5 0)] H1 (fun e ds T' H'=>DLeave Tryd.prog [.tmp 2] ds e T' H' (PostN ts pid H D st t)):=fun h=>
    catch10 (k:=3) (s:=w_throw) ht hx hN hk8 hk8' q1 h3 h4 h5 hne fun o h'=>w2 o (Ev.t h h')
   have bad:((tk ts st.at_).k==1&&((seq (tk ts st.at_).s w_error || seq (tk ts st.at_).s w_exit) || seq (tk ts st.at_).s w_throw))=false→DRX Tryd.prog (kof k92) 107 [.code (.region false r92_6 [0,3,4,5]),.inBlock 0,.code (.seq (.region false r92_10 [0,4,5]) (.region false r92_11 [0,4,5])),.code rest92] [] [(0,.ptr pid 0),(3,.ptr b3 0),(4,.ptr b4 0),(5,.ptr b5 0)] H1 (fun e ds T' H'=>DLeave Tryd.prog [.tmp 2] ds e T' H' (PostN ts pid H D st t)):=by
    intro h
    refine DRX.go rfl ?_
    simp -dsimp only [XZ,SZ,EZ,astep,aun,AVal.cells,seval,l4]
    refine (g36 H1 24 (tk ts st.at_).p).mono ?_
    rintro o H2 ⟨rfl,rfl⟩
    exact DLeave.pan' (.inl ⟨24,_,w2 _ (Ev.f h .fail),q1.bad ⟨rfl,_,_,q1.pr,rfl,Fr.refl _ _⟩⟩)
   cases c1:((tk ts st.at_).k==1) with
   | false=>
    rw [c1] at bad
    refine DRX.go rfl ?_
    simp -dsimp only [XZ,SZ,EZ,astep,aun,AVal.cells,seval,l0,l1,abin,c1]
    refine DRX.ne rfl rfl ?_
    refine DRX.nm rfl ?_
    exact DRX.only [0,3,4,5] (bad rfl)
   | true=>
    rw [c1] at bad fin
    unfold seq at bad fin
    cases c2:((tk ts st.at_).s.toList==w_error.toList) with
    | true=>
     rw [c2] at fin
     refine DRX.go rfl ?_
     simp -dsimp only [XZ,SZ,EZ,astep,aun,AVal.cells,seval,l0,l1,abin,c1,c2]
     refine DRX.ye rfl rfl ?_
     refine DRX.nm rfl ?_
     exact DRX.only [0,3,4,5] (fin rfl)
    | false=>
     cases c3:((tk ts st.at_).s.toList==w_exit.toList) with
     | true=>
      rw [c2,c3] at fin
      refine DRX.go rfl ?_
      simp -dsimp only [XZ,SZ,EZ,astep,aun,AVal.cells,seval,l0,l1,abin,c1,c2,c3]
      refine DRX.ye rfl rfl ?_
      refine DRX.nm rfl ?_
      exact DRX.only [0,3,4,5] (fin rfl)
     | false=>
      cases c4:((tk ts st.at_).s.toList==w_throw.toList) with
      | true=>
       rw [c2,c3,c4] at fin
       refine DRX.go rfl ?_
       simp -dsimp only [XZ,SZ,EZ,astep,aun,AVal.cells,seval,l0,l1,abin,c1,c2,c3,c4]
       refine DRX.ye rfl rfl ?_
       refine DRX.nm rfl ?_
       exact DRX.only [0,3,4,5] (fin rfl)
      | false=>
       rw [c2,c3,c4] at bad
       refine DRX.go rfl ?_
       simp -dsimp only [XZ,SZ,EZ,astep,aun,AVal.cells,seval,l0,l1,abin,c1,c2,c3,c4]
       refine DRX.ne rfl rfl ?_
       refine DRX.nm rfl ?_
       exact DRX.only [0,3,4,5] (bad rfl)
  cases c1:((tk ts st.at_).k==2) with
  | false=>
   refine DRX.go rfl ?_
   simp -dsimp only [XZ,SZ,EZ,astep,aun,AVal.cells,seval,l0,l1,abin,c1]
   refine DRX.ne rfl rfl ?_
   exact DRX.only [0,3,4,5] go
  | true=>
   rw [c1,Bool.true_and] at e1
   unfold seq at e1
   refine DRX.go rfl ?_
   simp -dsimp only [XZ,SZ,EZ,astep,aun,AVal.cells,seval,l0,l1,abin,c1,e1]
   refine DRX.ne rfl rfl ?_
   exact DRX.only [0,3,4,5] go
theorem u92 {N:Nat} (ht:TOk ts) (hx:Upto ts pid 67 .expr N):Upto ts pid 92 .catches N:=by
 intro st hN H D hp
 refine DCallX.of_body (fn:=Tryd.f92) (by kernel_rfl) c92 (by kernel_rfl) (by simp [f92]) ?_
 unfold f92
 simp only []
 have q0:=Good1.refl hp
 have w0:=fun o (h:Ev ts (rule ts (.catches) st) o)=>h
 refine DRX.go rfl ?_
 simp -dsimp only [XZ,SZ,EZ,astep,aun,AVal.cells,seval]
 refine DRX.go rfl ?_
 simp -dsimp only [XZ,SZ,EZ,astep,aun,AVal.cells,seval]
 refine DCall.monoX (g37 q0.pr) ?_
 rintro a H1 ⟨rfl,k1⟩
 obtain ⟨Hx,H2,ex,e2,k2,g2,n2⟩:=new31 H1 (tk ts st.at_)
 have q1:=q0.gro k1
 have b2:Prv H H2 D H1.next _:=Prv.made q1 g2
 have q2:=q1.gro k2
 have hz:tok0=[.int .i64 0,.str ⟨#[]⟩,.int .i64 0,.flt .f64 0,.int .i64 0]:=rfl
 simp -dsimp only [XZ,SZ,EZ,astep,aun,AVal.cells,seval,← hz,ex,e2]
 have l24:=load_cell b2.get (o:=4) (v:=.int .i64 (tk ts st.at_).p) rfl
 have hf1:afill [.int .i64 0,.str ⟨#[]⟩,.int .i64 0,.flt .f64 0,.nils,.int .i64 0] [(0,1,.int .i64 21),(5,1,.int .i64 (tk ts st.at_).p)]=some (ndC .nils (node 21 [] (tk ts st.at_).p)):=rfl
 obtain ⟨Hy,H3,ey,e3,k3,g3,n3⟩:=new42 H2 (node 21 [] (tk ts st.at_).p)
 have b3:Prv H H3 D H2.next _:=Prv.made q2 g3
 have q3:=q2.gro k3
 have b23:=b2.gro k3
 refine DRX.go rfl ?_
 simp -dsimp only [XZ,SZ,EZ,astep,aun,AVal.cells,seval,l24,Env.parts,hf1,ey,e3]
 have l34:=load_cell b23.get (o:=4) (v:=.int .i64 (tk ts st.at_).p) rfl
 have hf2:afill [.int .i64 0,.str ⟨#[]⟩,.int .i64 0,.flt .f64 0,.nils,.int .i64 0] [(0,1,.int .i64 3),(1,1,.str ⟨#[116,104,114,111,119]⟩),(5,1,.int .i64 (tk ts st.at_).p)]=some (ndC .nils ⟨3,w_throw,0,0,[],(tk ts st.at_).p⟩):=rfl
 obtain ⟨Hz,H4,ez,e4,k4,g4,n4⟩:=new42 H3 ⟨3,w_throw,0,0,[],(tk ts st.at_).p⟩
 have b4:Prv H H4 D H3.next _:=Prv.made q3 g4
 have q4:=q3.gro k4
 have b24:=b23.gro k4
 have b34:=b3.gro k4
 refine DRX.go rfl ?_
 simp -dsimp only [XZ,SZ,EZ,astep,aun,AVal.cells,seval,l34,Env.parts,hf2,ez,e4]
 have l0:=load_cell b24.get (o:=0) (v:=.int .i64 (tk ts st.at_).k) rfl
 have lt1:H1.next≠H3.next:=by have:=b23.lt; omega
 have lt2:H2.next≠H3.next:=by have:=b3.lt; omega
 have no:(((tk ts st.at_).k==1 || (tk ts st.at_).k==2)&&((tk ts (st.at_+1)).k==6)&&seq (tk ts (st.at_+1)).s w_colon)=false→DRX Tryd.prog (kof k92) 107 [.code (.region false r92_12 [0,4,7]),.code (.seq (.region true r92_13 [2]) .ret)] [] [(0,.ptr pid 0),(4,.ptr H2.next 0),(5,.ptr H3.next 0)] H4 (fun e ds T' H'=>DLeave Tryd.prog [.tmp 2] ds e T' H' (PostN ts pid H D st (rule ts .catches st))):=
  fun h=>catch12 ht hx hN q4 b34 b4 rfl fun o h'=>w0 o (Ev.f h h')
 have yes:(tk ts st.at_).k≠8→(((tk ts st.at_).k==1 || (tk ts st.at_).k==2)&&((tk ts (st.at_+1)).k==6)&&seq (tk ts (st.at_+1)).s w_colon)=true→DRX Tryd.prog (kof k92) 107 [.code (.seq (.block 0 (
   .seq (
   .region false r92_7 [0,3,4,5,58]) (
   .cond (.t 58) (
    .region false r92_8 [0,3,4,5]) (
    .seq (
    .region false r92_9 [0,3,4,5,68]) (
    .cond (.t 68) (
     .skip) (
     .region false r92_6 [0,3,4,5])))))) (.seq (.region false r92_10 [0,4,5]) (.region false r92_11 [0,4,5]))),.code rest92] [] [(0,.ptr pid 0),(3,.ptr H1.next 0),(4,.ptr H2.next 0),(5,.ptr H3.next 0)] H4 (fun e ds T' H'=>DLeave Tryd.prog [.tmp 2] ds e T' H' (PostN ts pid H D st (rule ts .catches st))):=by
  intro hk h
  refine catch7 ht hx hN hk ?_ q4 b24 b34 b4 lt2 lt1 fun o h'=>w0 o (Ev.t h h')
  intro e
  rw [Bool.and_eq_true,Bool.and_eq_true,e] at h
  exact absurd h.1.2 (by decide)
 have mid:∀ b:Bool,b=((tk ts st.at_).k==1 || (tk ts st.at_).k==2)→DRX Tryd.prog (kof k92) 107 [.code (
 .seq (
 .region true r92_5 [0,3,4,5,54]) (
 .cond (.t 54) (
  .seq (
  .block 0 (
   .seq (
   .region false r92_7 [0,3,4,5,58]) (
   .cond (.t 58) (
    .region false r92_8 [0,3,4,5]) (
    .seq (
    .region false r92_9 [0,3,4,5,68]) (
    .cond (.t 68) (
     .skip) (
     .region false r92_6 [0,3,4,5])))))) (
  .seq (
  .region false r92_10 [0,4,5]) (
  .region false r92_11 [0,4,5]))) (
  .skip))),.code rest92] [] [(0,.ptr pid 0),(3,.ptr H1.next 0),(4,.ptr H2.next 0),(5,.ptr H3.next 0),(6,.bool b)] H4 (fun e ds T' H'=>DLeave Tryd.prog [.tmp 2] ds e T' H' (PostN ts pid H D st (rule ts .catches st))):=by
  intro b hb
  rw [← hb] at yes no
  cases b with
  | false=>
   refine DRX.nm rfl ?_
   refine DRX.draw (by kernel_rfl) d92_5 ?_
   simp -dsimp only [m92_5,YZ,XZ,SZ,EZ,astep,aun,AVal.cells,seval,DS_nil,DS_cons,seesAll,staysAll,abit,List.getD_cons_zero,List.getD_cons_succ,AOp.quiet,AOp.reads,true_and,and_true,decide_true,decide_false,and_self]
   refine DRX.ne rfl rfl ?_
   refine DRX.nm rfl ?_
   exact DRX.only [0,4,5] (no rfl)
  | true=>
   have hk:(tk ts st.at_).k≠8:=by
    intro e; rw [e] at hb; exact absurd hb (by decide)
   obtain ⟨xt,id,o,la,lb,hw,ix,lk0,ls,lk⟩:=q4.pr.look ht (ht.next q4.pr.lt hk)
   unfold seq at yes no
   cases c3:((tk ts (st.at_+1)).k==6) with
   | false=>
    rw [c3] at no
    refine DRX.nm rfl ?_
    refine DRX.draw (by kernel_rfl) d92_5 ?_
    simp -dsimp only [m92_5,YZ,XZ,SZ,EZ,astep,aun,AVal.cells,seval,DS_nil,DS_cons,seesAll,staysAll,abit,List.getD_cons_zero,List.getD_cons_succ,AOp.quiet,AOp.reads,true_and,and_true,decide_true,decide_false,and_self,la,lb,abin,hw,ix,lk,c3]
    refine DRX.ne rfl rfl ?_
    refine DRX.nm rfl ?_
    exact DRX.only [0,4,5] (no rfl)
   | true=>
    rw [c3] at no yes
    cases c4:((tk ts (st.at_+1)).s.toList==w_colon.toList) with
    | false=>
     rw [c4] at no
     refine DRX.nm rfl ?_
     refine DRX.draw (by kernel_rfl) d92_5 ?_
     simp -dsimp only [m92_5,YZ,XZ,SZ,EZ,astep,aun,AVal.cells,seval,DS_nil,DS_cons,seesAll,staysAll,abit,List.getD_cons_zero,List.getD_cons_succ,AOp.quiet,AOp.reads,true_and,and_true,decide_true,decide_false,and_self,la,lb,abin,hw,ix,lk,ls,c3,c4]
     refine DRX.ne rfl rfl ?_
     refine DRX.nm rfl ?_
     exact DRX.only [0,4,5] (no rfl)
    | true=>
     rw [c4] at yes
     refine DRX.nm rfl ?_
     refine DRX.draw (by kernel_rfl) d92_5 ?_
     simp -dsimp only [m92_5,YZ,XZ,SZ,EZ,astep,aun,AVal.cells,seval,DS_nil,DS_cons,seesAll,staysAll,abit,List.getD_cons_zero,List.getD_cons_succ,AOp.quiet,AOp.reads,true_and,and_true,decide_true,decide_false,and_self,la,lb,abin,hw,ix,lk,ls,c3,c4]
     refine DRX.ye rfl rfl ?_
     exact DRX.only [0,3,4,5] (yes hk rfl)
 cases c1:((tk ts st.at_).k==1) with
 | true=>
  rw [c1] at mid
  refine DRX.go rfl ?_
  simp -dsimp only [XZ,SZ,EZ,astep,aun,AVal.cells,seval,l0,abin,c1]
  exact mid _ rfl
 | false=>
  cases c2:((tk ts st.at_).k==2) with
  | true=>
   rw [c1,c2] at mid
   refine DRX.go rfl ?_
   simp -dsimp only [XZ,SZ,EZ,astep,aun,AVal.cells,seval,l0,abin,c1,c2]
   exact mid _ rfl
  | false=>
   rw [c1,c2] at mid
   refine DRX.go rfl ?_
   simp -dsimp only [XZ,SZ,EZ,astep,aun,AVal.cells,seval,l0,abin,c1,c2]
   exact mid _ rfl
end
end Go.Am.Rl
namespace Go.Am.Rl
open Go.Proofs
section
variable {ts:List TK} {H:AHeap} {pid:Nat} {st:PS} {D:Nat→Prop}
theorem loop88 {x:NT} {fx:FuncId} {av cv:List AVal} {p:Int} {t:IT} {k k':List AItem} {Q:AEnd→List ADef→Env→AHeap→Prop} (hk:aexitTo 0 k=some k') (ht:TOk ts) (hp:PR ts H pid st D)
  (hx:∀ st' H' D',rem ts st'≤rem ts st→PR ts H' pid st' D'→Fr H D H' D'→DCallX Tryd.prog fx (av++[]++cv) H' (PostN ts pid H' D' st' (rule ts x st')))
  (hbad:∀ T v H',(∃ e p,v=flt1 e p∧Ev ts t (.err e p)∧Bad ts pid H D st e p (.pan v) H')→Q (.pan v) [] T H')
  (hend:∀ H' D' s l v,Good1 ts pid H D st s H' D'→GI H' v l→(∀ j,rid v=some j→H.next≤j)→(∀ j,rid v=some j→¬ D' j)→(∀ o,Ev ts (lay s (node 20 l p) fun i st1=>.done (.n i) st1) o→Ev ts t o)→DRX Tryd.prog (kof k88) 24 k' [] [(0,.ptr pid 0),(5,.int .i64 p),(6,v)] H' Q) :
  ∀ (n:Nat) (H1:AHeap) (D1:Nat→Prop) (s0:PS) (l:List Nat) (v:AVal),rem ts s0≤n→Good1 ts pid H D st s0 H1 D1→GI H1 v l→(∀ j,rid v=some j→H.next≤j)→(∀ j,rid v=some j→¬ D1 j)→l.length≤s0.at_+1→(∀ o,Ev ts (rule ts (.partedL x l p) s0) o→Ev ts t o)→
   DRX Tryd.prog (kof k88) 24 (.code l88_0::.inLoop l88_0::k) [] [(0,.ptr pid 0),(1,.fn (.func fx) av cv),(5,.int .i64 p),(6,v)] H1 Q:=by
 intro n
 induction n with
 | zero=>
  intro H1 D1 s0 l v hr q
  have:=q.pr.lt
  unfold rem at hr; omega
 | succ n ih=>
  intro H1 D1 s0 l v hr q0 hv hvn hvd hll w0
  refine DRX.go rfl ?_
  simp -dsimp only [XZ,SZ,EZ,astep,aun,AVal.cells,seval]
  refine DCall.monoX (g45 (s:=w_semi) q0.pr ht) ?_
  rintro a H2 ⟨rfl,p2,f2⟩
  simp -dsimp only [XZ,SZ,EZ,astep,aun,AVal.cells,seval]
  obtain ⟨hv2,hvd2⟩:=hv.fr f2 hvd
  cases hc:isS ts s0 w_semi with
  | false=>
   rw [hc,if_neg (by simp)] at p2
   refine DRX.ne rfl rfl ?_
   refine DRX.exit (k':=k') (by simpa [aexitTo] using hk) ?_
   exact DRX.only [0,5,6] (hend H2 D1 s0 l v ⟨p2,q0.deep,q0.at_,q0.fr.trans f2,q0.nds⟩ hv2 hvn hvd2 (fun o h=>w0 _ (Ev.f hc h)))
  | true=>
   rw [hc,if_pos rfl] at p2
   have q2:=q0.adv p2 f2
   have w2:=fun o h=>w0 o (Ev.t hc h)
   have h1:s0.at_+1 < ts.length:=p2.lt
   have hs:=ht.short
   refine DRX.ye rfl rfl ?_
   refine DRX.go rfl ?_
   simp -dsimp only [XZ,SZ,EZ,astep,aun,AVal.cells,seval]
   refine (hx (adv s0) _ _ (by have:=q0.at_; unfold rem; simp only [adv]; omega) q2.pr q2.fr).mono ?_
   rintro o H5 (⟨e,p',ev5,rfl,b⟩ | ⟨a5,s5,D5,ev5,rfl,ha5,g5⟩)
   ·exact hbad _ _ _ ⟨e,p',rfl,w2 _ (Ev.callE ev5),q2.bad ⟨rfl,b⟩⟩
   have q5:=q2.trans g5
   have w5:=fun o h=>w2 o (Ev.call ev5 h)
   obtain ⟨hv5,hvd5⟩:=hv2.fr g5.fr hvd2
   obtain ⟨H6,e6⟩:∃ H6,H5.push (.cells 3 [.int .i64 (a5:Nat)])=H6:=⟨_,rfl⟩
   obtain ⟨hr6,k6⟩:RowI H6 (.sl H5.next 0 1 (some 1)) [a5]∧Gro H5 H6:=row2v (x:=[a5]) (by simp) e6
   have hf1:afill [.int .i64 0] [(0,1,.int .i64 (a5:Nat))]=some [.int .i64 (a5:Nat)]:=rfl
   have hat5:=TOk.at_ ht q5.pr
   have hg5:s0.at_+1≤s5.at_:=g5.at_
   obtain ⟨v',H7,ha7,hv7,hn7,f7,hx7⟩:=(hv5.gro k6).app hr6 (by simp; omega)
   have hlt5:∀ j,rid v=some j→j < H5.next:=fun j hj=>hv5.row.lt hj
   have p7:PR ts H7 pid s5 D5:=(q5.pr.gro k6).frame hn7 fun j hj=>f7 j (by have:=q5.pr.dlt j hj; have:=k6.1; omega) (fun e=>hvd5 j e hj)
   have f7':Fr H D H7 D5:=by
    have n5:=q5.fr.1
    have n6:=k6.1
    exact ⟨by omega,fun j hj hd=>by rw [f7 j (by omega) (fun e=>by have:=hvn j e; omega),k6.2 j (by omega),q5.fr.2.1 j hj hd],q5.fr.2.2⟩
   simp -dsimp only [XZ,SZ,EZ,astep,aun,AVal.cells,seval,Env.parts,hf1,e6,ha7]
   refine DRX.nm rfl ?_
   refine DRX.inLoop ?_
   refine ih H7 D5 s5 (l++[a5]) v' (by unfold rem at hr ⊢; omega) ⟨p7,q5.deep,q5.at_,f7',q5.nds⟩ hv7 (fun j hj=> ?_) (fun j hj e=> ?_) (by simp; omega) (fun o h=>w5 o (Ev.pass h))
   ·rcases hx7 j hj with e | e
    ·exact hvn j e
    ·have:=q5.fr.1; have:=k6.1; omega
   ·rcases hx7 j hj with e' | e'
    ·exact hvd5 j e' e
    ·have:=q5.pr.dlt j e; have:=k6.1; omega
theorem u88 {x:NT} {fx:FuncId} {av cv:List AVal} (ht:TOk ts) (hp:PR ts H pid st D)
  (hx:∀ st' H' D',rem ts st'≤rem ts st→PR ts H' pid st' D'→Fr H D H' D'→DCallX Tryd.prog fx (av++[]++cv) H' (PostN ts pid H' D' st' (rule ts x st'))) :
  DCallX Tryd.prog 88 [.ptr pid 0,.fn (.func fx) av cv] H (PostN ts pid H D st (rule ts (.parted x) st)):=by
 refine DCallX.of_body (fn:=Tryd.f88) (by kernel_rfl) c88 (by kernel_rfl) (by simp [f88]) ?_
 unfold f88
 simp only []
 have q0:=Good1.refl hp
 have w0:=fun o (h:Ev ts (rule ts (.parted x) st) o)=>h
 refine DRX.go rfl ?_
 simp -dsimp only [XZ,SZ,EZ,astep,aun,AVal.cells,seval]
 refine DRX.go rfl ?_
 simp -dsimp only [XZ,SZ,EZ,astep,aun,AVal.cells,seval]
 refine DCall.monoX (g33 q0.pr) ?_
 rintro a H1 ⟨rfl,h1⟩
 simp -dsimp only [XZ,SZ,EZ,astep,aun,AVal.cells,seval]
 have q1:=q0.gro h1
 have w1:=w0
 refine DRX.go rfl ?_
 simp -dsimp only [XZ,SZ,EZ,astep,aun,AVal.cells,seval]
 refine (hx st _ _ (Nat.le_refl _) q1.pr q1.fr).mono ?_
 rintro o H2 (⟨e,p,ev2,rfl,b⟩ | ⟨a2,s2,D2,ev2,rfl,ha2,g2⟩)
 ·exact DLeave.pan' (.inl ⟨e,p,w1 _ (Ev.callE ev2),q1.bad ⟨rfl,b⟩⟩)
 have q2:=q1.trans g2
 have w2:=fun o h=>w1 o (Ev.call ev2 h)
 obtain ⟨H3,e3⟩:∃ H3,H2.push (.cells 3 [.int .i64 (a2:Nat)])=H3:=⟨_,rfl⟩
 obtain ⟨hr3,k3⟩:RowI H3 (.sl H2.next 0 1 (some 1)) [a2]∧Gro H2 H3:=row2v (x:=[a2]) (by simp) e3
 have hg3:GI H3 (.sl H2.next 0 1 (some 1)) [a2]:=.inr ⟨H2.next,some 1,rfl,.inr rfl,by rw [← e3,AHeap.get_push,if_pos rfl]; rfl⟩
 have hf1:afill [.int .i64 0] [(0,1,.int .i64 (a2:Nat))]=some [.int .i64 (a2:Nat)]:=rfl
 have f1:=q2.fresh (n:=H2.next) (c:=1) (Nat.le_refl _)
 simp -dsimp only [XZ,SZ,EZ,astep,aun,AVal.cells,seval,Env.parts,hf1,e3]
 refine DRX.nm rfl ?_
 refine DRX.loop ?_
 refine loop88 (t:=rule ts (.parted x) st) rfl ht hp hx ?_ ?_ _ H3 D2 s2 [a2] _ (Nat.le_refl _) (q2.gro k3) hg3 f1.1 f1.2 (by simp) (fun o h=>w2 o (Ev.pass h))
 ·rintro T v H' ⟨e,p,rfl,ev,b⟩
  exact DLeave.pan' (.inl ⟨e,p,ev,b⟩)
 ·intro H' D' s l v q3 hv hvn hvd w3
  have hf2:=ndC_fill hv.row 20 (pos ts st)
  refine DRX.go rfl ?_
  simp -dsimp only [XZ,SZ,EZ,astep,aun,AVal.cells,seval,Env.parts,hf2]
  have vn:(∀ j,rid v=some j→H.next≤j)∧∀ j,rid v=some j→¬ D' j:=⟨hvn,hvd⟩
  refine (g39 (v:=v) (n:=node 20 l (pos ts st)) q3.pr (hv.row) (vn).2).mono ?_
  rintro o H4 (⟨m4,rfl,p4,f4⟩ | ⟨m4,rfl,D4,p4,n4,f4,d4⟩)
  ·exact DLeave.pan' (.inl ⟨2,_,w3 _ (Ev.layE m4),q3.bad ⟨rfl,_,_,p4,rfl,f4⟩⟩)
  have q4:=q3.lay (vn).1 p4 n4 f4 d4
  have w4:=fun o h=>w3 o (Ev.lay m4 h)
  simp -dsimp only [XZ,SZ,EZ,astep,aun,AVal.cells,seval]
  refine DRX.nm rfl ?_
  exact DRX.retv ⟨_,by simp [aresult,ares,Env.get] <;> rfl,.inr ⟨_,_,D4,w4 _ .done,rfl,by simp,q4⟩⟩
theorem u84 {N:Nat} (ht:TOk ts) (hx:Upto ts pid 67 .expr N):Upto ts pid 84 .clauses N:=by
 intro st hN H D hp
 refine DCallX.of_body (fn:=Tryd.f84) (by kernel_rfl) c84 (by kernel_rfl) (by simp [f84]) ?_
 unfold f84
 simp only []
 have q0:=Good1.refl hp
 have w0:=fun o (h:Ev ts (rule ts (.clauses) st) o)=>h
 refine DRX.go rfl ?_
 simp -dsimp only [XZ,SZ,EZ,astep,aun,AVal.cells,seval]
 refine DRX.go rfl ?_
 simp -dsimp only [XZ,SZ,EZ,astep,aun,AVal.cells,seval]
 refine (u88 (x:=.clause) (fx:=89) (av:=[.ptr pid 0]) (cv:=[]) ht hp fun st' H' D' hr hp' _=>u89 ht hx st' (by omega) H' D' hp').mono ?_
 rintro o H2 ho
 rcases ho.pass q0 with ⟨e,p,ev,rfl,b⟩ | ⟨i,st',D',ev,rfl,hi,g⟩
 ·exact DLeave.pan' (.inl ⟨e,p,ev,rfl,b⟩)
 simp -dsimp only [XZ,SZ,EZ,astep,aun,AVal.cells,seval]
 refine DRX.nm rfl ?_
 exact DRX.retv ⟨_,by simp [aresult,ares,Env.get] <;> rfl,.inr ⟨i,st',D',ev,rfl,hi,g⟩⟩
theorem u90 {N:Nat} {box:Nat} (ht:TOk ts) (hx:Upto ts pid 67 .expr N) (hN:rem ts st≤N) (hp:PR ts H pid st D) (hb:H.get box=some (.cells 59 [.ptr pid 0])) (hbd:¬ D box) :
  DCallX Tryd.prog 90 [.ptr box 0] H (PostN ts pid H D st (rule ts .fun1 st)):=by
 refine DCallX.of_body (fn:=Tryd.f90) (by kernel_rfl) c90 (by kernel_rfl) (by simp [f90]) ?_
 unfold f90
 simp only []
 have q0:=Good1.refl hp
 have w0:=fun o (h:Ev ts (rule ts (.fun1) st) o)=>h
 have lb:=load_cell hb (o:=0) (v:=.ptr pid 0) rfl
 refine DRX.go rfl ?_
 simp -dsimp only [XZ,SZ,EZ,astep,aun,AVal.cells,seval]
 refine DRX.go rfl ?_
 simp -dsimp only [XZ,SZ,EZ,astep,aun,AVal.cells,seval,lb]
 refine DCall.monoX (g33 q0.pr) ?_
 rintro a H1 ⟨rfl,h1⟩
 simp -dsimp only [XZ,SZ,EZ,astep,aun,AVal.cells,seval]
 have q1:=q0.gro h1
 have w1:=w0
 obtain ⟨Hx,H2,ex,e2,k2,g2,n2⟩:=new42 H1 (node 21 [] (pos ts st))
 have b2:Prv H H2 D H1.next (.cells 42 (ndC .nils (node 21 [] (pos ts st)))):=Prv.made q1 g2
 have q2:=q1.gro k2
 have w2:∀ o,Ev ts (must ts st w_lp fun st1=>callL (.list w_rp 16) st1 fun l st2=>pass1 (.tail (node 21 [] (pos ts st)) l) st2) o→Ev ts (rule ts .fun1 st) o:=fun o h=>h
 have hf1:afill [.int .i64 0,.str ⟨#[]⟩,.int .i64 0,.flt .f64 0,.nils,.int .i64 0] [(0,1,.int .i64 21),(5,1,.int .i64 (pos ts st))]=some (ndC .nils (node 21 [] (pos ts st))):=rfl
 simp -dsimp only [XZ,SZ,EZ,astep,aun,AVal.cells,seval,Env.parts,hf1,ex,e2]
 have lb2:=load_cell (q2.fr.keep hb hbd).1 (o:=0) (v:=.ptr pid 0) rfl
 refine DRX.go rfl ?_
 simp -dsimp only [XZ,SZ,EZ,astep,aun,AVal.cells,seval,lb2]
 refine (g34 (s:=w_lp) q2.pr ht).mono ?_
 rintro o H3 (⟨m3,rfl,p3,f3⟩ | ⟨m3,rfl,p3,f3⟩)
 rotate_left
 ·exact DLeave.pan' (.inl ⟨24,_,w2 _ (Ev.mustE m3),q2.bad ⟨rfl,_,_,p3,rfl,f3⟩⟩)
 have q3:=q2.adv p3 f3
 have w3:=fun o h=>w2 o (Ev.must m3 h)
 simp -dsimp only [XZ,SZ,EZ,astep,aun,AVal.cells,seval]
 have b3:=b2.fr f3
 have lb3:=load_cell (q3.fr.keep hb hbd).1 (o:=0) (v:=.ptr pid 0) rfl
 have l3:=load_all (n:=6) b3.get rfl
 have hN3:rem ts (adv st)≤N:=by unfold rem at hN ⊢; simp only [adv]; omega
 refine DRX.nm rfl ?_
 refine DRX.draw (by kernel_rfl) d90_3 ?_
 simp -dsimp only [m90_3,YZ,XZ,SZ,EZ,astep,aun,AVal.cells,seval,DS_nil,DS_cons,seesAll,staysAll,abit,List.getD_cons_zero,List.getD_cons_succ,AOp.quiet,AOp.reads,true_and,and_true,decide_true,decide_false,and_self,lb3,l3]
 refine (u54 (s:=w_rp) (most:=16) ht hx hN3 _ _ q3.pr).mono ?_
 rintro o H4 (⟨e,p,ev4,rfl,b⟩ | ⟨a4,s4,D4,ev4,v4,rfl,hv4,hvn4,hvd4,hl4,g4⟩)
 ·refine And.intro (DLeave.pan' (.inl ⟨e,p,w3 _ (Ev.callE ev4),q3.bad ⟨rfl,b⟩⟩)) ?_
  simp -dsimp only [YZ,XZ,SZ,EZ,astep,aun,AVal.cells,seval,DS_nil,DS_cons,seesAll,staysAll,abit,List.getD_cons_zero,List.getD_cons_succ,AOp.quiet,AOp.reads,true_and,and_true,decide_true,decide_false,and_self,lb3,l3]
 have q4:=q3.trans g4
 have w4:=fun o h=>w3 o (Ev.call ev4 h)
 have b4:=b3.fr g4.fr
 have lb4:=load_cell (q4.fr.keep hb hbd).1 (o:=0) (v:=.ptr pid 0) rfl
 have l4:=load_all (n:=6) b4.get rfl
 simp -dsimp only [YZ,XZ,SZ,EZ,astep,aun,AVal.cells,seval,DS_nil,DS_cons,seesAll,staysAll,abit,List.getD_cons_zero,List.getD_cons_succ,AOp.quiet,AOp.reads,true_and,and_true,decide_true,decide_false,and_self,lb4,l4]
 have hat:=TOk.at_ ht q4.pr
 have:=q4.at_
 refine (u55 (N:=N) ht hx (by unfold rem at hN ⊢; omega) q4.pr hv4.row hvd4 (by omega)).mono ?_
 rintro o H5 ho
 rcases ho with ⟨e,p,ev,rfl,b⟩ | ⟨i,st',D',ev,rfl,hi,g⟩
 ·refine And.intro (DLeave.pan' (.inl ⟨e,p,w4 _ ev.pass,q4.bad ⟨rfl,b⟩⟩)) ?_
  simp -dsimp only [YZ,XZ,SZ,EZ,astep,aun,AVal.cells,seval,DS_nil,DS_cons,seesAll,staysAll,abit,List.getD_cons_zero,List.getD_cons_succ,AOp.quiet,AOp.reads,true_and,and_true,decide_true,decide_false,and_self,lb3,l3,lb4,l4]
 simp -dsimp only [YZ,XZ,SZ,EZ,astep,aun,AVal.cells,seval,DS_nil,DS_cons,seesAll,staysAll,abit,List.getD_cons_zero,List.getD_cons_succ,AOp.quiet,AOp.reads,true_and,and_true,decide_true,decide_false,and_self]
 refine DRX.nm rfl ?_
 exact DRX.retv ⟨_,by simp [aresult,ares,Env.get] <;> rfl,.inr ⟨i,st',D',w4 _ ev.pass,rfl,hi,q4.trans g⟩⟩
end
end Go.Am.Rl
namespace Go.Am.Rl
open Go.Proofs
def PostD (ts:List TK) (pid:Nat) (H:AHeap) (D:Nat→Prop) (st:PS) (t:IT) (o:AOut) (H':AHeap):Prop:=
 (∃ e p,Ev ts t (.err e p)∧Bad ts pid H D st e p o H')∨
 ∃ n st' D',Ev ts t (.ok (.d n) st')∧∃ v,o = .ret (.agg (ndC v n))∧RowI H' v n.l∧(∀ j,rid v=some j→H.next≤j)∧(∀ j,rid v=some j→¬ D' j)∧Good1 ts pid H D st st' H' D'
def PostE (ts:List TK) (pid:Nat) (H:AHeap) (D:Nat→Prop) (st:PS) (t:IT) (o:AOut) (H':AHeap):Prop:=
 (∃ e p,Ev ts t (.err e p)∧Bad ts pid H D st e p o H')∨
 ∃ k l st' D',Ev ts t (.ok (.e k l) st')∧∃ v,o = .ret (.tup [.int .i64 k,v])∧RowI H' v l∧(∀ j,rid v=some j→H.next≤j)∧(∀ j,rid v=some j→¬ D' j)∧Good1 ts pid H D st st' H' D'
section
variable {ts:List TK} {H:AHeap} {pid:Nat} {st:PS} {D:Nat→Prop}
theorem Ev.tp {c:Prop} [Decidable c] {A B:IT} {o:Out1} (hc:c) (h:Ev ts A o):Ev ts (if c then A else B) o:=by rw [if_pos hc]; exact h
theorem Ev.fp {c:Prop} [Decidable c] {A B:IT} {o:Out1} (hc:¬ c) (h:Ev ts B o):Ev ts (if c then A else B) o:=by rw [if_neg hc]; exact h
theorem app1 {H5:AHeap} {D5:Nat→Prop} {s5:PS} {v:AVal} {l:List Nat} {a:Nat} (q5:Good1 ts pid H D st s5 H5 D5) (hv5:GI H5 v l) (hvn:∀ j,rid v=some j→H.next≤j) (hvd5:∀ j,rid v=some j→¬ D5 j) (hl:l.length+1 < 1000000) :
  ∃ H6 v' H7,H5.push (.cells 3 [.int .i64 (a:Nat)])=H6∧aapp 3 1 8 H6 v (.sl H5.next 0 1 (some 1))=some (v',H7)∧GI H7 v' (l++[a])∧Good1 ts pid H D st s5 H7 D5∧(∀ j,rid v'=some j→H.next≤j)∧(∀ j,rid v'=some j→¬ D5 j)∧(∀ j,j < H5.next→rid v≠some j→H7.get j=H5.get j)∧(∀ j,rid v'=some j→rid v=some j∨H5.next≤j)∧Gro H5 H6:=by
 obtain ⟨H6,e6⟩:∃ H6,H5.push (.cells 3 [.int .i64 (a:Nat)])=H6:=⟨_,rfl⟩
 obtain ⟨hr6,k6⟩:RowI H6 (.sl H5.next 0 1 (some 1)) [a]∧Gro H5 H6:=row2v (x:=[a]) (by simp) e6
 obtain ⟨v',H7,ha7,hv7,hn7,f7,hx7⟩:=(hv5.gro k6).app hr6 (by simpa using hl)
 have k61:=k6.1
 have n5:=q5.fr.1
 have p7:PR ts H7 pid s5 D5:=(q5.pr.gro k6).frame hn7 fun j hj=>f7 j (by have:=q5.pr.dlt j hj; omega) (fun e=>hvd5 j e hj)
 have f7':Fr H D H7 D5:=⟨by omega,fun j hj hd=>by rw [f7 j (by omega) (fun e=>by have:=hvn j e; omega),k6.2 j (by omega),q5.fr.2.1 j hj hd],q5.fr.2.2⟩
 refine ⟨H6,v',H7,e6,ha7,hv7,⟨p7,q5.deep,q5.at_,f7',q5.nds⟩,fun j hj=> ?_,fun j hj e=> ?_,fun j hj hne=>by rw [f7 j (by omega) hne,k6.2 j hj],fun j hj=>(hx7 j hj).imp id (fun e=>by omega),k6⟩
 ·rcases hx7 j hj with e | e
  ·exact hvn j e
  ·omega
 ·rcases hx7 j hj with e' | e'
  ·exact hvd5 j e' e
  ·have:=q5.pr.dlt j e; omega
theorem u83 {N:Nat} (ht:TOk ts) (hx:Upto ts pid 67 .expr N) (hN:rem ts st≤N) (hp:PR ts H pid st D):DCallX Tryd.prog 83 [.ptr pid 0] H (PostE ts pid H D st (rule ts .elements st)):=by
 refine DCallX.of_body (fn:=Tryd.f83) (by kernel_rfl) c83 (by kernel_rfl) (by simp [f83]) ?_
 unfold f83
 simp only []
 have q0:=Good1.refl hp
 have w0:=fun o (h:Ev ts (rule ts (.elements) st) o)=>h
 refine DRX.go rfl ?_
 simp -dsimp only [XZ,SZ,EZ,astep,aun,AVal.cells,seval]
 refine DRX.go rfl ?_
 simp -dsimp only [XZ,SZ,EZ,astep,aun,AVal.cells,seval]
 refine DCall.monoX (g45 (s:=w_rk) hp ht) ?_
 rintro a H1 ⟨rfl,p1,f1⟩
 simp -dsimp only [XZ,SZ,EZ,astep,aun,AVal.cells,seval]
 cases hc:isS ts st w_rk with
 | true=>
  rw [hc,if_pos rfl] at p1
  have q1:=q0.adv p1 f1
  refine DRX.ye rfl rfl ?_
  refine DRX.go rfl ?_
  simp -dsimp only [XZ,SZ,EZ,astep,aun,AVal.cells,seval]
  refine DRX.nm rfl ?_
  exact DRX.retv ⟨_,by simp [aresult,ares,Env.get] <;> rfl,.inr ⟨7,[],adv st,D,w0 _ (Ev.t hc .done),.nils,rfl,.inl ⟨rfl,rfl⟩,fun j hj=>(by cases hj),fun j hj=>(by cases hj),q1⟩⟩
 | false=>
  rw [hc,if_neg (by simp)] at p1
  have q1:Good1 ts pid H D st st H1 D:=⟨p1,rfl,Nat.le_refl _,f1,Nat.le_refl _⟩
  have w1:=fun o h=>w0 o (Ev.f hc h)
  refine DRX.ne rfl rfl ?_
  refine DRX.go rfl ?_
  simp -dsimp only [XZ,SZ,EZ,astep,aun,AVal.cells,seval]
  refine (u61 ht hx hN _ _ q1.pr).mono ?_
  rintro o H2 (⟨e,p,ev2,rfl,b⟩ | ⟨a2,s2,D2,ev2,v2,rfl,hv2,hvn2,hvd2,hl2,g2⟩)
  ·exact DLeave.pan' (.inl ⟨e,p,w1 _ (Ev.callE ev2),q1.bad ⟨rfl,b⟩⟩)
  have q2:=q1.trans g2
  have w2:=fun o h=>w1 o (Ev.call ev2 h)
  simp -dsimp only [XZ,SZ,EZ,astep,aun,AVal.cells,seval]
  have hvn2':∀ j,rid v2=some j→H.next≤j:=fun j hj=>Nat.le_trans q1.fr.1 (hvn2 j hj)
  have hat:=TOk.at_ ht q2.pr
  refine DRX.go rfl ?_
  simp -dsimp only [XZ,SZ,EZ,astep,aun,AVal.cells,seval]
  refine DCall.monoX (g45 (s:=w_bar) q2.pr ht) ?_
  rintro a H3 ⟨rfl,p3,f3⟩
  obtain ⟨hv3,hvd3⟩:=hv2.fr f3 hvd2
  simp -dsimp only [XZ,SZ,EZ,astep,aun,AVal.cells,seval]
  cases hb:isS ts s2 w_bar with
  | true=>
   rw [hb,if_pos rfl] at p3
   have q3:=q2.adv p3 f3
   have w3:=fun o h=>w2 o (Ev.t hb h)
   refine DRX.ye rfl rfl ?_
   refine DRX.go rfl ?_
   simp -dsimp only [XZ,SZ,EZ,astep,aun,AVal.cells,seval]
   have hN3:rem ts (adv s2)≤N:=by have:=q2.at_; unfold rem at hN ⊢; simp only [adv]; omega
   refine (hx _ hN3 _ _ q3.pr).mono ?_
   rintro o H4 (⟨e,p,ev4,rfl,b⟩ | ⟨a4,s4,D4,ev4,rfl,ha4,g4⟩)
   ·exact DLeave.pan' (.inl ⟨e,p,w3 _ (Ev.callE ev4),q3.bad ⟨rfl,b⟩⟩)
   have q4:=q3.trans g4
   have w4:=fun o h=>w3 o (Ev.call ev4 h)
   simp -dsimp only [XZ,SZ,EZ,astep,aun,AVal.cells,seval]
   obtain ⟨hv4,hvd4⟩:=hv3.fr g4.fr hvd3
   obtain ⟨H5,v6,H6,e5,e6,hv6,q6,hvn6,hvd6,_⟩:=app1 (a:=a4) q4 hv4 hvn2' hvd4 (by omega)
   have w6:=w4
   have hfl:afill [.int .i64 0] [(0,1,.int .i64 (a4:Nat))]=some [.int .i64 (a4:Nat)]:=rfl
   simp -dsimp only [XZ,SZ,EZ,astep,aun,AVal.cells,seval,Env.parts,hfl,e5,e6]
   refine DRX.go rfl ?_
   simp -dsimp only [XZ,SZ,EZ,astep,aun,AVal.cells,seval]
   refine (g34 (s:=w_rk) q6.pr ht).mono ?_
   rintro o H7 (⟨m7,rfl,p7,f7⟩ | ⟨m7,rfl,p7,f7⟩)
   rotate_left
   ·exact DLeave.pan' (.inl ⟨24,_,w6 _ (Ev.mustE m7),q6.bad ⟨rfl,_,_,p7,rfl,f7⟩⟩)
   have q7:=q6.adv p7 f7
   have w7:=fun o h=>w6 o (Ev.must m7 h)
   simp -dsimp only [XZ,SZ,EZ,astep,aun,AVal.cells,seval]
   obtain ⟨hv7,hvd7⟩:=hv6.row.fr f7 hvd6
   refine DRX.go rfl ?_
   simp -dsimp only [XZ,SZ,EZ,astep,aun,AVal.cells,seval]
   refine DRX.nm rfl ?_
   exact DRX.retv ⟨_,by simp [aresult,ares,Env.get] <;> rfl,.inr ⟨8,a2++[a4],_,_,w7 _ .done,v6,rfl,hv7,hvn6,hvd7,q7⟩⟩
  | false=>
   rw [hb,if_neg (by simp)] at p3
   have q3:Good1 ts pid H D st s2 H3 D2:=⟨p3,q2.deep,q2.at_,q2.fr.trans f3,q2.nds⟩
   have w3:=fun o h=>w2 o (Ev.f hb h)
   refine DRX.ne rfl rfl ?_
   refine DRX.go rfl ?_
   simp -dsimp only [XZ,SZ,EZ,astep,aun,AVal.cells,seval]
   refine (g34 (s:=w_rk) q3.pr ht).mono ?_
   rintro o H4 (⟨m4,rfl,p4,f4⟩ | ⟨m4,rfl,p4,f4⟩)
   rotate_left
   ·exact DLeave.pan' (.inl ⟨24,_,w3 _ (Ev.mustE m4),q3.bad ⟨rfl,_,_,p4,rfl,f4⟩⟩)
   have q4:=q3.adv p4 f4
   have w4:=fun o h=>w3 o (Ev.must m4 h)
   simp -dsimp only [XZ,SZ,EZ,astep,aun,AVal.cells,seval]
   obtain ⟨hv4,hvd4⟩:=hv3.row.fr f4 hvd3
   refine DRX.go rfl ?_
   simp -dsimp only [XZ,SZ,EZ,astep,aun,AVal.cells,seval]
   refine DRX.nm rfl ?_
   exact DRX.retv ⟨_,by simp [aresult,ares,Env.get] <;> rfl,.inr ⟨7,a2,_,_,w4 _ .done,v2,rfl,hv4,hvn2',hvd4,q4⟩⟩
end
end Go.Am.Rl
namespace Go.Am.Rl
open Go.Proofs
section
variable {ts:List TK} {H:AHeap} {pid:Nat} {st:PS} {D:Nat→Prop}
abbrev nd0C:List AVal:=[.int .i64 0,.str ⟨#[]⟩,.int .i64 0,.flt .f64 0,.nils,.int .i64 0]
theorem Good1.two {H1:AHeap} {D1:Nat→Prop} {s1:PS} (q:Good1 ts pid H D st s1 H1 D1) (b:ABlk):∃ H2,H1.push b=H2∧Gro H1 H2∧Good1 ts pid H D st s1 H2 D1∧Prv H H2 D1 H1.next b∧H2.next=H1.next+1:=
 ⟨_,rfl,Gro.push _ _,q.gro (Gro.push _ _),Prv.made q (by rw [AHeap.get_push,if_pos rfl]),rfl⟩
theorem Prv.ne {H0 H1:AHeap} {D1:Nat→Prop} {i j:Nat} {b:ABlk} (h:Prv H0 H1 D1 i b) (hj:H1.next≤j):i≠j:=by have:=h.lt; omega
theorem ndone {v:AVal} {H1:AHeap} {l:List Nat} (h:RowI H1 v l):v.cells=[v]∧ones [v]=true:=by
 rcases h with ⟨rfl,_⟩ | ⟨id,c,rfl,_⟩ <;> exact ⟨rfl,rfl⟩
theorem copy42 {H1:AHeap} {D1:Nat→Prop} {s1:PS} {bn br:Nat} {v:AVal} {n:ND} {cs:List AVal} (q:Good1 ts pid H D st s1 H1 D1) (hn:Prv H H1 D1 bn (.cells 42 (ndC v n))) (hr:Prv H H1 D1 br (.cells 42 cs)) (hl:cs.length=6) (hv:RowI H1 v n.l) (hvr:∀ j,rid v=some j→j≠br) :
  aload H1 (some 6) (.ptr bn 0)=some (.agg (ndC v n))∧∃ H2,astore H1 6 (.ptr br 0) (.agg (ndC v n))=some H2∧aload H2 (some 6) (.ptr br 0)=some (.agg (ndC v n))∧Good1 ts pid H D st s1 H2 D1∧RowI H2 v n.l:=by
 refine ⟨load_all (n:=6) hn.get rfl,_,store_all (n:=6) hr.get (by rw [hl]; rfl) (ones_nd hv n) hl,load_all (n:=6) (hr.set (c:=.cells 42 (ndC v n))).get rfl,q.own hr.new hr.no _,hv.frame fun j hj=> ?_⟩
 rw [AHeap.get_set,if_neg (hvr j hj)]
theorem Good1.put {H1:AHeap} {D1:Nat→Prop} {s1:PS} {i:Nat} {e:TypeId} {cs cs':List AVal} (q:Good1 ts pid H D st s1 H1 D1) (b:Prv H H1 D1 i (.cells e cs)) (o:Nat) (v:AVal) (ho:o < cs.length) (hv:v.cells=[v]∧ones [v]=true) (hc:aput cs o [v]=cs') :
  ∃ H2,astore H1 1 (.ptr i o) v=some H2∧Good1 ts pid H D st s1 H2 D1∧Prv H H2 D1 i (.cells e cs')∧(∀ j b,j≠i→Prv H H1 D1 j b→Prv H H2 D1 j b)∧(∀ j,j≠i→H2.get j=H1.get j)∧H2.next=H1.next:=by
 subst hc
 exact ⟨_,store_cell b.get ho hv.1 hv.2,q.own b.new b.no _,b.set,fun j c hj h=>h.other hj,fun j hj=>by rw [AHeap.get_set,if_neg hj],rfl⟩
theorem u85 {N:Nat} {p:Int} (ht:TOk ts) (hx:Upto ts pid 67 .expr N) (hN:rem ts st≤N) (hp:PR ts H pid st D):DCallX Tryd.prog 85 [.ptr pid 0,.agg (ndC .nils (node 0 [] p))] H (PostD ts pid H D st (rule ts (.fun_ (node 0 [] p)) st)):=by
 refine DCallX.of_body (fn:=Tryd.f85) (by kernel_rfl) c85 (by kernel_rfl) (by simp [f85]) ?_
 unfold f85
 simp only []
 have q0:=Good1.refl hp
 have w0:=fun o (h:Ev ts (rule ts (.fun_ (node 0 [] p)) st) o)=>h
 have hcc:(AVal.agg (ndC .nils (node 0 [] p))).cells=ndC .nils (node 0 [] p):=rfl
 obtain ⟨H1,e1,k1,q1,b1,n1⟩:=q0.two (.cells 59 [.ptr pid 0])
 obtain ⟨H2,e2,k2,q2,b2,n2⟩:=q1.two (.cells 42 (ndC .nils (node 0 [] p)))
 obtain ⟨H3,e3,k3,q3,b3,n3⟩:=q2.two (.cells 42 nd0C)
 have b13:=(b1.gro k2).gro k3
 have b23:=b2.gro k3
 have d23:H1.next≠H2.next:=b2.ne (Nat.le_refl _) |> fun h=>by omega
 unfold nd0C at e3
 refine DRX.go rfl ?_
 simp -dsimp only [XZ,SZ,EZ,astep,aun,AVal.cells,seval,hcc,e1,e2,e3]
 have l3:=load_cell b13.get (o:=0) (v:=.ptr pid 0) rfl
 refine DRX.go rfl ?_
 simp -dsimp only [XZ,SZ,EZ,astep,aun,AVal.cells,seval,l3]
 refine DCall.monoX (g37 q3.pr) ?_
 rintro a H4 ⟨rfl,k4⟩
 have q4:=q3.gro k4
 have b14:=b13.gro k4
 have b24:=b23.gro k4
 have b34:=b3.gro k4
 have hfl:afld 0 none (.agg (tk ts st.at_).cells)=some (.int .i64 (tk ts st.at_).k):=rfl
 have l4:=load_cell b14.get (o:=0) (v:=.ptr pid 0) rfl
 cases hk:((tk ts st.at_).k==1) with
 | true=>
  simp -dsimp only [XZ,SZ,EZ,astep,aun,AVal.cells,seval,hfl,abin,hk]
  refine DRX.ye rfl rfl ?_
  refine DRX.go rfl ?_
  simp -dsimp only [XZ,SZ,EZ,astep,aun,AVal.cells,seval,l4]
  refine (g35 (d:=1) q4.pr ht (by decide)).mono ?_
  rintro o H5 (⟨m5,rfl,p5,f5⟩ | ⟨m5,rfl,p5,f5⟩)
  rotate_left
  ·rw [hk] at m5; cases m5
  have q5:=q4.adv p5 f5
  have w5:=fun o h=>w0 o (Ev.t hk h)
  have b15:=b14.fr f5
  have b25:=b24.fr f5
  have b35:=b34.fr f5
  have hfs:afld 1 none (.agg (tk ts st.at_).cells)=some (.str (tk ts st.at_).s):=rfl
  obtain ⟨H6,s5,q6,b26,o6,_⟩:=q5.put b25 0 (.int .i64 14) (by show 0 < 6; omega) ⟨rfl,rfl⟩ (cs':=ndC .nils ⟨14,⟨#[]⟩,0,0,[],p⟩) rfl
  have b16:=o6 _ _ (by omega) b15
  have b36:=o6 _ _ d23.symm b35
  obtain ⟨H7,s6,q7,b27,o7,_⟩:=q6.put b26 1 (.str (tk ts st.at_).s) (by show 1 < 6; omega) ⟨rfl,rfl⟩ (cs':=ndC .nils ⟨14,(tk ts st.at_).s,0,0,[],p⟩) rfl
  have b17:=o7 _ _ (by omega) b16
  have b37:=o7 _ _ d23.symm b36
  simp -dsimp only [XZ,SZ,EZ,astep,aun,AVal.cells,seval,hfs,s5,s6]
  have l7:=load_cell b17.get (o:=0) (v:=.ptr pid 0) rfl
  have w7:∀ o,Ev ts (must ts (adv st) w_slash fun st1=>kind ts st1 3 fun t st2=>if t.n > 16 then .fail 2 t.p else .done (.d ⟨14,(tk ts st.at_).s,t.n,0,[],p⟩) st2) o→Ev ts (rule ts (.fun_ (node 0 [] p)) st) o:=w5
  refine DRX.go rfl ?_
  simp -dsimp only [XZ,SZ,EZ,astep,aun,AVal.cells,seval,l7]
  refine (g34 (s:=w_slash) q7.pr ht).mono ?_
  rintro o H8 (⟨m8,rfl,p8,f8⟩ | ⟨m8,rfl,p8,f8⟩)
  rotate_left
  ·exact DLeave.pan' (.inl ⟨24,_,w7 _ (Ev.mustE m8),q7.bad ⟨rfl,_,_,p8,rfl,f8⟩⟩)
  have q8:=q7.adv p8 f8
  have w8:=fun o h=>w7 o (Ev.must m8 h)
  simp -dsimp only [XZ,SZ,EZ,astep,aun,AVal.cells,seval]
  have b18:=b17.fr f8
  have b28:=b27.fr f8
  have b38:=b37.fr f8
  have l8:=load_cell b18.get (o:=0) (v:=.ptr pid 0) rfl
  refine DRX.go rfl ?_
  simp -dsimp only [XZ,SZ,EZ,astep,aun,AVal.cells,seval,l8]
  refine (g35 (d:=3) q8.pr ht (by decide)).mono ?_
  rintro o H9 (⟨m9,rfl,p9,f9⟩ | ⟨m9,rfl,p9,f9⟩)
  rotate_left
  ·exact DLeave.pan' (.inl ⟨24,_,w8 _ (Ev.kindE m9),q8.bad ⟨rfl,_,_,p9,rfl,f9⟩⟩)
  have q9:=q8.adv p9 f9
  have w9:=fun o h=>w8 o (Ev.kind m9 h)
  simp -dsimp only [XZ,SZ,EZ,astep,aun,AVal.cells,seval]
  have b29:=b28.fr f9
  have b39:=b38.fr f9
  obtain ⟨Hx,H10,ex,e10,k10,g10,n10⟩:=new31 H9 (tk ts (adv (adv st)).at_)
  have b10:Prv H H10 D H9.next _:=Prv.made q9 g10
  have q10:=q9.gro k10
  have w10:=w9
  have b210:=b29.gro k10
  have b310:=b39.gro k10
  have hz:tok0=[.int .i64 0,.str ⟨#[]⟩,.int .i64 0,.flt .f64 0,.int .i64 0]:=rfl
  simp -dsimp only [XZ,SZ,EZ,astep,aun,AVal.cells,seval,← hz,ex,e10]
  have la:=load_cell b10.get (o:=2) (v:=.int .i64 (tk ts (adv (adv st)).at_).n) rfl
  have lp:=load_cell b10.get (o:=4) (v:=.int .i64 (tk ts (adv (adv st)).at_).p) rfl
  by_cases hn:(tk ts (adv (adv st)).at_).n > 16
  ·have w11:=fun o h=>w10 o (Ev.tp hn h)
   have hd:decide ((tk ts (adv (adv st)).at_).n > 16)=true:=decide_eq_true hn
   refine DRX.go rfl ?_
   simp -dsimp only [XZ,SZ,EZ,astep,aun,AVal.cells,seval,la,abin,hd]
   refine DRX.ye rfl rfl ?_
   refine DRX.go rfl ?_
   simp -dsimp only [XZ,SZ,EZ,astep,aun,AVal.cells,seval,lp]
   refine (g36 H10 2 _).mono ?_
   rintro o H11 ⟨rfl,rfl⟩
   exact DLeave.pan' (.inl ⟨2,_,w11 _ .fail,q10.bad ⟨rfl,_,_,q10.pr,rfl,Fr.refl _ _⟩⟩)
  ·have w11:=fun o h=>w10 o (Ev.fp hn h)
   have hd:decide ((tk ts (adv (adv st)).at_).n > 16)=false:=decide_eq_false hn
   refine DRX.go rfl ?_
   simp -dsimp only [XZ,SZ,EZ,astep,aun,AVal.cells,seval,la,abin,hd]
   refine DRX.ne rfl rfl ?_
   obtain ⟨H11,s11,q11,b211,o11,_⟩:=q10.put b210 2 (.int .i64 (tk ts (adv (adv st)).at_).n) (by show 2 < 6; omega) ⟨rfl,rfl⟩ (cs':=ndC .nils ⟨14,(tk ts st.at_).s,(tk ts (adv (adv st)).at_).n,0,[],p⟩) rfl
   have b311:=o11 _ _ d23.symm b310
   refine DRX.go rfl ?_
   simp -dsimp only [XZ,SZ,EZ,astep,aun,AVal.cells,seval,la,s11]
   obtain ⟨l12,H12,s12,l13,q12,hv12⟩:=copy42 q11 b211 b311 rfl (.inl ⟨rfl,rfl⟩) (fun j hj=>by cases hj)
   refine DRX.go rfl ?_
   simp -dsimp only [XZ,SZ,EZ,astep,aun,AVal.cells,seval,l12,s12]
   refine DRX.nm rfl ?_
   exact DRX.retv ⟨_,by simp [aresult,ares,Env.get,l13] <;> rfl,.inr ⟨_,_,_,w11 _ .done,.nils,rfl,hv12,fun j hj=>(by cases hj),fun j hj=>(by cases hj),q12⟩⟩
 | false=>
  simp -dsimp only [XZ,SZ,EZ,astep,aun,AVal.cells,seval,hfl,abin,hk]
  refine DRX.ne rfl rfl ?_
  have w4:∀ o,Ev ts (callN (.parted .fun1) st fun a st1=>must ts st1 w_end fun st2=>.done (.d ⟨13,⟨#[]⟩,0,0,[a],p⟩) st2) o→Ev ts (rule ts (.fun_ (node 0 [] p)) st) o:=fun o h=>w0 o (Ev.f hk h)
  refine DRX.go rfl ?_
  simp -dsimp only [XZ,SZ,EZ,astep,aun,AVal.cells,seval,l4]
  refine (u88 (x:=.fun1) (fx:=90) (av:=[]) (cv:=[.ptr H.next 0]) ht q4.pr fun st' H' D' hr hp' f'=>u90 ht hx (by omega) hp' (b14.fr f').get (b14.fr f').no).mono ?_
  rintro o H5 (⟨e,p,ev5,rfl,b⟩ | ⟨a5,s5,D5,ev5,rfl,ha5,g5⟩)
  ·exact DLeave.pan' (.inl ⟨e,p,w4 _ (Ev.callE ev5),q4.bad ⟨rfl,b⟩⟩)
  have q5:=q4.trans g5
  have w5:=fun o h=>w4 o (Ev.call ev5 h)
  have b15:=b14.fr g5.fr
  have b25:=b24.fr g5.fr
  have b35:=b34.fr g5.fr
  obtain ⟨H6,e6,k6,q6,b6,n6⟩:=q5.two (.cells 3 [.int .i64 (a5:Nat)])
  have b16:=b15.gro k6
  have b26:=b25.gro k6
  have b36:=b35.gro k6
  have hfl:afill [.int .i64 0] [(0,1,.int .i64 (a5:Nat))]=some [.int .i64 (a5:Nat)]:=rfl
  obtain ⟨H7,s7,q7,b27,o7,_⟩:=q6.put b26 0 (.int .i64 13) (by show 0 < 6; omega) ⟨rfl,rfl⟩ (cs':=ndC .nils ⟨13,⟨#[]⟩,0,0,[],p⟩) rfl
  have d6:H1.next≠H5.next:=b25.ne (Nat.le_refl _)
  have d6':H2.next≠H5.next:=b35.ne (Nat.le_refl _)
  have b37:=o7 _ _ d23.symm b36
  have b67:=o7 _ _ d6.symm b6
  obtain ⟨H8,s8,q8,b28,o8,_⟩:=q7.put b27 4 (.sl H5.next 0 1 (some 1)) (by show 4 < 6; omega) ⟨rfl,rfl⟩ (cs':=ndC (.sl H5.next 0 1 (some 1)) ⟨13,⟨#[]⟩,0,0,[a5],p⟩) rfl
  have b38:=o8 _ _ d23.symm b37
  have b68:=o8 _ _ d6.symm b67
  have w8:=w5
  have b18:=o8 _ _ (by omega) (o7 _ _ (by omega) b16)
  have l8:=load_cell b18.get (o:=0) (v:=.ptr pid 0) rfl
  simp -dsimp only [XZ,SZ,EZ,astep,aun,AVal.cells,seval,Env.parts,hfl,e6,s7,s8]
  refine DRX.go rfl ?_
  simp -dsimp only [XZ,SZ,EZ,astep,aun,AVal.cells,seval,l8]
  refine (g34 (s:=w_end) q8.pr ht).mono ?_
  rintro o H9 (⟨m9,rfl,p9,f9⟩ | ⟨m9,rfl,p9,f9⟩)
  rotate_left
  ·exact DLeave.pan' (.inl ⟨24,_,w8 _ (Ev.mustE m9),q8.bad ⟨rfl,_,_,p9,rfl,f9⟩⟩)
  have q9:=q8.adv p9 f9
  have w9:=fun o h=>w8 o (Ev.must m9 h)
  simp -dsimp only [XZ,SZ,EZ,astep,aun,AVal.cells,seval]
  have b29:=b28.fr f9
  have b39:=b38.fr f9
  have b69:=b68.fr f9
  obtain ⟨l12,H12,s12,l13,q12,hv12⟩:=copy42 q9 b29 b39 rfl (.inr ⟨H5.next,some 1,rfl,b69.get⟩) (fun j hj=>by simp only [rid,Option.some.injEq] at hj; omega)
  refine DRX.go rfl ?_
  simp -dsimp only [XZ,SZ,EZ,astep,aun,AVal.cells,seval,l12,s12]
  refine DRX.nm rfl ?_
  exact DRX.retv ⟨_,by simp [aresult,ares,Env.get,l13] <;> rfl,.inr ⟨_,_,_,w9 _ .done,_,rfl,hv12,fun j hj=>(by simp only [rid,Option.some.injEq] at hj; have:=b69.new; omega),fun j hj=>(by simp only [rid,Option.some.injEq] at hj; subst hj; exact b69.no),q12⟩⟩
end
end Go.Am.Rl
namespace Go.Am.Rl
open Go.Proofs
structure NB (ts:List TK) (pid:Nat) (H:AHeap) (D:Nat→Prop) (st s1:PS) (H1:AHeap) (D1:Nat→Prop) (bn br:Nat) (v:AVal) (n:ND):Prop where
 q:Good1 ts pid H D st s1 H1 D1
 nb:Prv H H1 D1 bn (.cells 42 (ndC v n))
 rb:Prv H H1 D1 br (.cells 42 nd0C)
 row:GI H1 v n.l
 new:∀ j,rid v=some j→H.next≤j
 no:∀ j,rid v=some j→¬ D1 j
 ne:bn≠br∧∀ j,rid v=some j→j≠bn∧j≠br
section
variable {ts:List TK} {H:AHeap} {pid:Nat} {st:PS} {D:Nat→Prop} {s1 s2:PS} {H1 H2:AHeap} {D1 D2:Nat→Prop} {bn br:Nat} {v:AVal} {n:ND}
theorem NB.fr (b:NB ts pid H D st s1 H1 D1 bn br v n) (q:Good1 ts pid H D st s2 H2 D2) (f:Fr H1 D1 H2 D2):NB ts pid H D st s2 H2 D2 bn br v n:=
 ⟨q,b.nb.fr f,b.rb.fr f,(b.row.fr f b.no).1,b.new,(b.row.fr f b.no).2,b.ne⟩
theorem NB.load (b:NB ts pid H D st s1 H1 D1 bn br v n):aload H1 none (.ptr bn 4)=some v:=load_cell b.nb.get rfl
theorem NB.setN (b:NB ts pid H D st s1 H1 D1 bn br v n) (m:Int):∃ H2,astore H1 1 (.ptr bn 2) (.int .i64 m)=some H2∧NB ts pid H D st s1 H2 D1 bn br v { n with n:=m }:=by
 obtain ⟨H2,s2,q2,b2,o2,f2,n2⟩:=b.q.put b.nb 2 (.int .i64 m) (by show 2 < 6; omega) ⟨rfl,rfl⟩ (cs':=ndC v { n with n:=m }) rfl
 exact ⟨H2,s2,q2,b2,o2 _ _ b.ne.1.symm b.rb,b.row.frame fun j hj=>f2 j (b.ne.2 j hj).1,b.new,b.no,b.ne⟩
theorem NB.setK (b:NB ts pid H D st s1 H1 D1 bn br v n) (m:Int):∃ H2,astore H1 1 (.ptr bn 0) (.int .i64 m)=some H2∧NB ts pid H D st s1 H2 D1 bn br v { n with k:=m }:=by
 obtain ⟨H2,s2,q2,b2,o2,f2,n2⟩:=b.q.put b.nb 0 (.int .i64 m) (by show 0 < 6; omega) ⟨rfl,rfl⟩ (cs':=ndC v { n with k:=m }) rfl
 exact ⟨H2,s2,q2,b2,o2 _ _ b.ne.1.symm b.rb,b.row.frame fun j hj=>f2 j (b.ne.2 j hj).1,b.new,b.no,b.ne⟩
theorem GI.one {v:AVal} {H1:AHeap} {l:List Nat} (h:GI H1 v l):v.cells=[v]∧ones [v]=true:=by
 rcases h with ⟨rfl,_⟩ | ⟨id,c,rfl,_⟩ <;> exact ⟨rfl,rfl⟩
theorem NB.first (b:NB ts pid H D st s1 H1 D1 bn br .nils n) (a:Nat):∃ H2 H3,H1.push (.cells 3 [.int .i64 (a:Nat)])=H2∧astore H2 1 (.ptr bn 4) (.sl H1.next 0 1 (some 1))=some H3∧NB ts pid H D st s1 H3 D1 bn br (.sl H1.next 0 1 (some 1)) { n with l:=[a] }:=by
 obtain ⟨H2,e2,k2,q2,b2,n2⟩:=b.q.two (.cells 3 [.int .i64 (a:Nat)])
 have d1:bn≠H1.next:=b.nb.ne (Nat.le_refl _)
 have d2:br≠H1.next:=b.rb.ne (Nat.le_refl _)
 obtain ⟨H3,s3,q3,b3,o3,_⟩:=q2.put (b.nb.gro k2) 4 (.sl H1.next 0 1 (some 1)) (by show 4 < 6; omega) ⟨rfl,rfl⟩ (cs':=ndC (.sl H1.next 0 1 (some 1)) { n with l:=[a] }) rfl
 have b23:=o3 _ _ d1.symm b2
 exact ⟨H2,H3,e2,s3,q3,b3,o3 _ _ b.ne.1.symm (b.rb.gro k2),.inr ⟨H1.next,some 1,rfl,.inr rfl,b23.get⟩,fun j hj=>by simp only [rid,Option.some.injEq] at hj; have:=b23.new; omega,fun j hj=>by simp only [rid,Option.some.injEq] at hj; subst hj; exact b23.no,b.ne.1,fun j hj=>by simp only [rid,Option.some.injEq] at hj; omega⟩
theorem NB.more (b:NB ts pid H D st s1 H1 D1 bn br v n) (a:Nat) (hl:n.l.length+1 < 1000000):∃ H2 v' H3 H4,H1.push (.cells 3 [.int .i64 (a:Nat)])=H2∧aload H2 none (.ptr bn 4)=some v∧aapp 3 1 8 H2 v (.sl H1.next 0 1 (some 1))=some (v',H3)∧astore H3 1 (.ptr bn 4) v'=some H4∧NB ts pid H D st s1 H4 D1 bn br v' { n with l:=n.l++[a] }:=by
 obtain ⟨H2,v',H3,e2,e3,hv3,q3,hn3,hd3,f3,hx3,k2⟩:=app1 (a:=a) b.q b.row b.new b.no hl
 have b3:Prv H H3 D1 bn (.cells 42 (ndC v n)):=⟨(f3 bn b.nb.lt (fun e=>(b.ne.2 _ e).1 rfl)).trans b.nb.get,b.nb.no,b.nb.new⟩
 have r3:Prv H H3 D1 br (.cells 42 nd0C):=⟨(f3 br b.rb.lt (fun e=>(b.ne.2 _ e).2 rfl)).trans b.rb.get,b.rb.no,b.rb.new⟩
 obtain ⟨H4,s4,q4,b4,o4,f4,n4⟩:=q3.put b3 4 v' (by show 4 < 6; omega) hv3.one (cs':=ndC v' { n with l:=n.l++[a] }) rfl
 have ne:∀ j,rid v'=some j→j≠bn∧j≠br:=fun j hj=>(hx3 j hj).elim (b.ne.2 j) fun e=>⟨fun e'=>by have:=b.nb.lt; omega,fun e'=>by have:=b.rb.lt; omega⟩
 exact ⟨H2,v',H3,H4,e2,load_cell (b.nb.gro k2).get rfl,e3,s4,q4,b4,o4 _ _ b.ne.1.symm r3,hv3.frame fun j hj=>f4 j (ne j hj).1,hn3,hd3,b.ne.1,ne⟩
theorem NB.copy (b:NB ts pid H D st s1 H1 D1 bn br v n):aload H1 (some 6) (.ptr bn 0)=some (.agg (ndC v n))∧∃ H2,astore H1 6 (.ptr br 0) (.agg (ndC v n))=some H2∧aload H2 (some 6) (.ptr br 0)=some (.agg (ndC v n))∧Good1 ts pid H D st s1 H2 D1∧RowI H2 v n.l:=
 copy42 b.q b.nb b.rb rfl b.row.row fun j hj=>(b.ne.2 j hj).2
theorem NB.made {p:Int} (hp:PR ts H pid st D):∃ H1 H2,H.push (.cells 42 (ndC .nils (node 0 [] p)))=H1∧H1.push (.cells 42 [.int .i64 0,.str ⟨#[]⟩,.int .i64 0,.flt .f64 0,.nils,.int .i64 0])=H2∧NB ts pid H D st st H2 D H.next H1.next .nils (node 0 [] p):=by
 obtain ⟨H2,e2,k2,q2,b2,n2⟩:=(Good1.refl hp).two (.cells 42 (ndC .nils (node 0 [] p)))
 obtain ⟨H3,e3,k3,q3,b3,n3⟩:=q2.two (.cells 42 nd0C)
 exact ⟨H2,H3,e2,e3,q3,b2.gro k3,b3,.inl ⟨rfl,rfl⟩,fun j hj=>(by cases hj),fun j hj=>(by cases hj),by omega,fun j hj=>(by cases hj)⟩
def tryK3 (ts:List TK) (p:Int) (l:List Nat) (m:Int) (s:PS):IT:=must ts s w_end fun s1=>.done (.d ⟨16,⟨#[]⟩,m,0,l,p⟩) s1
def tryK2 (ts:List TK) (p:Int) (caught:Bool) (l:List Nat) (s:PS):IT:=if isS ts s w_after=true then callN .body (adv s) fun b s1=>tryK3 ts p (l++[b]) 1 s1 else if caught=true then none1 ts s 19 fun b s1=>tryK3 ts p (l++[b]) 0 s1 else .fail 24 (pos ts s)
def tryK1 (ts:List TK) (p:Int) (l:List Nat) (s:PS):IT:=if isS ts s w_catch=true then callN (.parted .catches) (adv s) fun c s1=>tryK2 ts p true (l++[c]) s1 else none1 ts s 20 fun c s1=>tryK2 ts p false (l++[c]) s1
theorem try16 {p m:Int} {l:List Nat} {t:IT} (ht:TOk ts) (b1:NB ts pid H D st s1 H1 D1 bn br v ⟨16,⟨#[]⟩,m,0,l,p⟩) (w1:∀ o,Ev ts (tryK3 ts p l m s1) o→Ev ts t o) :
  DRX Tryd.prog (kof k86) 72 [.code (.region false r86_16 [3,4]),.code (.seq (.region false r86_17 [4]) .ret)] [] [(0,.ptr pid 0),(3,.ptr bn 0),(4,.ptr br 0)] H1 (fun e ds T' H'=>DLeave Tryd.prog [.cell 4 (some 6)] ds e T' H' (PostD ts pid H D st t)):=by
 have q1:=b1.q
 unfold tryK3 at w1
 refine DRX.go rfl ?_
 simp -dsimp only [XZ,SZ,EZ,astep,aun,AVal.cells,seval]
 refine (g34 (s:=w_end) q1.pr ht).mono ?_
 rintro o H2 (⟨m2,rfl,p2,f2⟩ | ⟨m2,rfl,p2,f2⟩)
 rotate_left
 ·exact DLeave.pan' (.inl ⟨24,_,w1 _ (Ev.mustE m2),q1.bad ⟨rfl,_,_,p2,rfl,f2⟩⟩)
 have q2:=q1.adv p2 f2
 have w2:=fun o h=>w1 o (Ev.must m2 h)
 simp -dsimp only [XZ,SZ,EZ,astep,aun,AVal.cells,seval]
 have b2:=b1.fr q2 f2
 obtain ⟨l3,H3,s3,l4,q3,hv3⟩:=b2.copy
 refine DRX.go rfl ?_
 simp -dsimp only [XZ,SZ,EZ,astep,aun,AVal.cells,seval,l3,s3]
 refine DRX.nm rfl ?_
 exact DRX.retv ⟨_,by simp [aresult,ares,Env.get,l4] <;> rfl,.inr ⟨_,_,_,w2 _ .done,_,rfl,hv3,b2.new,b2.no,q3⟩⟩
abbrev rest86:ACode:=.seq (.region false r86_16 [3,4]) (.seq (.region false r86_17 [4]) .ret)
theorem try11 {N:Nat} {p:Int} {l:List Nat} {c:Bool} {t:IT} (ht:TOk ts) (hx:Upto ts pid 67 .expr N) (hN:rem ts st≤N) (hl:l.length+1 < 1000000) (b1:NB ts pid H D st s1 H1 D1 bn br v ⟨16,⟨#[]⟩,0,0,l,p⟩) (w1:∀ o,Ev ts (tryK2 ts p c l s1) o→Ev ts t o) :
  DRX Tryd.prog (kof k86) 72 [.code (.seq (.block 0 (
  .seq (
  .region false r86_11 [0,3,4,5,49]) (
  .cond (.t 49) (
   .seq (
   .region false r86_12 [0,3,4]) (
   .region true r86_13 [0,3,4])) (
   .seq (
   .region false r86_14 [0,3,4,60]) (
   .cond (.t 60) (
    .region true r86_15 [0,3,4]) (
    .region false r86_10 [0,3,4])))))) rest86)] [] [(0,.ptr pid 0),(3,.ptr bn 0),(4,.ptr br 0),(5,.bool c)] H1 (fun e ds T' H'=>DLeave Tryd.prog [.cell 4 (some 6)] ds e T' H' (PostD ts pid H D st t)):=by
 have q1:=b1.q
 unfold tryK2 at w1
 refine DRX.go rfl ?_
 simp -dsimp only [XZ,SZ,EZ,astep,aun,AVal.cells,seval]
 refine DCall.monoX (g45 (s:=w_after) q1.pr ht) ?_
 rintro a H2 ⟨rfl,p2,f2⟩
 simp -dsimp only [XZ,SZ,EZ,astep,aun,AVal.cells,seval]
 cases hc:isS ts s1 w_after with
 | true=>
  rw [hc,if_pos rfl] at p2
  have q2:=q1.adv p2 f2
  have w2:=fun o h=>w1 o (Ev.t hc h)
  obtain ⟨H3,s3,b3⟩:=(b1.fr q2 f2).setN 1
  have q3:=b3.q
  have w3:=w2
  refine DRX.ye rfl rfl ?_
  refine DRX.go rfl ?_
  simp -dsimp only [XZ,SZ,EZ,astep,aun,AVal.cells,seval,s3]
  have l3:=b3.load
  have hN3:rem ts (adv s1)≤N:=by have:=q1.at_; unfold rem at hN ⊢; simp only [adv]; omega
  refine DRX.nm rfl ?_
  refine DRX.draw (by kernel_rfl) d86_13 ?_
  simp -dsimp only [m86_13,YZ,XZ,SZ,EZ,astep,aun,AVal.cells,seval,DS_nil,DS_cons,seesAll,staysAll,abit,List.getD_cons_zero,List.getD_cons_succ,AOp.quiet,AOp.reads,true_and,and_true,decide_true,decide_false,and_self,l3]
  refine (u62 ht hx _ hN3 _ _ q3.pr).mono ?_
  rintro o H4 (⟨e,p,ev4,rfl,b⟩ | ⟨a4,s4,D4,ev4,rfl,ha4,g4⟩)
  ·refine And.intro (DLeave.pan' (.inl ⟨e,p,w3 _ (Ev.callE ev4),q3.bad ⟨rfl,b⟩⟩)) ?_
   simp -dsimp only [YZ,XZ,SZ,EZ,astep,aun,AVal.cells,seval,DS_nil,DS_cons,seesAll,staysAll,abit,List.getD_cons_zero,List.getD_cons_succ,AOp.quiet,AOp.reads,true_and,and_true,decide_true,decide_false,and_self,l3]
  have q4:=q3.trans g4
  have w4:=fun o h=>w3 o (Ev.call ev4 h)
  have b4:=b3.fr q4 g4.fr
  have l4:=b4.load
  obtain ⟨H5,v7,H6,H7,e5,l5,e6,s7,b7⟩:=b4.more a4 hl
  have hfl:afill [.int .i64 0] [(0,1,.int .i64 (a4:Nat))]=some [.int .i64 (a4:Nat)]:=rfl
  simp -dsimp only [YZ,XZ,SZ,EZ,astep,aun,AVal.cells,seval,DS_nil,DS_cons,seesAll,staysAll,abit,List.getD_cons_zero,List.getD_cons_succ,AOp.quiet,AOp.reads,true_and,and_true,decide_true,decide_false,and_self,l4,Env.parts,hfl,e5,l5,e6,s7]
  refine DRX.nm rfl ?_
  exact try16 ht b7 w4
 | false=>
  rw [hc,if_neg (by simp)] at p2
  have q2:Good1 ts pid H D st s1 H2 D1:=⟨p2,q1.deep,q1.at_,q1.fr.trans f2,q1.nds⟩
  have w2:=fun o h=>w1 o (Ev.f hc h)
  have b2:=b1.fr q2 f2
  refine DRX.ne rfl rfl ?_
  refine DRX.go rfl ?_
  simp -dsimp only [XZ,SZ,EZ,astep,aun,AVal.cells,seval]
  cases c with
  | true=>
   have w2:=fun o h=>w2 o (Ev.t rfl h)
   refine DRX.ye rfl rfl ?_
   have l2:=b2.load
   refine DRX.nm rfl ?_
   refine DRX.draw (by kernel_rfl) d86_15 ?_
   simp -dsimp only [m86_15,YZ,XZ,SZ,EZ,astep,aun,AVal.cells,seval,DS_nil,DS_cons,seesAll,staysAll,abit,List.getD_cons_zero,List.getD_cons_succ,AOp.quiet,AOp.reads,true_and,and_true,decide_true,decide_false,and_self,l2]
   refine (g91 (d:=19) q2.pr).mono ?_
   rintro o H4 (⟨m4,rfl,p4,f4⟩ | ⟨m4,rfl,D4,p4,f4⟩)
   ·refine And.intro (DLeave.pan' (.inl ⟨2,_,w2 _ (Ev.layE m4),q2.bad ⟨rfl,_,_,p4,rfl,f4⟩⟩)) ?_
    simp -dsimp only [YZ,XZ,SZ,EZ,astep,aun,AVal.cells,seval,DS_nil,DS_cons,seesAll,staysAll,abit,List.getD_cons_zero,List.getD_cons_succ,AOp.quiet,AOp.reads,true_and,and_true,decide_true,decide_false,and_self,l2]
   have q4:=q2.none p4 f4
   have w4:=fun o h=>w2 o (Ev.lay m4 h)
   have b4:=b2.fr q4 f4
   have l4:=b4.load
   obtain ⟨H5,v7,H6,H7,e5,l5,e6,s7,b7⟩:=b4.more s1.nodes.length hl
   have hfl:afill [.int .i64 0] [(0,1,.int .i64 (s1.nodes.length:Nat))]=some [.int .i64 (s1.nodes.length:Nat)]:=rfl
   simp -dsimp only [YZ,XZ,SZ,EZ,astep,aun,AVal.cells,seval,DS_nil,DS_cons,seesAll,staysAll,abit,List.getD_cons_zero,List.getD_cons_succ,AOp.quiet,AOp.reads,true_and,and_true,decide_true,decide_false,and_self,l4,Env.parts,hfl,e5,l5,e6,s7]
   refine DRX.nm rfl ?_
   exact try16 ht b7 w4
  | false=>
   have w2:=fun o h=>w2 o (Ev.f rfl h)
   refine DRX.ne rfl rfl ?_
   refine DRX.go rfl ?_
   simp -dsimp only [XZ,SZ,EZ,astep,aun,AVal.cells,seval]
   refine DCall.monoX (g33 q2.pr) ?_
   rintro a H3 ⟨rfl,h3⟩
   simp -dsimp only [XZ,SZ,EZ,astep,aun,AVal.cells,seval]
   refine (g36 H3 24 _).mono ?_
   rintro o H4 ⟨rfl,rfl⟩
   exact DLeave.pan' (.inl ⟨24,_,w2 _ .fail,(q2.gro h3).bad ⟨rfl,_,_,(q2.gro h3).pr,rfl,Fr.refl _ _⟩⟩)
end
end Go.Am.Rl
namespace Go.Am.Rl
open Go.Proofs
section
variable {ts:List TK} {H:AHeap} {pid:Nat} {st:PS} {D:Nat→Prop} {s1 s2:PS} {H1 H2:AHeap} {D1 D2:Nat→Prop} {bn br:Nat} {v:AVal} {n:ND}
abbrev block86:ACode:=.block 0 (
  .seq (
  .region false r86_11 [0,3,4,5,49]) (
  .cond (.t 49) (
   .seq (
   .region false r86_12 [0,3,4]) (
   .region true r86_13 [0,3,4])) (
   .seq (
   .region false r86_14 [0,3,4,60]) (
   .cond (.t 60) (
    .region true r86_15 [0,3,4]) (
    .region false r86_10 [0,3,4])))))
theorem try6 {N:Nat} {p:Int} {l:List Nat} {t:IT} (ht:TOk ts) (hx:Upto ts pid 67 .expr N) (hN:rem ts st≤N) (hl:l.length+2 < 1000000) (b1:NB ts pid H D st s1 H1 D1 bn br v ⟨16,⟨#[]⟩,0,0,l,p⟩) (w1:∀ o,Ev ts (tryK1 ts p l s1) o→Ev ts t o) :
  DRX Tryd.prog (kof k86) 72 [.code (.region false r86_6 [0,3,4,5]),.code (.seq (
 .seq (
 .region false r86_7 [0,3,4,5,29]) (
 .cond (.t 29) (
  .region true r86_8 [0,3,4,5]) (
  .region true r86_9 [0,3,4,5]))) (.seq block86 rest86))] [] [(0,.ptr pid 0),(3,.ptr bn 0),(4,.ptr br 0)] H1 (fun e ds T' H'=>DLeave Tryd.prog [.cell 4 (some 6)] ds e T' H' (PostD ts pid H D st t)):=by
 have q1:=b1.q
 unfold tryK1 at w1
 refine DRX.go rfl ?_
 simp -dsimp only [XZ,SZ,EZ,astep,aun,AVal.cells,seval]
 refine DCall.monoX (g45 (s:=w_catch) q1.pr ht) ?_
 rintro a H2 ⟨rfl,p2,f2⟩
 simp -dsimp only [XZ,SZ,EZ,astep,aun,AVal.cells,seval]
 cases hc:isS ts s1 w_catch with
 | true=>
  rw [hc,if_pos rfl] at p2
  have q2:=q1.adv p2 f2
  have w2:=fun o h=>w1 o (Ev.t hc h)
  have b2:=b1.fr q2 f2
  refine DRX.go rfl ?_
  simp -dsimp only [XZ,SZ,EZ,astep,aun,AVal.cells,seval]
  refine DRX.ye rfl rfl ?_
  have l2:=b2.load
  have hN2:rem ts (adv s1)≤N:=by have:=q1.at_; unfold rem at hN ⊢; simp only [adv]; omega
  refine DRX.nm rfl ?_
  refine DRX.draw (by kernel_rfl) d86_8 ?_
  simp -dsimp only [m86_8,YZ,XZ,SZ,EZ,astep,aun,AVal.cells,seval,DS_nil,DS_cons,seesAll,staysAll,abit,List.getD_cons_zero,List.getD_cons_succ,AOp.quiet,AOp.reads,true_and,and_true,decide_true,decide_false,and_self,l2]
  refine (u88 (x:=.catches) (fx:=92) (av:=[.ptr pid 0]) (cv:=[]) ht q2.pr fun st' H' D' hr hp' _=>u92 ht hx st' (by omega) H' D' hp').mono ?_
  rintro o H4 (⟨e,p',ev4,rfl,b⟩ | ⟨a4,s4,D4,ev4,rfl,ha4,g4⟩)
  ·refine And.intro (DLeave.pan' (.inl ⟨e,p',w2 _ (Ev.callE ev4),q2.bad ⟨rfl,b⟩⟩)) ?_
   simp -dsimp only [YZ,XZ,SZ,EZ,astep,aun,AVal.cells,seval,DS_nil,DS_cons,seesAll,staysAll,abit,List.getD_cons_zero,List.getD_cons_succ,AOp.quiet,AOp.reads,true_and,and_true,decide_true,decide_false,and_self,l2]
  have q4:=q2.trans g4
  have w4:=fun o h=>w2 o (Ev.call ev4 h)
  have b4:=b2.fr q4 g4.fr
  have l4:=b4.load
  obtain ⟨H5,v7,H6,H7,e5,l5,e6,s7,b7⟩:=b4.more a4 (by simp only; omega)
  have hfl:afill [.int .i64 0] [(0,1,.int .i64 (a4:Nat))]=some [.int .i64 (a4:Nat)]:=rfl
  simp -dsimp only [YZ,XZ,SZ,EZ,astep,aun,AVal.cells,seval,DS_nil,DS_cons,seesAll,staysAll,abit,List.getD_cons_zero,List.getD_cons_succ,AOp.quiet,AOp.reads,true_and,and_true,decide_true,decide_false,and_self,l4,Env.parts,hfl,e5,l5,e6,s7]
  exact try11 (c:=true) ht hx hN (by simp; omega) b7 w4
 | false=>
  rw [hc,if_neg (by simp)] at p2
  have q2:Good1 ts pid H D st s1 H2 D1:=⟨p2,q1.deep,q1.at_,q1.fr.trans f2,q1.nds⟩
  have w2:=fun o h=>w1 o (Ev.f hc h)
  have b2:=b1.fr q2 f2
  refine DRX.go rfl ?_
  simp -dsimp only [XZ,SZ,EZ,astep,aun,AVal.cells,seval]
  refine DRX.ne rfl rfl ?_
  have l2:=b2.load
  refine DRX.nm rfl ?_
  refine DRX.draw (by kernel_rfl) d86_9 ?_
  simp -dsimp only [m86_9,YZ,XZ,SZ,EZ,astep,aun,AVal.cells,seval,DS_nil,DS_cons,seesAll,staysAll,abit,List.getD_cons_zero,List.getD_cons_succ,AOp.quiet,AOp.reads,true_and,and_true,decide_true,decide_false,and_self,l2]
  refine (g91 (d:=20) q2.pr).mono ?_
  rintro o H4 (⟨m4,rfl,p4,f4⟩ | ⟨m4,rfl,D4,p4,f4⟩)
  ·refine And.intro (DLeave.pan' (.inl ⟨2,_,w2 _ (Ev.layE m4),q2.bad ⟨rfl,_,_,p4,rfl,f4⟩⟩)) ?_
   simp -dsimp only [YZ,XZ,SZ,EZ,astep,aun,AVal.cells,seval,DS_nil,DS_cons,seesAll,staysAll,abit,List.getD_cons_zero,List.getD_cons_succ,AOp.quiet,AOp.reads,true_and,and_true,decide_true,decide_false,and_self,l2]
  have q4:=q2.none p4 f4
  have w4:=fun o h=>w2 o (Ev.lay m4 h)
  have b4:=b2.fr q4 f4
  have l4:=b4.load
  obtain ⟨H5,v7,H6,H7,e5,l5,e6,s7,b7⟩:=b4.more s1.nodes.length (by simp only; omega)
  have hfl:afill [.int .i64 0] [(0,1,.int .i64 (s1.nodes.length:Nat))]=some [.int .i64 (s1.nodes.length:Nat)]:=rfl
  simp -dsimp only [YZ,XZ,SZ,EZ,astep,aun,AVal.cells,seval,DS_nil,DS_cons,seesAll,staysAll,abit,List.getD_cons_zero,List.getD_cons_succ,AOp.quiet,AOp.reads,true_and,and_true,decide_true,decide_false,and_self,l4,Env.parts,hfl,e5,l5,e6,s7]
  exact try11 (c:=false) ht hx hN (by simp; omega) b7 w4
theorem u86 {N:Nat} {p:Int} (ht:TOk ts) (hx:Upto ts pid 67 .expr N) (hN:rem ts st≤N) (hp:PR ts H pid st D):DCallX Tryd.prog 86 [.ptr pid 0,.agg (ndC .nils (node 0 [] p))] H (PostD ts pid H D st (rule ts (.try_ (node 0 [] p)) st)):=by
 refine DCallX.of_body (fn:=Tryd.f86) (by kernel_rfl) c86 (by kernel_rfl) (by simp [f86]) ?_
 unfold f86
 simp only []
 have hcc:(AVal.agg (ndC .nils (node 0 [] p))).cells=ndC .nils (node 0 [] p):=rfl
 obtain ⟨H1,H2,e1,e2,b2⟩:=NB.made (p:=p) hp
 obtain ⟨H3,s3,b3⟩:=b2.setK 16
 have q3:=b3.q
 have w3:∀ o,Ev ts (callN .body st fun b st1=>if isS ts st1 w_of=true then callN .clauses (adv st1) fun c st2=>tryK1 ts p [b,c] st2 else none1 ts st1 20 fun c st2=>tryK1 ts p [b,c] st2) o→Ev ts (rule ts (.try_ (node 0 [] p)) st) o:=fun o h=>h
 refine DRX.go rfl ?_
 simp -dsimp only [XZ,SZ,EZ,astep,aun,AVal.cells,seval,hcc,e1,e2]
 refine DRX.go rfl ?_
 simp -dsimp only [XZ,SZ,EZ,astep,aun,AVal.cells,seval,s3]
 refine DRX.go rfl ?_
 simp -dsimp only [XZ,SZ,EZ,astep,aun,AVal.cells,seval]
 refine (u62 ht hx _ hN _ _ q3.pr).mono ?_
 rintro o H4 (⟨e,p,ev4,rfl,b⟩ | ⟨a4,s4,D4,ev4,rfl,ha4,g4⟩)
 ·exact DLeave.pan' (.inl ⟨e,p,w3 _ (Ev.callE ev4),q3.bad ⟨rfl,b⟩⟩)
 have q4:=q3.trans g4
 have w4:=fun o h=>w3 o (Ev.call ev4 h)
 simp -dsimp only [XZ,SZ,EZ,astep,aun,AVal.cells,seval]
 have b4:=b3.fr q4 g4.fr
 obtain ⟨H5,H6,e5,s6,b6⟩:=b4.first a4
 have hfl:afill [.int .i64 0] [(0,1,.int .i64 (a4:Nat))]=some [.int .i64 (a4:Nat)]:=rfl
 simp -dsimp only [XZ,SZ,EZ,astep,aun,AVal.cells,seval,Env.parts,hfl,e5,s6]
 have q6:=b6.q
 refine DRX.go rfl ?_
 simp -dsimp only [XZ,SZ,EZ,astep,aun,AVal.cells,seval]
 refine DCall.monoX (g45 (s:=w_of) q6.pr ht) ?_
 rintro a H7 ⟨rfl,p7,f7⟩
 simp -dsimp only [XZ,SZ,EZ,astep,aun,AVal.cells,seval]
 cases hc:isS ts s4 w_of with
 | true=>
  rw [hc,if_pos rfl] at p7
  have q7:=q6.adv p7 f7
  have w7:=fun o h=>w4 o (Ev.t hc h)
  have b7:=b6.fr q7 f7
  refine DRX.ye rfl rfl ?_
  have l7:=b7.load
  have hN7:rem ts (adv s4)≤N:=by have:=q6.at_; unfold rem at hN ⊢; simp only [adv]; omega
  refine DRX.nm rfl ?_
  refine DRX.draw (by kernel_rfl) d86_4 ?_
  simp -dsimp only [m86_4,YZ,XZ,SZ,EZ,astep,aun,AVal.cells,seval,DS_nil,DS_cons,seesAll,staysAll,abit,List.getD_cons_zero,List.getD_cons_succ,AOp.quiet,AOp.reads,true_and,and_true,decide_true,decide_false,and_self,l7]
  refine (u84 ht hx _ hN7 _ _ q7.pr).mono ?_
  rintro o H8 (⟨e,p,ev8,rfl,b⟩ | ⟨a8,s8,D8,ev8,rfl,ha8,g8⟩)
  ·refine And.intro (DLeave.pan' (.inl ⟨e,p,w7 _ (Ev.callE ev8),q7.bad ⟨rfl,b⟩⟩)) ?_
   simp -dsimp only [YZ,XZ,SZ,EZ,astep,aun,AVal.cells,seval,DS_nil,DS_cons,seesAll,staysAll,abit,List.getD_cons_zero,List.getD_cons_succ,AOp.quiet,AOp.reads,true_and,and_true,decide_true,decide_false,and_self,l7]
  have q8:=q7.trans g8
  have w8:=fun o h=>w7 o (Ev.call ev8 h)
  have b8:=b7.fr q8 g8.fr
  have l8:=b8.load
  obtain ⟨H9,v11,H10,H11,e9,l9,e10,s11,b11⟩:=b8.more a8 (by simp)
  have hfl:afill [.int .i64 0] [(0,1,.int .i64 (a8:Nat))]=some [.int .i64 (a8:Nat)]:=rfl
  simp -dsimp only [YZ,XZ,SZ,EZ,astep,aun,AVal.cells,seval,DS_nil,DS_cons,seesAll,staysAll,abit,List.getD_cons_zero,List.getD_cons_succ,AOp.quiet,AOp.reads,true_and,and_true,decide_true,decide_false,and_self,l8,Env.parts,hfl,e9,l9,e10,s11]
  refine DRX.nm rfl ?_
  exact try6 ht hx hN (by simp) b11 w8
 | false=>
  rw [hc,if_neg (by simp)] at p7
  have q7:Good1 ts pid H D st s4 H7 D4:=⟨p7,q6.deep,q6.at_,q6.fr.trans f7,q6.nds⟩
  have w7:=fun o h=>w4 o (Ev.f hc h)
  have b7:=b6.fr q7 f7
  refine DRX.ne rfl rfl ?_
  have l7:=b7.load
  refine DRX.nm rfl ?_
  refine DRX.draw (by kernel_rfl) d86_5 ?_
  simp -dsimp only [m86_5,YZ,XZ,SZ,EZ,astep,aun,AVal.cells,seval,DS_nil,DS_cons,seesAll,staysAll,abit,List.getD_cons_zero,List.getD_cons_succ,AOp.quiet,AOp.reads,true_and,and_true,decide_true,decide_false,and_self,l7]
  refine (g91 (d:=20) q7.pr).mono ?_
  rintro o H8 (⟨m8,rfl,p8,f8⟩ | ⟨m8,rfl,D8,p8,f8⟩)
  ·refine And.intro (DLeave.pan' (.inl ⟨2,_,w7 _ (Ev.layE m8),q7.bad ⟨rfl,_,_,p8,rfl,f8⟩⟩)) ?_
   simp -dsimp only [YZ,XZ,SZ,EZ,astep,aun,AVal.cells,seval,DS_nil,DS_cons,seesAll,staysAll,abit,List.getD_cons_zero,List.getD_cons_succ,AOp.quiet,AOp.reads,true_and,and_true,decide_true,decide_false,and_self,l7]
  have q8:=q7.none p8 f8
  have w8:=fun o h=>w7 o (Ev.lay m8 h)
  have b8:=b7.fr q8 f8
  have l8:=b8.load
  obtain ⟨H9,v11,H10,H11,e9,l9,e10,s11,b11⟩:=b8.more s4.nodes.length (by simp)
  have hfl:afill [.int .i64 0] [(0,1,.int .i64 (s4.nodes.length:Nat))]=some [.int .i64 (s4.nodes.length:Nat)]:=rfl
  simp -dsimp only [YZ,XZ,SZ,EZ,astep,aun,AVal.cells,seval,DS_nil,DS_cons,seesAll,staysAll,abit,List.getD_cons_zero,List.getD_cons_succ,AOp.quiet,AOp.reads,true_and,and_true,decide_true,decide_false,and_self,l8,Env.parts,hfl,e9,l9,e10,s11]
  refine DRX.nm rfl ?_
  exact try6 ht hx hN (by simp) b11 w8
end
end Go.Am.Rl
