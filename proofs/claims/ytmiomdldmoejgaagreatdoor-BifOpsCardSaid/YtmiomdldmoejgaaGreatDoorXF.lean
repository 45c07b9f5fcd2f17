/- Parts: RG, PA, RH, B42, OF. -/
import Derived.Test.YtmiomdldmoejgaaGreatDoorXE
import Derived.Test.YtmiomdldmoejgaaGreatDoorXB
import Derived.Test.YtmiomdldmoejgaaGreatDoorXC
set_option linter.unusedVariables false
set_option linter.unusedSimpArgs false
set_option maxRecDepth 20000
namespace Go.Am.Rl
open Go.Proofs
section
variable {u v:TM} {H:AHeap} {k k':List AItem} {Q:Env→AHeap→Prop}
theorem loop65 (ou:u.ok) (ov:v.ok) (ih:∀ x ∈ u.l,∀ y ∈ v.l,∀ H,DCall Tryz.prog 23 [x.agg,y.agg] H fun r H'=>r = .int .i64 (ord x y)∧H'=H) (hk:aexitTo 0 k=some k')
  (hend:ords u.l v.l=ordI u.l.length v.l.length→DR Tryz.prog (kof k65) 36 k' [(0,u.row),(1,v.row)] H Q)
  (hret:∀ T,T.get 4=some (.int .i64 (ords u.l v.l))→Q T H) :
  ∀ (e i:Nat),i+e=min u.l.length v.l.length→ords u.l v.l=ords (u.l.drop i) (v.l.drop i)→DR Tryz.prog (kof k65) 36 (.code l65_0::.inLoop l65_0::k) [(0,u.row),(1,v.row),(5,.int .i64 (i:Nat))] H Q:=by
 have hlu:=TM.lenT ou H
 have hlv:=TM.lenT ov H
 intro e
 induction e with
 | zero=>
  intro i hi heq
  have hd:ords (u.l.drop i) (v.l.drop i)=ordI u.l.length v.l.length:=by
   by_cases h1:u.l.length=i
   ·rw [(List.drop_eq_nil_of_le (by omega):u.l.drop i=[])]
    by_cases h2:v.l.length=i
    ·rw [(List.drop_eq_nil_of_le (by omega):v.l.drop i=[])]
     simp only [ords]; unfold ordI; rw [if_neg (by omega),if_neg (by omega)]
    ·have hlt:i < v.l.length:=by omega
     rw [List.drop_eq_getElem_cons hlt]
     simp only [ords]; unfold ordI; rw [if_pos (by omega)]
   ·have hlt:i < u.l.length:=by omega
    rw [(List.drop_eq_nil_of_le (by omega):v.l.drop i=[]),List.drop_eq_getElem_cons hlt]
    simp only [ords]; unfold ordI; rw [if_neg (by omega),if_pos (by omega)]
  by_cases h1:i < u.l.length
  ·have c1:abin .lss (.int .i64 (i:Nat)) (.int .i64 (u.l.length:Nat))=some (.bool true):=lssT (by omega)
   have c2:abin .lss (.int .i64 (i:Nat)) (.int .i64 (v.l.length:Nat))=some (.bool false):=lssF (by omega)
   refine Dg rfl ?_
   simp -dsimp only [SE,astep,seval,hlu,c1,hlv,c2]
   refine Dn rfl rfl ?_
   refine Dm rfl ?_
   refine DR.exit hk ?_
   exact DR.only [0,1] (hend (heq.trans hd))
  ·have c1:abin .lss (.int .i64 (i:Nat)) (.int .i64 (u.l.length:Nat))=some (.bool false):=lssF (by omega)
   refine Dg rfl ?_
   simp -dsimp only [SE,astep,seval,hlu,c1]
   refine Dn rfl rfl ?_
   refine Dm rfl ?_
   refine DR.exit hk ?_
   exact DR.only [0,1] (hend (heq.trans hd))
 | succ e ih2=>
  intro i hi heq
  have h1:i < u.l.length:=by omega
  have h2:i < v.l.length:=by omega
  have c1:abin .lss (.int .i64 (i:Nat)) (.int .i64 (u.l.length:Nat))=some (.bool true):=lssT (by omega)
  have c2:abin .lss (.int .i64 (i:Nat)) (.int .i64 (v.l.length:Nat))=some (.bool true):=lssT (by omega)
  have hx:u.l[i]? = some u.l[i]:=List.getElem?_eq_getElem h1
  have hy:v.l[i]? = some v.l[i]:=List.getElem?_eq_getElem h2
  have ra:=TM.row_at ou hx H
  have la:=TM.load u.l[i] (TM.flat (u.l.drop (i+1))) H
  have rb:=TM.row_at ov hy H
  have lb:=TM.load v.l[i] (TM.flat (v.l.drop (i+1))) H
  have hle:=TM.len_le ou
  have hadd:abin .add (.int .i64 (i:Nat)) (.int .i64 1)=some (.int .i64 ((i+1:Nat):Int)):=add_nat (b:=1) (by omega)
  have hdu:u.l.drop i=u.l[i]::u.l.drop (i+1):=List.drop_eq_getElem_cons h1
  have hdv:v.l.drop i=v.l[i]::v.l.drop (i+1):=List.drop_eq_getElem_cons h2
  rw [hdu,hdv,ords] at heq
  refine Dg rfl ?_
  simp -dsimp only [SE,astep,seval,hlu,c1,hlv,c2]
  refine Dy rfl rfl ?_
  refine Dm rfl ?_
  refine DR.draw (by kernel_rfl) d65_4 ?_
  simp -dsimp only [m65_4,SE,astep,seval,DS_nil,DS_cons,seesAll,staysAll,abit,List.getD_cons_zero,List.getD_cons_succ,AOp.quiet,AOp.reads,true_and,and_true,decide_true,decide_false,and_self,ra,la,rb,lb]
  refine (ih _ (List.getElem_mem h1) _ (List.getElem_mem h2) H).mono ?_
  rintro r H' ⟨rfl,he⟩
  obtain rfl:=he.symm
  simp -dsimp only [SE,astep,seval,DS_nil,DS_cons,seesAll,staysAll,abit,List.getD_cons_zero,List.getD_cons_succ,AOp.quiet,AOp.reads,true_and,and_true,decide_true,decide_false,and_self,ra,la,rb,lb]
  by_cases h0:ord u.l[i] v.l[i]=0
  ·have c3:=neqF h0
   rw [if_neg (by omega)] at heq
   refine Dg rfl ?_
   simp -dsimp only [SE,astep,seval,c3]
   refine Dn rfl rfl ?_
   refine Dg rfl ?_
   simp -dsimp only [SE,astep,seval,hadd]
   refine Dm rfl ?_
   refine DR.inLoop ?_
   exact ih2 (i+1) (by omega) heq
  ·have c3:=neqT h0
   rw [if_pos h0] at heq
   refine Dg rfl ?_
   simp -dsimp only [SE,astep,seval,c3]
   refine Dy rfl rfl ?_
   refine Dg rfl ?_
   simp -dsimp only [SE,astep,seval]
   refine Dm rfl ?_
   exact DR.ret (hret _ (by rw [heq]; rfl))
theorem r65 (ou:u.ok) (ov:v.ok) (ih:∀ x ∈ u.l,∀ y ∈ v.l,∀ H,DCall Tryz.prog 23 [x.agg,y.agg] H fun r H'=>r = .int .i64 (ord x y)∧H'=H) (H:AHeap) :
  DCall Tryz.prog 65 [u.row,v.row] H fun r H'=>r = .int .i64 (ords u.l v.l)∧H'=H:=by
 have h:DCall Tryz.prog 65 [u.row,v.row] AHeap.empty fun r H'=>∃ n,r = .int .i64 n∧n=ords u.l v.l:=by
  have hlu:=TM.lenT ou AHeap.empty
  have hlv:=TM.lenT ov AHeap.empty
  refine DCall.of_body (fn:=Tryz.f65) (by kernel_rfl) c65 (by kernel_rfl) (by simp [f65]) ?_
  unfold f65
  simp only []
  refine Dg rfl ?_
  simp -dsimp only [SE,astep,seval]
  refine Dg rfl ?_
  simp -dsimp only [SE,astep,seval]
  refine Dm rfl ?_
  refine DR.loop ?_
  refine loop65 ou ov ih rfl (fun heq=> ?_) (fun T hT=>⟨.int .i64 (ords u.l v.l),by simp [aresult,ares,hT],_,rfl,rfl⟩) (min u.l.length v.l.length) 0 (by omega) (by simp)
  refine Dg rfl ?_
  simp -dsimp only [SE,astep,seval,hlu,hlv]
  refine (r62 (u.l.length:Nat) (v.l.length:Nat) AHeap.empty).mono ?_
  rintro r H' ⟨rfl,he⟩
  obtain rfl:=he.symm
  simp -dsimp only [SE,astep,seval]
  refine Dm rfl ?_
  exact DR.ret ⟨_,by simp [aresult,ares,Env.get] <;> rfl,_,rfl,heq.symm⟩
 exact (DCall.ints (TM.purerr u v) h H).mono fun r H' ⟨⟨n,h1,h3⟩,h2⟩=>⟨by rw [h1,h3],h2⟩
end
theorem rk_in {k:Int} (h:1≤k∧k≤8):rk k=(if k=1∨k=2 then 1 else k - 1):=by unfold rk; repeat' split <;> omega
theorem r23:∀ a:TM,a.ok→fine a→∀ b:TM,b.ok→fine b→∀ H:AHeap,DCall Tryz.prog 23 [a.agg,b.agg] H fun r H'=>r = .int .i64 (ord a b)∧H'=H:=by
 refine TM.all fun a ih oa fa b ob fb H=> ?_
 have ih':∀ x ∈ a.l,∀ y ∈ b.l,∀ H,DCall Tryz.prog 23 [x.agg,y.agg] H fun r H'=>r = .int .i64 (ord x y)∧H'=H:=fun x hx y hy H=>
  ih x hx (TM.oks_mem (TM.ok_oks oa) x hx) (fines_iff.mp ((fine_eq a).mp fa).2 x hx) y (TM.oks_mem (TM.ok_oks ob) y hy) (fines_iff.mp ((fine_eq b).mp fb).2 y hy) H
 have ka:=fine_kind fa
 have kb:=fine_kind fb
 have ra:=rk_in ka
 have rb:=rk_in kb
 have h:DCall Tryz.prog 23 [a.agg,b.agg] AHeap.empty fun r H'=>∃ n,r = .int .i64 n∧n=ord a b:=by
  obtain ⟨H1,hH1,g1,n1,f1⟩:=psh AHeap.empty (.cells 27 (TM.c5 a))
  obtain ⟨H2,hH2,g2,n2,f2⟩:=psh H1 (.cells 27 (TM.c5 b))
  have a2:=(f2 _ (by omega)).trans g1
  have la:=load_all (n:=5) a2 rfl
  have lb:=load_all (n:=5) g2 rfl
  have a1:=load_cell a2 (o:=1) (v:=.int .i64 a.n) rfl
  have a3:=load_cell a2 (o:=3) (v:=.str a.s) rfl
  have a4:=load_cell a2 (o:=4) (v:=a.row) rfl
  have b1:=load_cell g2 (o:=1) (v:=.int .i64 b.n) rfl
  have b3:=load_cell g2 (o:=3) (v:=.str b.s) rfl
  have b4:=load_cell g2 (o:=4) (v:=b.row) rfl
  have hla:=TM.lenT oa H2
  have hlb:=TM.lenT ob H2
  rw [ord_eq]
  refine DCall.of_body (fn:=Tryz.f23) (by kernel_rfl) c23 (by kernel_rfl) (by simp [f23]) ?_
  unfold f23
  simp only []
  refine Dg rfl ?_
  simp -dsimp only [SE,astep,seval,← hH1,← hH2]
  refine Dm rfl ?_
  refine DR.draw (by kernel_rfl) d23_1 ?_
  simp -dsimp only [m23_1,SE,astep,seval,DS_nil,DS_cons,seesAll,staysAll,abit,List.getD_cons_zero,List.getD_cons_succ,AOp.quiet,AOp.reads,true_and,and_true,decide_true,decide_false,and_self,la,lb]
  refine (r63 a H2).mono ?_
  rintro r H' ⟨rfl,he⟩
  obtain rfl:=he.symm
  simp -dsimp only [SE,astep,seval,DS_nil,DS_cons,seesAll,staysAll,abit,List.getD_cons_zero,List.getD_cons_succ,AOp.quiet,AOp.reads,true_and,and_true,decide_true,decide_false,and_self,la,lb]
  refine (r63 b H2).mono ?_
  rintro r H' ⟨rfl,he⟩
  obtain rfl:=he.symm
  simp -dsimp only [SE,astep,seval,DS_nil,DS_cons,seesAll,staysAll,abit,List.getD_cons_zero,List.getD_cons_succ,AOp.quiet,AOp.reads,true_and,and_true,decide_true,decide_false,and_self,la,lb]
  refine (r62 (rk a.k) (rk b.k) H2).mono ?_
  rintro r H' ⟨rfl,he⟩
  obtain rfl:=he.symm
  simp -dsimp only [SE,astep,seval,DS_nil,DS_cons,seesAll,staysAll,abit,List.getD_cons_zero,List.getD_cons_succ,AOp.quiet,AOp.reads,true_and,and_true,decide_true,decide_false,and_self,la,lb]
  rw [rk_ord ka kb]
  have hro:ordI (rank a.k - rank b.k) 0=0↔rank a.k - rank b.k=0:=by unfold ordI; repeat' split <;> omega
  by_cases hr:rank a.k - rank b.k=0
  ·have c:=neqF (hro.mpr hr)
   rw [if_neg (by omega)]
   refine Dg rfl ?_
   simp -dsimp only [SE,astep,seval,c]
   refine Dn rfl rfl ?_
   refine Dg rfl ?_
   simp -dsimp only [SE,astep,seval,la]
   refine (r63 a H2).mono ?_
   rintro r H' ⟨rfl,he⟩
   obtain rfl:=he.symm
   simp -dsimp only [SE,astep,seval]
   rw [ra]
   by_cases h12:a.k=1∨a.k=2
   ·have hb12:b.k=1∨b.k=2:=by
     have:=(rank_pos ka.1).mpr h12
     exact (rank_pos kb.1).mp (by omega)
    rw [if_pos h12,if_pos h12]
    have c1:abin .eql (.int .i64 1) (.int .i64 1)=some (.bool true):=rfl
    refine Dg rfl ?_
    simp -dsimp only [SE,astep,seval,c1]
    refine Dy rfl rfl ?_
    refine Dg rfl ?_
    simp -dsimp only [SE,astep,seval,la,lb]
    refine (r64 (numb_of fa h12) (numb_of fb hb12) H2).mono ?_
    rintro r H' ⟨rfl,he⟩
    obtain rfl:=he.symm
    simp -dsimp only [SE,astep,seval]
    refine Dm rfl ?_
    exact DR.ret ⟨_,by simp [aresult,ares,Env.get] <;> rfl,_,rfl,rfl⟩
   rw [if_neg h12,if_neg h12]
   have c1:abin .eql (.int .i64 (a.k - 1)) (.int .i64 1)=some (.bool false):=eqlF (by omega)
   refine Dg rfl ?_
   simp -dsimp only [SE,astep,seval,c1]
   refine Dn rfl rfl ?_
   by_cases h3:a.k=3
   ·have c3:abin .eql (.int .i64 (a.k - 1)) (.int .i64 2)=some (.bool true):=eqlT (by omega)
    have hi:=cmpv_in a.s b.s
    have d1:=lss_str a.s b.s
    have d2:=gtr_str a.s b.s
    rw [if_pos h3]
    generalize cmpv a.s b.s=z at hi d1 d2
    refine Dg rfl ?_
    simp -dsimp only [SE,astep,seval,c3]
    refine Dy rfl rfl ?_
    by_cases e1:z = -1
    ·rw [decide_eq_true e1] at d1
     refine Dg rfl ?_
     simp -dsimp only [SE,astep,seval,a3,b3,d1]
     refine Dy rfl rfl ?_
     refine Dg rfl ?_
     simp -dsimp only [SE,astep,seval]
     refine Dm rfl ?_
     exact DR.ret ⟨_,by simp [aresult,ares,Env.get] <;> rfl,_,rfl,e1.symm⟩
    rw [decide_eq_false e1] at d1
    refine Dg rfl ?_
    simp -dsimp only [SE,astep,seval,a3,b3,d1]
    refine Dn rfl rfl ?_
    by_cases e2:z=1
    ·rw [decide_eq_true e2] at d2
     refine Dg rfl ?_
     simp -dsimp only [SE,astep,seval,a3,b3,d2]
     refine Dy rfl rfl ?_
     refine Dg rfl ?_
     simp -dsimp only [SE,astep,seval]
     refine Dm rfl ?_
     exact DR.ret ⟨_,by simp [aresult,ares,Env.get] <;> rfl,_,rfl,e2.symm⟩
    rw [decide_eq_false e2] at d2
    refine Dg rfl ?_
    simp -dsimp only [SE,astep,seval,a3,b3,d2]
    refine Dn rfl rfl ?_
    refine Dg rfl ?_
    simp -dsimp only [SE,astep,seval]
    refine Dm rfl ?_
    exact DR.ret ⟨_,by simp [aresult,ares,Env.get] <;> rfl,_,rfl,by omega⟩
   have c3:abin .eql (.int .i64 (a.k - 1)) (.int .i64 2)=some (.bool false):=eqlF (by omega)
   rw [if_neg h3]
   refine Dg rfl ?_
   simp -dsimp only [SE,astep,seval,c3]
   refine Dn rfl rfl ?_
   by_cases h46:a.k=4∨a.k=6
   ·rw [if_pos h46]
    rcases h46 with h4 | h6
    ·have c4:abin .eql (.int .i64 (a.k - 1)) (.int .i64 3)=some (.bool true):=eqlT (by omega)
     refine Dg rfl ?_
     simp -dsimp only [SE,astep,seval,c4]
     refine Dy rfl rfl ?_
     refine Dy rfl rfl ?_
     refine Dg rfl ?_
     simp -dsimp only [SE,astep,seval,a1,b1]
     refine (r62 a.n b.n H2).mono ?_
     rintro r H' ⟨rfl,he⟩
     obtain rfl:=he.symm
     simp -dsimp only [SE,astep,seval]
     refine Dm rfl ?_
     exact DR.ret ⟨_,by simp [aresult,ares,Env.get] <;> rfl,_,rfl,rfl⟩
    ·have c4:abin .eql (.int .i64 (a.k - 1)) (.int .i64 3)=some (.bool false):=eqlF (by omega)
     have c6:abin .eql (.int .i64 (a.k - 1)) (.int .i64 5)=some (.bool true):=eqlT (by omega)
     refine Dg rfl ?_
     simp -dsimp only [SE,astep,seval,c4]
     refine Dn rfl rfl ?_
     refine Dg rfl ?_
     simp -dsimp only [SE,astep,seval,c6]
     refine Dy rfl rfl ?_
     refine Dg rfl ?_
     simp -dsimp only [SE,astep,seval,a1,b1]
     refine (r62 a.n b.n H2).mono ?_
     rintro r H' ⟨rfl,he⟩
     obtain rfl:=he.symm
     simp -dsimp only [SE,astep,seval]
     refine Dm rfl ?_
     exact DR.ret ⟨_,by simp [aresult,ares,Env.get] <;> rfl,_,rfl,rfl⟩
   rw [if_neg h46]
   have c4:abin .eql (.int .i64 (a.k - 1)) (.int .i64 3)=some (.bool false):=eqlF (by omega)
   have c6:abin .eql (.int .i64 (a.k - 1)) (.int .i64 5)=some (.bool false):=eqlF (by omega)
   refine Dg rfl ?_
   simp -dsimp only [SE,astep,seval,c4]
   refine Dn rfl rfl ?_
   refine Dg rfl ?_
   simp -dsimp only [SE,astep,seval,c6]
   refine Dn rfl rfl ?_
   by_cases h5:a.k=5
   ·have c5:abin .eql (.int .i64 (a.k - 1)) (.int .i64 4)=some (.bool true):=eqlT (by omega)
    rw [if_pos h5]
    refine Dg rfl ?_
    simp -dsimp only [SE,astep,seval,c5]
    refine Dy rfl rfl ?_
    refine Dg rfl ?_
    simp -dsimp only [SE,astep,seval,a1,b1]
    refine (r62 a.n b.n H2).mono ?_
    rintro r H' ⟨rfl,he⟩
    obtain rfl:=he.symm
    simp -dsimp only [SE,astep,seval]
    by_cases h0:ordI a.n b.n=0
    ·have d:=neqF h0
     rw [if_neg (by omega)]
     refine Dg rfl ?_
     simp -dsimp only [SE,astep,seval,d]
     refine Dn rfl rfl ?_
     refine Dg rfl ?_
     simp -dsimp only [SE,astep,seval,a4,b4]
     refine (r65 oa ob ih' H2).mono ?_
     rintro r H' ⟨rfl,he⟩
     obtain rfl:=he.symm
     simp -dsimp only [SE,astep,seval]
     refine Dm rfl ?_
     exact DR.ret ⟨_,by simp [aresult,ares,Env.get] <;> rfl,_,rfl,rfl⟩
    ·have d:=neqT h0
     rw [if_pos h0]
     refine Dg rfl ?_
     simp -dsimp only [SE,astep,seval,d]
     refine Dy rfl rfl ?_
     refine Dg rfl ?_
     simp -dsimp only [SE,astep,seval]
     refine Dm rfl ?_
     exact DR.ret ⟨_,by simp [aresult,ares,Env.get] <;> rfl,_,rfl,rfl⟩
   rw [if_neg h5]
   have c5:abin .eql (.int .i64 (a.k - 1)) (.int .i64 4)=some (.bool false):=eqlF (by omega)
   refine Dg rfl ?_
   simp -dsimp only [SE,astep,seval,c5]
   refine Dn rfl rfl ?_
   by_cases h7:a.k=7
   ·have c7:abin .eql (.int .i64 (a.k - 1)) (.int .i64 6)=some (.bool true):=eqlT (by omega)
    rw [if_pos h7]
    refine Dg rfl ?_
    simp -dsimp only [SE,astep,seval,c7]
    refine Dy rfl rfl ?_
    refine Dg rfl ?_
    simp -dsimp only [SE,astep,seval,a4,b4,hla,hlb]
    refine (r62 (a.l.length:Nat) (b.l.length:Nat) H2).mono ?_
    rintro r H' ⟨rfl,he⟩
    obtain rfl:=he.symm
    simp -dsimp only [SE,astep,seval]
    by_cases h0:ordI (a.l.length:Nat) (b.l.length:Nat)=0
    ·have d:=neqF h0
     rw [if_neg (by omega)]
     refine Dg rfl ?_
     simp -dsimp only [SE,astep,seval,d]
     refine Dn rfl rfl ?_
     refine Dg rfl ?_
     simp -dsimp only [SE,astep,seval,a4,b4]
     refine (r65 oa ob ih' H2).mono ?_
     rintro r H' ⟨rfl,he⟩
     obtain rfl:=he.symm
     simp -dsimp only [SE,astep,seval]
     refine Dm rfl ?_
     exact DR.ret ⟨_,by simp [aresult,ares,Env.get] <;> rfl,_,rfl,rfl⟩
    ·have d:=neqT h0
     rw [if_pos h0]
     refine Dg rfl ?_
     simp -dsimp only [SE,astep,seval,d]
     refine Dy rfl rfl ?_
     refine Dg rfl ?_
     simp -dsimp only [SE,astep,seval]
     refine Dm rfl ?_
     exact DR.ret ⟨_,by simp [aresult,ares,Env.get] <;> rfl,_,rfl,rfl⟩
   rw [if_neg h7]
   have c7:abin .eql (.int .i64 (a.k - 1)) (.int .i64 6)=some (.bool false):=eqlF (by omega)
   refine Dg rfl ?_
   simp -dsimp only [SE,astep,seval,c7]
   refine Dn rfl rfl ?_
   refine Dg rfl ?_
   simp -dsimp only [SE,astep,seval,a4,b4]
   refine (r65 oa ob ih' H2).mono ?_
   rintro r H' ⟨rfl,he⟩
   obtain rfl:=he.symm
   simp -dsimp only [SE,astep,seval]
   refine Dm rfl ?_
   exact DR.ret ⟨_,by simp [aresult,ares,Env.get] <;> rfl,_,rfl,rfl⟩
  ·have c:=neqT (fun h=>hr (hro.mp h))
   rw [if_pos hr]
   refine Dg rfl ?_
   simp -dsimp only [SE,astep,seval,c]
   refine Dy rfl rfl ?_
   refine Dg rfl ?_
   simp -dsimp only [SE,astep,seval]
   refine Dm rfl ?_
   exact DR.ret ⟨_,by simp [aresult,ares,Env.get] <;> rfl,_,rfl,rfl⟩
 exact (DCall.ints (TM.pures22 a b) h H).mono fun r H' ⟨⟨n,h1,h3⟩,h2⟩=>⟨by rw [h1,h3],h2⟩
theorem r66 {a b:TM} (H:AHeap):DCall Tryz.prog 66 [a.agg,b.agg] H fun r H'=>r = .bool (a.k==b.k&&(a.n==b.n&&a.f==b.f))∧H'=H:=by
 have h:DCall Tryz.prog 66 [a.agg,b.agg] AHeap.empty fun r H'=>∃ n,r = .bool n∧n=(a.k==b.k&&(a.n==b.n&&a.f==b.f)):=by
  obtain ⟨H1,hH1,g1,n1,f1⟩:=psh AHeap.empty (.cells 27 (TM.c5 a))
  obtain ⟨H2,hH2,g2,n2,f2⟩:=psh H1 (.cells 27 (TM.c5 b))
  have a2:=(f2 _ (by omega)).trans g1
  have ka:=load_cell a2 (o:=0) (v:=.int .i64 a.k) rfl
  have na:=load_cell a2 (o:=1) (v:=.int .i64 a.n) rfl
  have fa:=load_cell a2 (o:=2) (v:=.flt .f64 a.f) rfl
  have kb:=load_cell g2 (o:=0) (v:=.int .i64 b.k) rfl
  have nb:=load_cell g2 (o:=1) (v:=.int .i64 b.n) rfl
  have fb:=load_cell g2 (o:=2) (v:=.flt .f64 b.f) rfl
  have xa:aext 0 [.flt .f64 a.f]=some (.int .u64 (a.f:Nat)):=rfl
  have xb:aext 0 [.flt .f64 b.f]=some (.int .u64 (b.f:Nat)):=rfl
  have c3:abin .eql (.int .u64 (a.f:Nat)) (.int .u64 (b.f:Nat))=some (.bool (a.f==b.f)):=by
   show some (AVal.bool (((a.f:Nat):Int)==((b.f:Nat):Int)))=_
   congr 2
   by_cases h:a.f=b.f
   ·rw [h]; simp
   ·rw [beq_false_of_ne h,beq_false_of_ne (by omega)]
  have c1:abin .eql (.int .i64 a.k) (.int .i64 b.k)=some (.bool (a.k==b.k)):=rfl
  have c2:abin .eql (.int .i64 a.n) (.int .i64 b.n)=some (.bool (a.n==b.n)):=rfl
  refine DCall.of_body (fn:=Tryz.f66) (by kernel_rfl) c66 (by kernel_rfl) (by simp [f66]) ?_
  unfold f66
  simp only []
  refine Dg rfl ?_
  simp -dsimp only [SE,astep,seval,← hH1,← hH2]
  cases h1:(a.k==b.k) with
  | false=>
   rw [h1] at c1
   refine Dm rfl ?_
   refine DR.draw (by kernel_rfl) d66_1 ?_
   simp -dsimp only [m66_1,SE,astep,seval,DS_nil,DS_cons,seesAll,staysAll,abit,List.getD_cons_zero,List.getD_cons_succ,AOp.quiet,AOp.reads,true_and,and_true,decide_true,decide_false,and_self,ka,kb,c1]
   refine Dm rfl ?_
   exact DR.ret ⟨_,by simp [aresult,ares,Env.get] <;> rfl,_,rfl,rfl⟩
  | true=>
   rw [h1] at c1
   cases h2:(a.n==b.n) with
   | false=>
    rw [h2] at c2
    refine Dm rfl ?_
    refine DR.draw (by kernel_rfl) d66_1 ?_
    simp -dsimp only [m66_1,SE,astep,seval,DS_nil,DS_cons,seesAll,staysAll,abit,List.getD_cons_zero,List.getD_cons_succ,AOp.quiet,AOp.reads,true_and,and_true,decide_true,decide_false,and_self,ka,kb,c1,na,nb,c2]
    refine Dm rfl ?_
    exact DR.ret ⟨_,by simp [aresult,ares,Env.get] <;> rfl,_,rfl,rfl⟩
   | true=>
    rw [h2] at c2
    refine Dm rfl ?_
    refine DR.draw (by kernel_rfl) d66_1 ?_
    simp -dsimp only [m66_1,SE,astep,seval,DS_nil,DS_cons,seesAll,staysAll,abit,List.getD_cons_zero,List.getD_cons_succ,AOp.quiet,AOp.reads,true_and,and_true,decide_true,decide_false,and_self,ka,kb,c1,na,nb,c2,fa,fb,xa,xb,c3]
    refine Dm rfl ?_
    exact DR.ret ⟨_,by simp [aresult,ares,Env.get] <;> rfl,_,rfl,rfl⟩
 exact (DCall.bools (TM.pures22 a b) h H).mono fun r H' ⟨⟨n,h1,h3⟩,h2⟩=>⟨by rw [h1,h3],h2⟩
section
variable {u v:TM} {H:AHeap} {i2 i3:Nat} {k k':List AItem} {Q:Env→AHeap→Prop}
theorem loop24 (ou:u.ok) (ov:v.ok) (hlen:u.l.length=v.l.length) (h2:H.get i2=some (.cells 27 (TM.c5 u))) (h3:H.get i3=some (.cells 27 (TM.c5 v))) (ih:∀ x ∈ u.l,∀ y ∈ v.l,∀ H,DCall Tryz.prog 24 [x.agg,y.agg] H fun r H'=>r = .bool (samev x y)∧H'=H) (hk:aexitTo 0 k=some k')
  (hend:samevs u.l v.l=true→DR Tryz.prog (kof k24) 45 k' [] H Q)
  (hret:∀ T,T.get 4=some (.bool false)→samevs u.l v.l=false→Q T H) :
  ∀ (e i:Nat),i+e=u.l.length→samevs u.l v.l=samevs (u.l.drop i) (v.l.drop i)→DR Tryz.prog (kof k24) 45 (.code l24_0::.inLoop l24_0::k) [(2,.ptr i2 0),(3,.ptr i3 0),(5,.int .i64 (i:Nat))] H Q:=by
 have hlu:=TM.lenT ou H
 have l2:=load_cell h2 (o:=4) (v:=u.row) rfl
 have l3:=load_cell h3 (o:=4) (v:=v.row) rfl
 intro e
 induction e with
 | zero=>
  intro i hi heq
  have c1:abin .lss (.int .i64 (i:Nat)) (.int .i64 (u.l.length:Nat))=some (.bool false):=lssF (by omega)
  rw [List.drop_eq_nil_of_le (by omega),List.drop_eq_nil_of_le (by omega)] at heq
  refine Dg rfl ?_
  simp -dsimp only [SE,astep,seval,l2,hlu,c1]
  refine Dn rfl rfl ?_
  refine Dm rfl ?_
  refine DR.exit hk ?_
  exact DR.only [] (hend heq)
 | succ e ih2=>
  intro i hi heq
  have h1:i < u.l.length:=by omega
  have h2:i < v.l.length:=by omega
  have c1:abin .lss (.int .i64 (i:Nat)) (.int .i64 (u.l.length:Nat))=some (.bool true):=lssT (by omega)
  have hx:u.l[i]? = some u.l[i]:=List.getElem?_eq_getElem h1
  have hy:v.l[i]? = some v.l[i]:=List.getElem?_eq_getElem h2
  have ra:=TM.row_at ou hx H
  have la:=TM.load u.l[i] (TM.flat (u.l.drop (i+1))) H
  have rb:=TM.row_at ov hy H
  have lb:=TM.load v.l[i] (TM.flat (v.l.drop (i+1))) H
  have hle:=TM.len_le ou
  have hadd:abin .add (.int .i64 (i:Nat)) (.int .i64 1)=some (.int .i64 ((i+1:Nat):Int)):=add_nat (b:=1) (by omega)
  have hdu:u.l.drop i=u.l[i]::u.l.drop (i+1):=List.drop_eq_getElem_cons h1
  have hdv:v.l.drop i=v.l[i]::v.l.drop (i+1):=List.drop_eq_getElem_cons h2
  rw [hdu,hdv,samevs] at heq
  refine Dg rfl ?_
  simp -dsimp only [SE,astep,seval,l2,hlu,c1]
  refine Dy rfl rfl ?_
  refine Dm rfl ?_
  refine DR.draw (by kernel_rfl) d24_6 ?_
  simp -dsimp only [m24_6,SE,astep,seval,DS_nil,DS_cons,seesAll,staysAll,abit,List.getD_cons_zero,List.getD_cons_succ,AOp.quiet,AOp.reads,true_and,and_true,decide_true,decide_false,and_self,l2,l3,ra,la,rb,lb]
  refine (ih _ (List.getElem_mem h1) _ (List.getElem_mem h2) H).mono ?_
  rintro r H' ⟨rfl,he⟩
  obtain rfl:=he.symm
  cases hs:samev u.l[i] v.l[i] with
  | true=>
   rw [hs,Bool.true_and] at heq
   simp -dsimp only [SE,astep,seval,DS_nil,DS_cons,seesAll,staysAll,abit,List.getD_cons_zero,List.getD_cons_succ,AOp.quiet,AOp.reads,true_and,and_true,decide_true,decide_false,and_self,l2,l3,ra,la,rb,lb,Bool.not_true]
   refine Dn rfl rfl ?_
   refine Dg rfl ?_
   simp -dsimp only [SE,astep,seval,hadd]
   refine Dm rfl ?_
   refine DR.inLoop ?_
   exact ih2 (i+1) (by omega) heq
  | false=>
   rw [hs,Bool.false_and] at heq
   simp -dsimp only [SE,astep,seval,DS_nil,DS_cons,seesAll,staysAll,abit,List.getD_cons_zero,List.getD_cons_succ,AOp.quiet,AOp.reads,true_and,and_true,decide_true,decide_false,and_self,l2,l3,ra,la,rb,lb,Bool.not_false]
   refine Dy rfl rfl ?_
   refine Dg rfl ?_
   simp -dsimp only [SE,astep,seval]
   refine Dm rfl ?_
   exact DR.ret (hret _ rfl heq)
end
theorem same_nums {a b:TM} (fa:fine a) (fb:fine b):samev a b=((a.k==b.k&&(a.n==b.n&&a.f==b.f))&&(a.s.toList==b.s.toList&&samevs a.l b.l)):=by
 rw [samev_eq]
 by_cases hk:a.k=b.k
 ·by_cases h12:a.k=1∨a.k=2
  ·have na:isNb a=true:=by simpa [isNb] using h12
   have nb:isNb b=true:=by rw [hk] at h12; simpa [isNb] using h12
   obtain ⟨s1,l1,_⟩:=pl_rng fa na
   obtain ⟨s2,l2,_⟩:=pl_rng fb nb
   rw [if_pos h12,s1,s2,l1,l2]
   simp [samevs]
  ·have za:a.f=0:=by
    rcases ((fine_eq a).mp fa).1 with ⟨h,_⟩ | ⟨h,_⟩ | ⟨_,h⟩ | ⟨_,h⟩ | ⟨_,h⟩ | ⟨_,h⟩
    ·omega
    ·omega
    all_goals simp_all
   have zb:b.f=0:=by
    rcases ((fine_eq b).mp fb).1 with ⟨h,_⟩ | ⟨h,_⟩ | ⟨_,h⟩ | ⟨_,h⟩ | ⟨_,h⟩ | ⟨_,h⟩
    ·omega
    ·omega
    all_goals simp_all
   rw [if_neg h12,za,zb]
   cases (a.k==b.k) <;> cases (a.n==b.n) <;> simp
 ·rw [beq_false_of_ne hk]; simp
theorem r24:∀ a:TM,a.ok→fine a→∀ b:TM,b.ok→fine b→∀ H:AHeap,DCall Tryz.prog 24 [a.agg,b.agg] H fun r H'=>r = .bool (samev a b)∧H'=H:=by
 refine TM.all fun a ih oa fa b ob fb H=> ?_
 have ih':∀ x ∈ a.l,∀ y ∈ b.l,∀ H,DCall Tryz.prog 24 [x.agg,y.agg] H fun r H'=>r = .bool (samev x y)∧H'=H:=fun x hx y hy H=>
  ih x hx (TM.oks_mem (TM.ok_oks oa) x hx) (fines_iff.mp ((fine_eq a).mp fa).2 x hx) y (TM.oks_mem (TM.ok_oks ob) y hy) (fines_iff.mp ((fine_eq b).mp fb).2 y hy) H
 have h:DCall Tryz.prog 24 [a.agg,b.agg] AHeap.empty fun r H'=>∃ n,r = .bool n∧n=samev a b:=by
  obtain ⟨H1,hH1,g1,n1,f1⟩:=psh AHeap.empty (.cells 27 (TM.c5 a))
  obtain ⟨H2,hH2,g2,n2,f2⟩:=psh H1 (.cells 27 (TM.c5 b))
  have a2:=(f2 _ (by omega)).trans g1
  have la:=load_all (n:=5) a2 rfl
  have lb:=load_all (n:=5) g2 rfl
  have a3:=load_cell a2 (o:=3) (v:=.str a.s) rfl
  have a4:=load_cell a2 (o:=4) (v:=a.row) rfl
  have b3:=load_cell g2 (o:=3) (v:=.str b.s) rfl
  have b4:=load_cell g2 (o:=4) (v:=b.row) rfl
  have hla:=TM.lenT oa H2
  have hlb:=TM.lenT ob H2
  rw [same_nums fa fb]
  refine DCall.of_body (fn:=Tryz.f24) (by kernel_rfl) c24 (by kernel_rfl) (by simp [f24]) ?_
  unfold f24
  simp only []
  refine Dg rfl ?_
  simp -dsimp only [SE,astep,seval,← hH1,← hH2]
  refine Dg rfl ?_
  simp -dsimp only [SE,astep,seval,la,lb]
  refine (r66 (a:=a) (b:=b) H2).mono ?_
  rintro r H' ⟨rfl,he⟩
  obtain rfl:=he.symm
  cases hn:(a.k==b.k&&(a.n==b.n&&a.f==b.f)) with
  | false=>
   simp -dsimp only [SE,astep,seval,Bool.not_false]
   refine Dy rfl rfl ?_
   refine Dg rfl ?_
   simp -dsimp only [SE,astep,seval]
   refine Dm rfl ?_
   exact DR.ret ⟨_,by simp [aresult,ares,Env.get] <;> rfl,_,rfl,rfl⟩
  | true=> ?_
  have cs:abin .neq (.str a.s) (.str b.s)=some (.bool !(a.s.toList==b.s.toList)):=rfl
  cases hs:(a.s.toList==b.s.toList) with
  | false=>
   rw [hs] at cs
   simp -dsimp only [SE,astep,seval,Bool.not_true,a3,b3,cs,Bool.not_false]
   refine Dy rfl rfl ?_
   refine Dg rfl ?_
   simp -dsimp only [SE,astep,seval]
   refine Dm rfl ?_
   exact DR.ret ⟨_,by simp [aresult,ares,Env.get] <;> rfl,_,rfl,rfl⟩
  | true=> ?_
  rw [hs] at cs
  by_cases hl:a.l.length=b.l.length
  ·have cl:abin .neq (.int .i64 (a.l.length:Nat)) (.int .i64 (b.l.length:Nat))=some (.bool false):=neqF (by omega)
   simp -dsimp only [SE,astep,seval,Bool.not_true,a3,b3,cs,a4,b4,hla,hlb,cl]
   refine Dn rfl rfl ?_
   refine Dg rfl ?_
   simp -dsimp only [SE,astep,seval]
   refine Dm rfl ?_
   refine DR.loop ?_
   refine loop24 oa ob hl a2 g2 ih' rfl (fun heq=> ?_) (fun T hT hs=>⟨.bool false,by simp [aresult,ares,hT],_,rfl,by rw [hs]; rfl⟩) a.l.length 0 (by omega) (by simp)
   refine Dg rfl ?_
   simp -dsimp only [SE,astep,seval]
   refine Dm rfl ?_
   exact DR.ret ⟨_,by simp [aresult,ares,Env.get] <;> rfl,_,rfl,by rw [heq]; rfl⟩
  ·have cl:abin .neq (.int .i64 (a.l.length:Nat)) (.int .i64 (b.l.length:Nat))=some (.bool true):=neqT (by omega)
   simp -dsimp only [SE,astep,seval,Bool.not_true,a3,b3,cs,a4,b4,hla,hlb,cl]
   refine Dy rfl rfl ?_
   refine Dg rfl ?_
   simp -dsimp only [SE,astep,seval]
   refine Dm rfl ?_
   exact DR.ret ⟨_,by simp [aresult,ares,Env.get] <;> rfl,_,rfl,by rw [samevs_ne hl]; rfl⟩
 exact (DCall.bools (TM.pures22 a b) h H).mono fun r H' ⟨⟨n,h1,h3⟩,h2⟩=>⟨by rw [h1,h3],h2⟩
end Go.Am.Rl
namespace Go.Am.Rl
open Go.Proofs
def LY (H:AHeap) (id w:Nat) (p:Prop):Prop:=∃ w' b o,H.get id=some (.cells 119 [.int .i64 w',.int .i64 b,.bool false,.bool o])∧(o=false→w'=(w:Nat)∧w≤65536∧p)
section
variable {t:TM} {id:Nat} {k k':List AItem} {Q:Env→AHeap→Prop}
theorem loop164y {d w:Nat} (ok:t.ok) (hd:d≤200) (hf:∀ x ∈ t.l,fine x)
  (ih:∀ x ∈ t.l,x.ok→fine x→∀ (d w:Nat) (H:AHeap),1≤d→d≤201→w≤65536→LX H id w→DCall Tryz.prog 184 [.ptr id 0,x.agg,.int .i64 (d:Nat)] H fun r H'=>LY H' id (w+words x) (deep x (201 - d))∧But H H' id) (hk:aexitTo 0 k=some k')
  {H0:AHeap} (hend:∀ H,LX H id (w+wordsL t.l)→w+wordsL t.l≤65536→(∀ x ∈ t.l,deep x (200 - d))→But H0 H id→DR Tryz.prog (kof k184) 68 k' [] H Q) (hret:∀ T H w' b,H.get id=some (.cells 119 [.int .i64 w',.int .i64 b,.bool false,.bool true])→But H0 H id→Q T H) :
  ∀ (e i:Nat) (H:AHeap),i+e=t.l.length→w+wordsL (t.l.take i)≤65536→(∀ x ∈ t.l.take i,deep x (200 - d))→LX H id (w+wordsL (t.l.take i))→But H0 H id→DR Tryz.prog (kof k184) 68 (.code l184_0::.inLoop l184_0::k) [(0,.ptr id 0),(2,.int .i64 (d:Nat)),(52,t.row),(53,.int .i64 (t.l.length:Nat)),(54,.int .i64 (i:Nat))] H Q:=by
 intro e
 induction e with
 | zero=>
  intro i H hi hw hdp hH hB
  have hc:abin .lss (.int .i64 (i:Nat)) (.int .i64 (t.l.length:Nat))=some (.bool false):=by simp [abin]; omega
  refine Dg rfl ?_
  simp -dsimp only [SE,astep,seval,hc]
  refine Dn rfl rfl ?_
  refine Dm rfl ?_
  refine DR.exit hk ?_
  rw [List.take_of_length_le (by omega)] at hH hw hdp
  exact DR.only [] (hend H hH hw hdp hB)
 | succ e ih2=>
  intro i H hi hw hdp hH hB
  have hc:abin .lss (.int .i64 (i:Nat)) (.int .i64 (t.l.length:Nat))=some (.bool true):=by simp [abin]; omega
  have hlt:i < t.l.length:=by omega
  have hx:t.l[i]? = some t.l[i]:=List.getElem?_eq_getElem hlt
  have hm:t.l[i] ∈ t.l:=List.getElem_mem hlt
  have hxo:=TM.ok_at ok hx
  have ra:=TM.row_at ok hx H
  have la:=TM.load t.l[i] (TM.flat (t.l.drop (i+1))) H
  have hle:=TM.len_le ok
  have hadd:abin .add (.int .i64 (i:Nat)) (.int .i64 1)=some (.int .i64 ((i+1:Nat):Int)):=add_nat (b:=1) (by omega)
  have hadd2:abin .add (.int .i64 (d:Nat)) (.int .i64 1)=some (.int .i64 ((d+1:Nat):Int)):=add_nat (b:=1) (by omega)
  obtain ⟨H1,hH1,g1,n1,f1⟩:=psh H (.cells 27 [.int .i64 0,.int .i64 0,.flt .f64 0,.str ⟨#[]⟩,.nils])
  have st:astore H1 5 (.ptr H.next 0) (AVal.agg (TM.c5 t.l[i]))=some (H1.set H.next (.cells 27 (TM.c5 t.l[i]))):=store_all (n:=5) (new:=TM.c5 t.l[i]) g1 rfl (TM.ones5 _) rfl
  obtain ⟨H2,hH2,g2,n2,f2⟩:=upd g1 (.cells 27 (TM.c5 t.l[i]))
  have l2:=load_all (n:=5) g2 rfl
  have hk2:LX H2 id (w+wordsL (t.l.take i)):=by
   obtain ⟨b,h⟩:=hH
   have hlt:=AHeap.get_lt h
   exact ⟨b,by rw [f2 id (by omega),f1 id hlt]; exact h⟩
  have hB2:But H H2 id:=⟨by rw [n2,n1]; omega,fun j hj _=>by rw [f2 j (by omega),f1 j hj]⟩
  refine Dg rfl ?_
  simp -dsimp only [SE,astep,seval,hc]
  refine Dy rfl rfl ?_
  refine Dg rfl ?_
  simp -dsimp only [SE,astep,seval,ra,la,← hH1,st,← hH2]
  refine Dg rfl ?_
  simp -dsimp only [SE,astep,seval,l2,hadd2]
  refine (ih _ hm hxo (hf _ hm) (d+1) _ H2 (by omega) (by omega) hw hk2).mono ?_
  rintro r H3 ⟨⟨w',b,o,h3,ho⟩,hb3⟩
  simp -dsimp only [SE,astep,seval]
  have l3:=load_cell h3 (o:=3) (v:=.bool o) rfl
  refine Dg rfl ?_
  simp -dsimp only [SE,astep,seval,l3]
  cases o with
  | true=>
   refine Dy rfl rfl ?_
   refine Dm rfl ?_
   exact DR.ret (hret _ _ _ _ h3 ((hB.trans hB2).trans hb3))
  | false=>
   obtain ⟨rfl,hw3,hdx⟩:=ho rfl
   rw [show 201 - (d+1)=200 - d by omega] at hdx
   refine Dn rfl rfl ?_
   refine Dg rfl ?_
   simp -dsimp only [SE,astep,seval,hadd]
   refine Dm rfl ?_
   refine DR.inLoop ?_
   have hsum:w+wordsL (t.l.take (i+1))=w+wordsL (t.l.take i)+words t.l[i]:=by rw [wordsL_take hx]; omega
   exact ih2 (i+1) H3 (by omega) (by omega) (all_take hdp hx hdx) ⟨b,by rw [hsum]; exact h3⟩ ((hB.trans hB2).trans hb3)
end
theorem g164y:∀ t:TM,t.ok→fine t→∀ (id:Nat) (d w:Nat) (H:AHeap),1≤d→d≤201→w≤65536→LX H id w→DCall Tryz.prog 184 [.ptr id 0,t.agg,.int .i64 (d:Nat)] H fun r H'=>LY H' id (w+words t) (deep t (201 - d))∧But H H' id:=by
 refine TM.all fun t ih ok hf id d w H hd1 hd2 hw hH=> ?_
 obtain ⟨b,h0⟩:=hH
 obtain ⟨hp,hfs⟩:=(fine_eq t).mp hf
 have hfs:=fines_iff.mp hfs
 have hwd:=words_eq t
 have hle:=TM.len_le ok
 have hol:=own_le t.k t.l.length
 have hlt:=AHeap.get_lt h0
 obtain ⟨H1,hH1,g1,n1,f1⟩:=psh H (.cells 27 (TM.c5 t))
 have h1:=(f1 id hlt).trans h0
 have l1:=load_cell h1 (o:=1) (v:=.int .i64 b) rfl
 obtain ⟨m,hm⟩:∃ m,aext 6 [.int .i64 b,.int .i64 (d:Nat)]=some (.int .i64 m):=⟨_,rfl⟩
 have st1:astore H1 1 (.ptr id 1) (.int .i64 m)=some (H1.set id (.cells 119 [.int .i64 (w:Nat),.int .i64 m,.bool false,.bool false])):=astore_one h1 (o:=1) (by simp) rfl
 obtain ⟨H2,hH2,g2,n2,f2⟩:=upd h1 (.cells 119 [.int .i64 (w:Nat),.int .i64 m,.bool false,.bool false])
 have b2:But H H2 id:=⟨by rw [n2,n1]; omega,fun j hj hn=>by rw [f2 j hn,f1 j hj]⟩
 have t2:H2.get H.next=some (.cells 27 (TM.c5 t)):=(f2 H.next (by omega)).trans g1
 have lt2:=load_all (n:=5) t2 rfl
 refine DCall.of_body (fn:=Tryz.f184) (by kernel_rfl) c184 (by kernel_rfl) (by simp [f184]) ?_
 unfold f184
 simp only []
 refine Dg rfl ?_
 simp -dsimp only [SE,astep,seval,← hH1]
 refine Dg rfl ?_
 simp -dsimp only [SE,astep,seval,l1,hm,st1,← hH2]
 by_cases hdd:d=201
 ·have hb1:abin .gtr (.int .i64 (d:Nat)) (.int .i64 200)=some (.bool true):=by simp [abin]; omega
  have st3:astore H2 1 (.ptr id 3) (.bool true)=some (H2.set id (.cells 119 [.int .i64 (w:Nat),.int .i64 m,.bool false,.bool true])):=astore_one g2 (o:=3) (by simp) rfl
  obtain ⟨H3,hH3,g3,n3,f3⟩:=upd g2 (.cells 119 [.int .i64 (w:Nat),.int .i64 m,.bool false,.bool true])
  refine Dg rfl ?_
  simp -dsimp only [SE,astep,seval,hb1]
  refine Dy rfl rfl ?_
  refine Dg rfl ?_
  simp -dsimp only [SE,astep,seval,st3,← hH3]
  refine Dm rfl ?_
  exact DR.ret ⟨.tup [],rfl,⟨_,_,_,g3,fun h=>nomatch h⟩,b2.trans ⟨by rw [n3]; omega,fun j hj hn=>f3 j hn⟩⟩
 have hb1:abin .gtr (.int .i64 (d:Nat)) (.int .i64 200)=some (.bool false):=by simp [abin]; omega
 refine Dg rfl ?_
 simp -dsimp only [SE,astep,seval,hb1]
 have l0:=load_cell g2 (o:=0) (v:=.int .i64 (w:Nat)) rfl
 refine Dn rfl rfl ?_
 refine Dm rfl ?_
 refine DR.draw (by kernel_rfl) d184_4 ?_
 simp -dsimp only [m184_4,SE,astep,seval,DS_nil,DS_cons,seesAll,staysAll,abit,List.getD_cons_zero,List.getD_cons_succ,AOp.quiet,AOp.reads,true_and,and_true,decide_true,decide_false,and_self,l0,lt2]
 refine (g175x t ok H2).mono ?_
 rintro r H' ⟨rfl,he⟩
 obtain rfl:=he.symm
 have ha2:abin .add (.int .i64 (w:Nat)) (.int .i64 (own t.k t.l.length:Nat))=some (.int .i64 ((w+own t.k t.l.length:Nat):Int)):=add_nat (by omega)
 have st4:astore H2 1 (.ptr id 0) (.int .i64 ((w+own t.k t.l.length:Nat):Int))=some (H2.set id (.cells 119 [.int .i64 ((w+own t.k t.l.length:Nat):Int),.int .i64 m,.bool false,.bool false])):=astore_one g2 (o:=0) (by simp) rfl
 obtain ⟨H4,hH4,g4,n4,f4⟩:=upd g2 (.cells 119 [.int .i64 ((w+own t.k t.l.length:Nat):Int),.int .i64 m,.bool false,.bool false])
 have b4:But H H4 id:=b2.trans ⟨by rw [n4]; omega,fun j hj hn=>f4 j hn⟩
 have t4:H4.get H.next=some (.cells 27 (TM.c5 t)):=(f4 H.next (by omega)).trans t2
 have lt4:=load_all (n:=5) t4 rfl
 have l40:=load_cell g4 (o:=0) (v:=.int .i64 ((w+own t.k t.l.length:Nat):Int)) rfl
 have l42:=load_cell g4 (o:=2) (v:=.bool false) rfl
 simp -dsimp only [SE,astep,seval,DS_nil,DS_cons,seesAll,staysAll,abit,List.getD_cons_zero,List.getD_cons_succ,AOp.quiet,AOp.reads,true_and,and_true,decide_true,decide_false,and_self,l0,lt2,ha2,st4,← hH4]
 by_cases hbig:65536 < w+own t.k t.l.length
 ·have hb5:abin .gtr (.int .i64 ((w+own t.k t.l.length:Nat):Int)) (.int .i64 65536)=some (.bool true):=by simp [abin]; omega
  have st6:astore H4 1 (.ptr id 3) (.bool true)=some (H4.set id (.cells 119 [.int .i64 ((w+own t.k t.l.length:Nat):Int),.int .i64 m,.bool false,.bool true])):=astore_one g4 (o:=3) (by simp) rfl
  obtain ⟨H6,hH6,g6,n6,f6⟩:=upd g4 (.cells 119 [.int .i64 ((w+own t.k t.l.length:Nat):Int),.int .i64 m,.bool false,.bool true])
  refine Dg rfl ?_
  simp -dsimp only [SE,astep,seval,l40,hb5]
  refine Dy rfl rfl ?_
  refine Dg rfl ?_
  simp -dsimp only [SE,astep,seval,st6,← hH6]
  refine Dm rfl ?_
  exact DR.ret ⟨.tup [],rfl,⟨_,_,_,g6,fun h=>nomatch h⟩,b4.trans ⟨by rw [n6]; omega,fun j hj hn=>f6 j hn⟩⟩
 have hb5:abin .gtr (.int .i64 ((w+own t.k t.l.length:Nat):Int)) (.int .i64 65536)=some (.bool false):=by simp [abin]; omega
 refine Dg rfl ?_
 simp -dsimp only [SE,astep,seval,l40,hb5]
 refine Dn rfl rfl ?_
 refine Dg rfl ?_
 simp -dsimp only [SE,astep,seval,l42,lt4]
 refine (g176x t ok hp H4).mono ?_
 rintro r H' ⟨rfl,he⟩
 obtain rfl:=he.symm
 have st7:astore H4 1 (.ptr id 2) (.bool false)=some (H4.set id (.cells 119 [.int .i64 ((w+own t.k t.l.length:Nat):Int),.int .i64 m,.bool false,.bool false])):=astore_one g4 (o:=2) (by simp) rfl
 obtain ⟨H7,hH7,g7,n7,f7⟩:=upd g4 (.cells 119 [.int .i64 ((w+own t.k t.l.length:Nat):Int),.int .i64 m,.bool false,.bool false])
 have b7:But H H7 id:=b4.trans ⟨by rw [n7]; omega,fun j hj hn=>f7 j hn⟩
 have l74:=load_cell ((f7 H.next (by omega)).trans t4) (o:=4) (v:=t.row) rfl
 have hl:=TM.lenT ok H7
 simp -dsimp only [SE,astep,seval,st7,Bool.not_true,← hH7]
 refine Dg rfl ?_
 simp -dsimp only [SE,astep,seval,l74,hl]
 refine Dm rfl ?_
 refine DR.loop ?_
 refine loop164y (w:=w+own t.k t.l.length) ok (by omega) hfs (fun x hx hxo hfx d w H h1 h2 h3 h4=>ih x hx hxo hfx id d w H h1 h2 h3 h4) rfl (H0:=H) (fun H8 h8 hw8 hd8 b8=> ?_) (fun T H8 w' b' h8 b8=>⟨.tup [],rfl,⟨_,_,_,h8,fun h=>nomatch h⟩,b8⟩) t.l.length 0 H7 (by omega) (by simpa [wordsL] using Nat.le_of_not_lt hbig) (by simp) ⟨_,g7⟩ b7
 refine Dm rfl ?_
 obtain ⟨b9,h9⟩:=h8
 refine DR.done ⟨.tup [],rfl,⟨_,_,_,h9,fun _=>⟨by rw [hwd,← Nat.add_assoc],by omega,(deep_eq t _).mpr ⟨by omega,deeps_iff.mpr ?_⟩⟩⟩,b8⟩
 rw [show 201 - d - 1=200 - d by omega]
 exact hd8
theorem g135y (t:TM) (ok:t.ok) (hf:fine t) (H:AHeap):DCall Tryz.prog 156 [t.agg] H fun r H'=>(∃ a b e,r = .tup [.agg [.int .i64 a,.int .i64 b,.bool false,.bool false],.int .i64 e]∧(e=0→right t)∧(e=0∨e=12))∧H'=H:=by
 refine DCall.closed (sz:=szs) (TM.pures1 t) (Q:=fun r H1=>∃ a b e,r = .tup [.agg [.int .i64 a,.int .i64 b,.bool false,.bool false],.int .i64 e]∧(e=0→right t)∧(e=0∨e=12)) ?_ (fun r H1 ⟨a,b,e,he,h2⟩=>⟨5,r,by rw [he]; rfl,a,b,e,he,h2⟩) H
 obtain ⟨H1,hH1,g1,n1,f1⟩:=psh AHeap.empty (.cells 27 (TM.c5 t))
 obtain ⟨H2,hH2,g2,n2,f2⟩:=psh H1 (.cells 119 [.int .i64 0,.int .i64 0,.bool false,.bool false])
 obtain ⟨H3,hH3,g3,n3,f3⟩:=psh H2 (.cells 119 [.int .i64 0,.int .i64 0,.bool false,.bool false])
 have t1:H3.get AHeap.empty.next=some (.cells 27 (TM.c5 t)):=(f3 _ (by rw [n2,n1]; omega)).trans ((f2 _ (by rw [n1]; omega)).trans g1)
 have t2:H3.get H1.next=some (.cells 119 [.int .i64 0,.int .i64 0,.bool false,.bool false]):=(f3 _ (by rw [n2]; omega)).trans g2
 have la:=load_all (n:=5) t1 rfl
 refine DCall.of_body (fn:=Tryz.f156) (by kernel_rfl) c156 (by kernel_rfl) (by simp [f156]) ?_
 unfold f156
 simp only []
 refine Dg rfl ?_
 simp -dsimp only [SE,astep,seval,← hH1,← hH2]
 refine Dg rfl ?_
 simp -dsimp only [SE,astep,seval,← hH3]
 refine Dg rfl ?_
 simp -dsimp only [SE,astep,seval,la]
 refine (g164y t ok hf H2.next 1 0 H3 (by omega) (by omega) (by omega) ⟨_,g3⟩).mono ?_
 rintro r H4 ⟨⟨w',b,o,h4,ho⟩,b4⟩
 rw [Nat.zero_add] at ho
 have t4:H4.get H1.next=some (.cells 119 [.int .i64 0,.int .i64 0,.bool false,.bool false]):=(b4.2 _ (by rw [n3,n2]; omega) (by rw [n2]; omega)).trans t2
 have l3:=load_cell h4 (o:=3) (v:=.bool o) rfl
 have l2:=load_cell h4 (o:=2) (v:=.bool false) rfl
 have l0:=load_all (n:=4) h4 rfl
 have fin:∀ X:List AVal,(∃ a b c d,X=[.int .i64 a,.int .i64 b,.bool c,.bool d])→astore H4 4 (.ptr H1.next 0) (.agg X)=some (H4.set H1.next (.cells 119 X))∧aload (H4.set H1.next (.cells 119 X)) (some 4) (.ptr H1.next 0)=some (.agg X):=by
  rintro X ⟨a,b,c,d,rfl⟩
  exact ⟨store_all (n:=4) (new:=[.int .i64 a,.int .i64 b,.bool c,.bool d]) t4 rfl rfl rfl,load_all (n:=4) (by rw [AHeap.get_set,if_pos rfl,if_pos (AHeap.get_lt t4)]) rfl⟩
 simp -dsimp only [SE,astep,seval]
 refine Dg rfl ?_
 simp -dsimp only [SE,astep,seval,l3]
 cases o with
 | true=>
  obtain ⟨s1,s2⟩:=fin _ ⟨0,0,false,false,rfl⟩
  refine Dy rfl rfl ?_
  refine Dg rfl ?_
  simp -dsimp only [SE,astep,seval,Env.parts,afill,s1]
  refine Dm rfl ?_
  exact DR.ret ⟨.tup [.agg [.int .i64 0,.int .i64 0,.bool false,.bool false],.int .i64 12],by simp [aresult,ares,Env.get,s2],_,_,_,rfl,(fun h=>by cases h),.inr rfl⟩
 | false=>
  obtain ⟨_,hw,hdp⟩:=ho rfl
  obtain ⟨s1,s2⟩:=fin _ ⟨w',b,false,false,rfl⟩
  refine Dn rfl rfl ?_
  refine Dg rfl ?_
  simp -dsimp only [SE,astep,seval,l2]
  refine Dn rfl rfl ?_
  refine Dg rfl ?_
  simp -dsimp only [SE,astep,seval,l0,s1]
  refine Dm rfl ?_
  exact DR.ret ⟨.tup [.agg [.int .i64 w',.int .i64 b,.bool false,.bool false],.int .i64 0],by simp [aresult,ares,Env.get,s2],_,_,_,rfl,fun _=>⟨hw,hdp,hf⟩,.inl rfl⟩
theorem g87y (t:TM) (ok:t.ok) (hf:fine t) (H:AHeap):DCall Tryz.prog 111 [t.agg] H fun r H'=>(∃ e,r = .int .i64 e∧(e=0→right t)∧(e=0∨e=12))∧H'=H:=by
 have h:DCall Tryz.prog 111 [t.agg] AHeap.empty fun r H'=>∃ n,r = .int .i64 n∧(n=0→right t)∧(n=0∨n=12):=by
  obtain ⟨H1,hH1,g1,n1,f1⟩:=psh AHeap.empty (.cells 27 (TM.c5 t))
  have la:=load_all (n:=5) g1 rfl
  refine DCall.of_body (fn:=Tryz.f111) (by kernel_rfl) c111 (by kernel_rfl) (by simp [f111]) ?_
  unfold f111
  simp only []
  refine Dg rfl ?_
  simp -dsimp only [SE,astep,seval,← hH1]
  refine Dg rfl ?_
  simp -dsimp only [SE,astep,seval,la]
  refine (g135y t ok hf H1).mono ?_
  rintro r H' ⟨⟨a,b,e,rfl,h1,h2⟩,he⟩
  obtain rfl:=he.symm
  obtain ⟨H2,hH2,g2,n2,f2⟩:=psh H1 (.cells 119 [.int .i64 0,.int .i64 0,.bool false,.bool false])
  have s1:astore H2 4 (.ptr H1.next 0) (.agg [.int .i64 a,.int .i64 b,.bool false,.bool false])=some (H2.set H1.next (.cells 119 [.int .i64 a,.int .i64 b,.bool false,.bool false])):=store_all (n:=4) (new:=[.int .i64 a,.int .i64 b,.bool false,.bool false]) g2 rfl rfl rfl
  simp -dsimp only [SE,astep,seval,← hH2,s1]
  refine Dg rfl ?_
  simp -dsimp only [SE,astep,seval]
  refine Dm rfl ?_
  exact DR.ret ⟨_,by simp [aresult,ares,Env.get] <;> rfl,⟨_,rfl,h1,h2⟩⟩
 exact (DCall.ints (TM.pures1 t) h H).mono fun r H' ⟨⟨n,h1,h3⟩,h2⟩=>⟨⟨n,h1,h3⟩,h2⟩
theorem g87z (t:TM) (ok:t.ok) (hf:fine t) (H:AHeap):DCall Tryz.prog 111 [t.agg] H fun r H'=>(∃ z:Bool,(z=true↔right t)∧r = .int .i64 (if z=true then 0 else 12))∧H'=H:=by
 by_cases hr:right t
 ·exact (g87x t ok hr H).mono fun r H' ⟨h1,h2⟩=>⟨⟨true,⟨fun _=>hr,fun _=>rfl⟩,h1⟩,h2⟩
 ·refine (g87y t ok hf H).mono fun r H' ⟨⟨e,h1,h2,h3⟩,h4⟩=>⟨⟨false,⟨fun h=>(nomatch h),fun h=>absurd h hr⟩,?_⟩,h4⟩
  rcases h3 with rfl | rfl
  ·exact absurd (h2 rfl) hr
  ·exact h1
end Go.Am.Rl
namespace Go.Am.Rl
open Go.Proofs
theorem leqT {a b:Int} (h:a≤b):abin .leq (.int .i64 a) (.int .i64 b)=some (.bool true):=by simp [abin]; omega
theorem r110 {t:TM} (ok:t.ok) (hf:fine t) (H:AHeap):DCall Tryz.prog 110 [t.agg] H fun r H'=>r = .bool true∧H'=H:=by
 have h:DCall Tryz.prog 110 [t.agg] AHeap.empty fun r H'=>∃ b,r = .bool b∧b=true:=by
  obtain ⟨H1,hH1,g1,n1,f1⟩:=psh AHeap.empty (.cells 27 (TM.c5 t))
  have la:=load_all (n:=5) g1 rfl
  have k0:=load_cell g1 (o:=0) (v:=.int .i64 t.k) rfl
  have k1:=load_cell g1 (o:=1) (v:=.int .i64 t.n) rfl
  have k2:=load_cell g1 (o:=2) (v:=.flt .f64 t.f) rfl
  have k3:=load_cell g1 (o:=3) (v:=.str t.s) rfl
  have k4:=load_cell g1 (o:=4) (v:=t.row) rfl
  have hl:=TM.lenT ok H1
  have hs0:alenT H1 0 (.str t.s)=some t.s.size:=rfl
  have one:∀ m:Int,m≠t.k→abin .eql (.int .i64 t.k) (.int .i64 m)=some (.bool false):=fun m h=>eqlF (fun e=>h e.symm)
  refine DCall.of_body (fn:=Tryz.f110) (by kernel_rfl) c110 (by kernel_rfl) (by simp [f110]) ?_
  unfold f110
  simp only []
  refine Dg rfl ?_
  simp -dsimp only [SE,astep,seval,← hH1]
  refine Dg rfl ?_
  simp -dsimp only [SE,astep,seval,k0]
  rcases ((fine_eq t).mp hf).1 with ⟨h1,hs,hll,hn,hf0⟩ | ⟨h2,hs,hll,hn,hfin⟩ | ⟨h3,hs,hn,hf0,hll⟩ | ⟨h46,hn,hs,hf0,hll⟩ | ⟨h5,hn,hs,hf0⟩ | ⟨h78,hn,hs,hf0⟩
  ·have c1:=eqlT h1
   refine Dg rfl ?_
   simp -dsimp only [SE,astep,seval,c1]
   refine Dy rfl rfl ?_
   refine Dy rfl rfl ?_
   refine Dg rfl ?_
   simp -dsimp only [SE,astep,seval,la]
   refine (r54 ok hf H1).mono ?_
   rintro r H' ⟨rfl,he⟩
   obtain rfl:=he.symm
   simp -dsimp only [SE,astep,seval]
   refine Dm rfl ?_
   exact DR.ret ⟨_,by simp [aresult,ares,Env.get] <;> rfl,_,rfl,by simp [isNb,h1]⟩
  ·have c1:=one 1 (by omega)
   refine Dg rfl ?_
   simp -dsimp only [SE,astep,seval,c1]
   refine Dn rfl rfl ?_
   have c2:=eqlT h2
   refine Dg rfl ?_
   simp -dsimp only [SE,astep,seval,c2]
   refine Dy rfl rfl ?_
   refine Dg rfl ?_
   simp -dsimp only [SE,astep,seval,la]
   refine (r54 ok hf H1).mono ?_
   rintro r H' ⟨rfl,he⟩
   obtain rfl:=he.symm
   simp -dsimp only [SE,astep,seval]
   refine Dm rfl ?_
   exact DR.ret ⟨_,by simp [aresult,ares,Env.get] <;> rfl,_,rfl,by simp [isNb,h2]⟩
  ·rw [hll] at hl
   have c1:=one 1 (by omega)
   refine Dg rfl ?_
   simp -dsimp only [SE,astep,seval,c1]
   refine Dn rfl rfl ?_
   have c2:=one 2 (by omega)
   refine Dg rfl ?_
   simp -dsimp only [SE,astep,seval,c2]
   refine Dn rfl rfl ?_
   have c3:=eqlT h3
   refine Dg rfl ?_
   simp -dsimp only [SE,astep,seval,c3]
   refine Dy rfl rfl ?_
   have q1:abin .leq (.int .i64 (t.s.size:Nat)) (.int .i64 64)=some (.bool true):=leqT (by omega)
   have q2:=eqlT hn
   have hl:alenT H1 1 t.row=some 0:=hl
   have q3:abin .eql (.int .i64 0) (.int .i64 0)=some (.bool true):=rfl
   refine Dg rfl ?_
   simp -dsimp only [SE,astep,seval,k3,hs0,q1,k1,q2,k2]
   refine (r86 t.f H1).mono ?_
   rintro r H' ⟨rfl,he⟩
   obtain rfl:=he.symm
   have hd:decide (t.f=0)=true:=by simp [hf0]
   rw [hd]
   simp -dsimp only [SE,astep,seval,k4,hl,q3]
   refine Dm rfl ?_
   exact DR.ret ⟨_,by simp [aresult,ares,Env.get] <;> rfl,_,rfl,rfl⟩
  ·rw [hll] at hl
   have hl:alenT H1 1 t.row=some 0:=hl
   have q3:abin .eql (.int .i64 0) (.int .i64 0)=some (.bool true):=rfl
   have q1:=geqT hn.1
   have q2:=leqT hn.2
   have qs:abin .eql (.str t.s) (.str ⟨#[]⟩)=some (.bool true):=by rw [hs]; exact sgT rfl
   rcases h46 with h4 | h6
   ·have c1:=one 1 (by omega)
    refine Dg rfl ?_
    simp -dsimp only [SE,astep,seval,c1]
    refine Dn rfl rfl ?_
    have c2:=one 2 (by omega)
    refine Dg rfl ?_
    simp -dsimp only [SE,astep,seval,c2]
    refine Dn rfl rfl ?_
    have c3:=one 3 (by omega)
    refine Dg rfl ?_
    simp -dsimp only [SE,astep,seval,c3]
    refine Dn rfl rfl ?_
    have c4:=eqlT h4
    refine Dg rfl ?_
    simp -dsimp only [SE,astep,seval,c4]
    refine Dy rfl rfl ?_
    refine Dy rfl rfl ?_
    refine Dg rfl ?_
    simp -dsimp only [SE,astep,seval,k1,q1,q2,k3,qs,k2]
    refine (r86 t.f H1).mono ?_
    rintro r H' ⟨rfl,he⟩
    obtain rfl:=he.symm
    have hd:decide (t.f=0)=true:=by simp [hf0]
    rw [hd]
    simp -dsimp only [SE,astep,seval,k4,hl,q3]
    refine Dm rfl ?_
    exact DR.ret ⟨_,by simp [aresult,ares,Env.get] <;> rfl,_,rfl,rfl⟩
   ·have c1:=one 1 (by omega)
    refine Dg rfl ?_
    simp -dsimp only [SE,astep,seval,c1]
    refine Dn rfl rfl ?_
    have c2:=one 2 (by omega)
    refine Dg rfl ?_
    simp -dsimp only [SE,astep,seval,c2]
    refine Dn rfl rfl ?_
    have c3:=one 3 (by omega)
    refine Dg rfl ?_
    simp -dsimp only [SE,astep,seval,c3]
    refine Dn rfl rfl ?_
    have c4:=one 4 (by omega)
    refine Dg rfl ?_
    simp -dsimp only [SE,astep,seval,c4]
    refine Dn rfl rfl ?_
    have c6:=eqlT h6
    refine Dg rfl ?_
    simp -dsimp only [SE,astep,seval,c6]
    refine Dy rfl rfl ?_
    refine Dg rfl ?_
    simp -dsimp only [SE,astep,seval,k1,q1,q2,k3,qs,k2]
    refine (r86 t.f H1).mono ?_
    rintro r H' ⟨rfl,he⟩
    obtain rfl:=he.symm
    have hd:decide (t.f=0)=true:=by simp [hf0]
    rw [hd]
    simp -dsimp only [SE,astep,seval,k4,hl,q3]
    refine Dm rfl ?_
    exact DR.ret ⟨_,by simp [aresult,ares,Env.get] <;> rfl,_,rfl,rfl⟩
  ·have q1:=geqT hn.1
   have q2:=leqT hn.2
   have qs:abin .eql (.str t.s) (.str ⟨#[]⟩)=some (.bool true):=by rw [hs]; exact sgT rfl
   have c1:=one 1 (by omega)
   refine Dg rfl ?_
   simp -dsimp only [SE,astep,seval,c1]
   refine Dn rfl rfl ?_
   have c2:=one 2 (by omega)
   refine Dg rfl ?_
   simp -dsimp only [SE,astep,seval,c2]
   refine Dn rfl rfl ?_
   have c3:=one 3 (by omega)
   refine Dg rfl ?_
   simp -dsimp only [SE,astep,seval,c3]
   refine Dn rfl rfl ?_
   have c4:=one 4 (by omega)
   refine Dg rfl ?_
   simp -dsimp only [SE,astep,seval,c4]
   refine Dn rfl rfl ?_
   have c6:=one 6 (by omega)
   refine Dg rfl ?_
   simp -dsimp only [SE,astep,seval,c6]
   refine Dn rfl rfl ?_
   have c5:=eqlT h5
   refine Dg rfl ?_
   simp -dsimp only [SE,astep,seval,c5]
   refine Dy rfl rfl ?_
   refine Dg rfl ?_
   simp -dsimp only [SE,astep,seval,k1,q1,q2,k3,qs,k2]
   refine (r86 t.f H1).mono ?_
   rintro r H' ⟨rfl,he⟩
   obtain rfl:=he.symm
   have hd:decide (t.f=0)=true:=by simp [hf0]
   rw [hd]
   simp -dsimp only [SE,astep,seval]
   refine Dm rfl ?_
   exact DR.ret ⟨_,by simp [aresult,ares,Env.get] <;> rfl,_,rfl,rfl⟩
  ·have q1:=eqlT hn
   have qs:abin .eql (.str t.s) (.str ⟨#[]⟩)=some (.bool true):=by rw [hs]; exact sgT rfl
   rcases h78 with h7 | h8
   ·have c1:=one 1 (by omega)
    refine Dg rfl ?_
    simp -dsimp only [SE,astep,seval,c1]
    refine Dn rfl rfl ?_
    have c2:=one 2 (by omega)
    refine Dg rfl ?_
    simp -dsimp only [SE,astep,seval,c2]
    refine Dn rfl rfl ?_
    have c3:=one 3 (by omega)
    refine Dg rfl ?_
    simp -dsimp only [SE,astep,seval,c3]
    refine Dn rfl rfl ?_
    have c4:=one 4 (by omega)
    refine Dg rfl ?_
    simp -dsimp only [SE,astep,seval,c4]
    refine Dn rfl rfl ?_
    have c6:=one 6 (by omega)
    refine Dg rfl ?_
    simp -dsimp only [SE,astep,seval,c6]
    refine Dn rfl rfl ?_
    have c5:=one 5 (by omega)
    refine Dg rfl ?_
    simp -dsimp only [SE,astep,seval,c5]
    refine Dn rfl rfl ?_
    have c7:=eqlT h7
    refine Dg rfl ?_
    simp -dsimp only [SE,astep,seval,c7]
    refine Dy rfl rfl ?_
    refine Dy rfl rfl ?_
    refine Dg rfl ?_
    simp -dsimp only [SE,astep,seval,k1,q1,k3,qs,k2]
    refine (r86 t.f H1).mono ?_
    rintro r H' ⟨rfl,he⟩
    obtain rfl:=he.symm
    have hd:decide (t.f=0)=true:=by simp [hf0]
    rw [hd]
    simp -dsimp only [SE,astep,seval]
    refine Dm rfl ?_
    exact DR.ret ⟨_,by simp [aresult,ares,Env.get] <;> rfl,_,rfl,rfl⟩
   ·have c1:=one 1 (by omega)
    refine Dg rfl ?_
    simp -dsimp only [SE,astep,seval,c1]
    refine Dn rfl rfl ?_
    have c2:=one 2 (by omega)
    refine Dg rfl ?_
    simp -dsimp only [SE,astep,seval,c2]
    refine Dn rfl rfl ?_
    have c3:=one 3 (by omega)
    refine Dg rfl ?_
    simp -dsimp only [SE,astep,seval,c3]
    refine Dn rfl rfl ?_
    have c4:=one 4 (by omega)
    refine Dg rfl ?_
    simp -dsimp only [SE,astep,seval,c4]
    refine Dn rfl rfl ?_
    have c6:=one 6 (by omega)
    refine Dg rfl ?_
    simp -dsimp only [SE,astep,seval,c6]
    refine Dn rfl rfl ?_
    have c5:=one 5 (by omega)
    refine Dg rfl ?_
    simp -dsimp only [SE,astep,seval,c5]
    refine Dn rfl rfl ?_
    have c7:=one 7 (by omega)
    refine Dg rfl ?_
    simp -dsimp only [SE,astep,seval,c7]
    refine Dn rfl rfl ?_
    have c8:=eqlT h8
    refine Dg rfl ?_
    simp -dsimp only [SE,astep,seval,c8]
    refine Dy rfl rfl ?_
    refine Dg rfl ?_
    simp -dsimp only [SE,astep,seval,k1,q1,k3,qs,k2]
    refine (r86 t.f H1).mono ?_
    rintro r H' ⟨rfl,he⟩
    obtain rfl:=he.symm
    have hd:decide (t.f=0)=true:=by simp [hf0]
    rw [hd]
    simp -dsimp only [SE,astep,seval]
    refine Dm rfl ?_
    exact DR.ret ⟨_,by simp [aresult,ares,Env.get] <;> rfl,_,rfl,rfl⟩
 exact (DCall.bools (TM.pures1 t) h H).mono fun r H' ⟨⟨n,h1,h3⟩,h2⟩=>⟨by rw [h1,h3],h2⟩
section
variable {t:TM} {H:AHeap} {id:Nat} {k k':List AItem} {Q:Env→AHeap→Prop}
theorem loop70 (ok:t.ok) (ih:∀ x ∈ t.l,∀ H,DCall Tryz.prog 70 [x.agg] H fun r H'=>r = .bool true∧H'=H)
  (g:H.get id=some (.cells 27 (TM.c5 t))) (hk:aexitTo 0 k=some k') (hend:DR Tryz.prog (kof k70) 21 k' [] H Q) :
  ∀ (e i:Nat),i+e=t.l.length→DR Tryz.prog (kof k70) 21 (.code l70_0::.inLoop l70_0::k) [(1,.ptr id 0),(3,.int .i64 (i:Nat))] H Q:=by
 intro e
 have l4:=load_cell g (o:=4) (v:=t.row) rfl
 have hl:=TM.lenT ok H
 induction e with
 | zero=>
  intro i hi
  have hc:abin .lss (.int .i64 (i:Nat)) (.int .i64 (t.l.length:Nat))=some (.bool false):=lssF (by omega)
  refine Dg rfl ?_
  simp -dsimp only [SE,astep,seval,l4,hl,hc]
  refine Dn rfl rfl ?_
  refine Dm rfl ?_
  refine DR.exit hk ?_
  exact DR.only [] hend
 | succ e ih2=>
  intro i hi
  have hc:abin .lss (.int .i64 (i:Nat)) (.int .i64 (t.l.length:Nat))=some (.bool true):=lssT (by omega)
  have hlt:i < t.l.length:=by omega
  have hx:t.l[i]? = some t.l[i]:=List.getElem?_eq_getElem hlt
  have ra:=TM.row_at ok hx H
  have la:=TM.load t.l[i] (TM.flat (t.l.drop (i+1))) H
  have hle:=TM.len_le ok
  have hadd:abin .add (.int .i64 (i:Nat)) (.int .i64 1)=some (.int .i64 ((i+1:Nat):Int)):=add_nat (b:=1) (by omega)
  refine Dg rfl ?_
  simp -dsimp only [SE,astep,seval,l4,hl,hc]
  refine Dy rfl rfl ?_
  refine Dg rfl ?_
  simp -dsimp only [SE,astep,seval,l4,ra,la]
  refine (ih _ (List.getElem_mem hlt) H).mono ?_
  rintro r H' ⟨rfl,he⟩
  obtain rfl:=he.symm
  simp -dsimp only [SE,astep,seval,Bool.not_true]
  refine Dn rfl rfl ?_
  refine Dg rfl ?_
  simp -dsimp only [SE,astep,seval,hadd]
  refine Dm rfl ?_
  refine DR.inLoop ?_
  exact ih2 (i+1) (by omega)
end
theorem r70:∀ t:TM,t.ok→fine t→∀ H:AHeap,DCall Tryz.prog 70 [t.agg] H fun r H'=>r = .bool true∧H'=H:=by
 refine TM.all fun t ih ok hf H=> ?_
 have h:DCall Tryz.prog 70 [t.agg] AHeap.empty fun r H'=>∃ b,r = .bool b∧b=true:=by
  obtain ⟨H1,hH1,g1,n1,f1⟩:=psh AHeap.empty (.cells 27 (TM.c5 t))
  have la:=load_all (n:=5) g1 rfl
  refine DCall.of_body (fn:=Tryz.f70) (by kernel_rfl) c70 (by kernel_rfl) (by simp [f70]) ?_
  unfold f70
  simp only []
  refine Dg rfl ?_
  simp -dsimp only [SE,astep,seval,← hH1]
  refine Dg rfl ?_
  simp -dsimp only [SE,astep,seval,la]
  refine (r110 ok hf H1).mono ?_
  rintro r H' ⟨rfl,he⟩
  obtain rfl:=he.symm
  simp -dsimp only [SE,astep,seval,Bool.not_true]
  refine Dn rfl rfl ?_
  refine Dg rfl ?_
  simp -dsimp only [SE,astep,seval]
  refine Dm rfl ?_
  refine DR.loop ?_
  refine loop70 ok (fun x hx H=>ih x hx (TM.oks_mem (TM.ok_oks ok) x hx) (fines_iff.mp ((fine_eq t).mp hf).2 x hx) H) g1 rfl ?_ t.l.length 0 (by omega)
  refine Dg rfl ?_
  simp -dsimp only [SE,astep,seval]
  refine Dm rfl ?_
  exact DR.ret ⟨_,by simp [aresult,ares,Env.get] <;> rfl,_,rfl,rfl⟩
 exact (DCall.bools (TM.pures1 t) h H).mono fun r H' ⟨⟨n,h1,h3⟩,h2⟩=>⟨by rw [h1,h3],h2⟩
section
variable {t:TM} {H:AHeap} {id:Nat} {k k':List AItem} {Q:Env→AHeap→Prop}
theorem loop69 {d m:Nat} (ok:t.ok) (hm:m≤65536) (hd:d≤200) (hd1:1≤d) (hw:words t≤m) (ih:∀ (i:Nat) (x:TM),t.l[i]? = some x→∀ H,DCall Tryz.prog 69 [x.agg,i64 ((d - 1:Nat):Int),i64 ((m - (own t.k t.l.length+wordsL (t.l.take i)):Nat):Int)] H fun r H'=>r=i64 (words x:Nat)∧H'=H)
  (g:H.get id=some (.cells 27 (TM.c5 t))) (hk:aexitTo 0 k=some k') (hend:DR Tryz.prog (kof k69) 44 k' [(7,i64 (words t:Nat))] H Q) :
  ∀ (e i:Nat),i+e=t.l.length→DR Tryz.prog (kof k69) 44 (.code l69_0::.inLoop l69_0::k) [(1,i64 d),(2,i64 m),(3,.ptr id 0),(7,i64 ((own t.k t.l.length+wordsL (t.l.take i):Nat):Int)),(8,i64 (i:Nat))] H Q:=by
 intro e
 have l4:=load_cell g (o:=4) (v:=t.row) rfl
 have hl:=TM.lenT ok H
 have hwe:=words_eq t
 induction e with
 | zero=>
  intro i hi
  have hcmp:abin .lss (i64 (i:Nat)) (i64 (t.l.length:Nat))=some (.bool false):=lssF (by omega)
  refine Dg rfl ?_
  simp -dsimp only [SE,astep,seval,l4,hl,hcmp]
  refine Dn rfl rfl ?_
  refine Dm rfl ?_
  refine DR.exit hk ?_
  rw [List.take_of_length_le (by omega),← hwe]
  exact DR.only [7] hend
 | succ e ih2=>
  intro i hi
  have hcmp:abin .lss (i64 (i:Nat)) (i64 (t.l.length:Nat))=some (.bool true):=lssT (by omega)
  have hlt:i < t.l.length:=by omega
  have hx:t.l[i]? = some t.l[i]:=List.getElem?_eq_getElem hlt
  have ra:=TM.row_at ok hx H
  have la:=TM.load t.l[i] (TM.flat (t.l.drop (i+1))) H
  have hle:=TM.len_le ok
  have hwl:=words_le hx
  have hadd:abin .add (i64 (i:Nat)) (i64 1)=some (i64 ((i+1:Nat):Int)):=add_nat (b:=1) (by omega)
  have hs1:abin .sub (i64 d) (i64 1)=some (i64 ((d - 1:Nat):Int)):=sub_nat (b:=1) (by omega) hd1
  have hs2:=sub_nat hm (show own t.k t.l.length+wordsL (t.l.take i)≤m by omega)
  have hb:abin .lss (i64 (words t.l[i]:Nat)) (i64 0)=some (.bool false):=lssF (by omega)
  have ha2:=add_nat (a:=own t.k t.l.length+wordsL (t.l.take i)) (b:=words t.l[i]) (by omega)
  refine Dg rfl ?_
  simp -dsimp only [SE,astep,seval,l4,hl,hcmp]
  refine Dy rfl rfl ?_
  refine Dg rfl ?_
  simp -dsimp only [SE,astep,seval,l4,ra,la,hs1,hs2]
  refine (ih i _ hx H).mono ?_
  rintro r H' ⟨rfl,he⟩
  obtain rfl:=he.symm
  simp -dsimp only [SE,astep,seval]
  refine Dg rfl ?_
  simp -dsimp only [SE,astep,seval,hb]
  refine Dn rfl rfl ?_
  refine Dg rfl ?_
  simp -dsimp only [SE,astep,seval,ha2]
  refine Dg rfl ?_
  simp -dsimp only [SE,astep,seval,hadd]
  refine Dm rfl ?_
  refine DR.inLoop ?_
  rw [show own t.k t.l.length+wordsL (t.l.take i)+words t.l[i]=own t.k t.l.length+wordsL (t.l.take (i+1)) by rw [wordsL_take hx]; omega]
  exact ih2 (i+1) (by omega)
end
theorem r69:∀ t:TM,t.ok→∀ (d m:Nat) (H:AHeap),d≤200→m≤65536→deep t d→words t≤m→DCall Tryz.prog 69 [t.agg,i64 d,i64 m] H fun r H'=>r=i64 (words t:Nat)∧H'=H:=by
 refine TM.all fun t ih ok d m H hd hm hdp hw=> ?_
 have hwe:=words_eq t
 obtain ⟨hd1,hds⟩:=(deep_eq t d).mp hdp
 have hds:=deeps_iff.mp hds
 have h:DCall Tryz.prog 69 [t.agg,i64 d,i64 m] AHeap.empty fun r H'=>∃ n,r=i64 n∧n=(words t:Nat):=by
  obtain ⟨H1,hH1,g1,n1,f1⟩:=psh AHeap.empty (.cells 27 (TM.c5 t))
  have la:=load_all (n:=5) g1 rfl
  have hb1:abin .lss (i64 d) (i64 1)=some (.bool false):=lssF (by omega)
  have hb2:abin .gtr (i64 (own t.k t.l.length:Nat)) (i64 m)=some (.bool false):=gtrF (by omega)
  refine DCall.of_body (fn:=Tryz.f69) (by kernel_rfl) c69 (by kernel_rfl) (by simp [f69]) ?_
  unfold f69
  simp only []
  refine Dg rfl ?_
  simp -dsimp only [SE,astep,seval,← hH1]
  refine Dg rfl ?_
  simp -dsimp only [SE,astep,seval,hb1,la]
  refine (g85x t ok H1).mono ?_
  rintro r H' ⟨rfl,he⟩
  obtain rfl:=he.symm
  simp -dsimp only [SE,astep,seval,hb2]
  refine Dn rfl rfl ?_
  refine Dg rfl ?_
  simp -dsimp only [SE,astep,seval,la]
  refine (g85x t ok H1).mono ?_
  rintro r H' ⟨rfl,he⟩
  obtain rfl:=he.symm
  simp -dsimp only [SE,astep,seval]
  refine Dg rfl ?_
  simp -dsimp only [SE,astep,seval]
  refine Dm rfl ?_
  refine DR.loop ?_
  have hend:DR Tryz.prog (kof k69) 44 [.code (.seq (.region false r69_11 [6]) .ret)] [(7,i64 (words t:Nat))] H1 fun T' H'=>∃ r,aresult H' T' [.tmp 6]=some r∧∃ n,r=i64 n∧n=(words t:Nat):=by
   refine Dg rfl ?_
   simp -dsimp only [SE,astep,seval]
   refine Dm rfl ?_
   exact DR.ret ⟨_,by simp [aresult,ares,Env.get] <;> rfl,_,rfl,rfl⟩
  have:=loop69 (k:=[.inBlock 0,.code (.seq (.region false r69_11 [6]) .ret)]) ok hm hd hd1 hw (fun i x hx H=>by
   have hm':=List.mem_of_getElem? hx
   have hwl:=words_le hx
   exact ih x hm' (TM.oks_mem (TM.ok_oks ok) x hm') (d - 1) _ H (by omega) (by omega) (hds x hm') (by omega)) g1 rfl hend t.l.length 0 (by omega)
  simp only [List.take_zero,wordsL,Nat.add_zero] at this
  exact this
 exact (DCall.ints (TM.pures2 t d m) h H).mono fun r H' ⟨⟨n,h1,h3⟩,h2⟩=>⟨by rw [h1,h3],h2⟩
theorem r29 {t:TM} (ok:t.ok) (hr:right t) (H:AHeap):DCall Tryz.prog 29 [t.agg] H fun r H'=>r = .int .i64 0∧H'=H:=by
 obtain ⟨hw,hdp,hf⟩:=hr
 have h:DCall Tryz.prog 29 [t.agg] AHeap.empty fun r H'=>∃ n,r = .int .i64 n∧n=0:=by
  obtain ⟨H1,hH1,g1,n1,f1⟩:=psh AHeap.empty (.cells 27 (TM.c5 t))
  have la:=load_all (n:=5) g1 rfl
  have hb:abin .lss (i64 (words t:Nat)) (i64 0)=some (.bool false):=lssF (by omega)
  refine DCall.of_body (fn:=Tryz.f29) (by kernel_rfl) c29 (by kernel_rfl) (by simp [f29]) ?_
  unfold f29
  simp only []
  refine Dg rfl ?_
  simp -dsimp only [SE,astep,seval,← hH1]
  refine Dg rfl ?_
  simp -dsimp only [SE,astep,seval,la]
  refine (r69 t ok 200 65536 H1 (by omega) (by omega) hdp hw).mono ?_
  rintro r H' ⟨rfl,he⟩
  obtain rfl:=he.symm
  simp -dsimp only [SE,astep,seval,hb]
  refine Dn rfl rfl ?_
  refine Dg rfl ?_
  simp -dsimp only [SE,astep,seval,la]
  refine (r70 t ok hf H1).mono ?_
  rintro r H2 ⟨rfl,he⟩
  obtain rfl:=he.symm
  simp -dsimp only [SE,astep,seval,Bool.not_true]
  refine Dn rfl rfl ?_
  refine Dg rfl ?_
  simp -dsimp only [SE,astep,seval]
  refine Dm rfl ?_
  exact DR.ret ⟨_,by simp [aresult,ares,Env.get] <;> rfl,_,rfl,rfl⟩
 exact (DCall.ints (TM.pures1 t) h H).mono fun r H' ⟨⟨n,h1,h3⟩,h2⟩=>⟨by rw [h1,h3],h2⟩
theorem r13 {t:TM} (ok:t.ok) (H:AHeap):DCall Tryz.prog 13 [t.agg] H fun r H'=>(∃ z:Bool,(z=true↔right t)∧r = .bool z)∧H'=H:=by
 by_cases hr:right t
 ·have h:DCall Tryz.prog 13 [t.agg] AHeap.empty fun r H'=>∃ b,r = .bool b∧b=true:=by
   obtain ⟨H1,hH1,g1,n1,f1⟩:=psh AHeap.empty (.cells 27 (TM.c5 t))
   have la:=load_all (n:=5) g1 rfl
   have c:abin .eql (.int .i64 0) (.int .i64 0)=some (.bool true):=rfl
   refine DCall.of_body (fn:=Tryz.f13) (by kernel_rfl) c13 (by kernel_rfl) (by simp [f13]) ?_
   unfold f13
   simp only []
   refine Dg rfl ?_
   simp -dsimp only [SE,astep,seval,← hH1]
   refine Dg rfl ?_
   simp -dsimp only [SE,astep,seval,la]
   refine (r29 ok hr H1).mono ?_
   rintro r H' ⟨rfl,he⟩
   obtain rfl:=he.symm
   simp -dsimp only [SE,astep,seval,c]
   refine Dm rfl ?_
   exact DR.ret ⟨_,by simp [aresult,ares,Env.get] <;> rfl,_,rfl,rfl⟩
  exact (DCall.bools (TM.pures1 t) h H).mono fun r H' ⟨⟨n,h1,h3⟩,h2⟩=>⟨⟨n,⟨fun _=>hr,fun _=>h3⟩,h1⟩,h2⟩
 ·exact (g18x t ok H).mono fun r H' ⟨⟨b,h1,h2⟩,h3⟩=>⟨⟨b,⟨h2,fun h=>absurd h hr⟩,h1⟩,h3⟩
end Go.Am.Rl
namespace Go.Am.Rl
open Go.Proofs
abbrev opC (u:TM):List AVal:=[u.row,.nilf]
abbrev fnv (f:FuncId):AVal:=.fn (.func f) [] []
def Oped (Y:TM→Prop) (E:Int→Prop) (r:AVal):Prop:=(∃ y:TM,y.ok∧Y y∧r = .tup [(norm y).agg,.int .i64 0])∨∃ e,E e∧r = .tup [.agg z25,.int .i64 e]
theorem Oped.pure {Y:TM→Prop} {E:Int→Prop} {r:AVal} (h:Oped Y E r):r.pure=true:=by
 rcases h with ⟨y,_,_,rfl⟩ | ⟨e,_,rfl⟩
 ·have:=TM.pures1 (norm y)
  simp only [AVal.pures,AVal.pure,Bool.and_true] at this ⊢
  exact this
 ·rfl
section
variable {u:TM} {f:FuncId} {Y:TM→Prop} {E:Int→Prop} {sg:ByteArray}
theorem opFill (u:TM):afill [.nils,.nilf] [(0,1,u.row)]=some (opC u):=by
 cases u with
 | mk k n f s nl l=>cases nl <;> rfl
theorem opclosed (h:DCallX Tryz.prog 6 [.str sg,u.row] AHeap.empty fun o H'=>∃ v,o = .ret v∧Oped Y E v) (H:AHeap):DCall Tryz.prog 6 [.str sg,u.row] H fun r H'=>Oped Y E r∧H'=H:=by
 have hp:AVal.pures [.str sg,u.row]=true:=by
  have:=TM.purer (u:=u)
  simp only [AVal.pures,Bool.and_true] at this ⊢
  rw [this]; rfl
 exact DCall.closed (sz:=szs) hp (Q:=fun r _=>Oped Y E r) (DCallX.plain (Q:=fun r _=>Oped Y E r) h) (fun r H1 hr=>⟨SizeOf.sizeOf r+1,r,freeze_pure _ _ (by omega) hr.pure,hr⟩) H
end
end Go.Am.Rl
namespace Go.Am.Rl
open Go.Proofs
def SL2 (H:AHeap) (v:AVal) (a b:TM):Prop:=∃ id cap,v = .sl id 0 2 cap∧H.get id=some (.cells 27 (TM.flat [a,b]))
theorem SL2.gro {H H':AHeap} {v:AVal} {a b:TM} (h:SL2 H v a b) (g:Gro H H'):SL2 H' v a b:=by
 obtain ⟨id,cap,rfl,h⟩:=h
 exact ⟨id,cap,rfl,g.get h⟩
theorem SL2.len {H:AHeap} {v:AVal} {a b:TM} (h:SL2 H v a b) (H':AHeap):alenT H' 1 v=some 2:=by
 obtain ⟨id,cap,rfl,h⟩:=h; rfl
theorem SL2.one {H:AHeap} {v:AVal} {a b:TM} (h:SL2 H v a b):v.one=true∧v.cells=[v]:=by
 obtain ⟨id,cap,rfl,h⟩:=h; exact ⟨rfl,rfl⟩
abbrev tf (b:Bool):TM:=atm (if b then sTrue else sFalse)
theorem tf_ok (b:Bool):(tf b).ok:=by cases b <;> exact atm_ok (by decide)
def TellsB (H:AHeap) (p:Bool) (r:AVal) (H':AHeap):Prop:=Gro H H'∧r=(tf p).agg
section
variable {a b:TM} {v:AVal}
end
theorem g37 {g:FuncId} (H:AHeap):DCall Tryz.prog 30 [fnv g] H fun r H'=>Gro H H'∧∃ id,r = .fn (.func 31) [] [.ptr id 0]∧H'.get id=some (.cells 58 [fnv g]):=by
 obtain ⟨H1,hH1,g1,n1,f1⟩:=psh H (.cells 58 [fnv g])
 have hcell:(fnv g).cells=[fnv g]:=rfl
 refine DCall.of_body (fn:=Tryz.f30) (by kernel_rfl) c30 (by kernel_rfl) (by simp [f30]) ?_
 unfold f30
 simp only []
 refine Dg rfl ?_
 simp -dsimp only [SE,astep,seval,hcell,← hH1]
 refine Dg rfl ?_
 simp -dsimp only [SE,astep,seval]
 refine Dm rfl ?_
 exact DR.ret ⟨_,by simp [aresult,ares,Env.get] <;> rfl,⟨by omega,f1⟩,_,rfl,g1⟩
theorem g40 {w:Bool} (H:AHeap):DCall Tryz.prog 34 [.bool w] H fun r H'=>Gro H H'∧∃ id,r = .fn (.func 35) [] [.ptr id 0]∧H'.get id=some (.cells 4 [.bool w]):=by
 obtain ⟨H1,hH1,g1,n1,f1⟩:=psh H (.cells 4 [.bool w])
 have hcell:(AVal.bool w).cells=[.bool w]:=rfl
 refine DCall.of_body (fn:=Tryz.f34) (by kernel_rfl) c34 (by kernel_rfl) (by simp [f34]) ?_
 unfold f34
 simp only []
 refine Dg rfl ?_
 simp -dsimp only [SE,astep,seval,hcell,← hH1]
 refine Dg rfl ?_
 simp -dsimp only [SE,astep,seval]
 refine Dm rfl ?_
 exact DR.ret ⟨_,by simp [aresult,ares,Env.get] <;> rfl,⟨by omega,f1⟩,_,rfl,g1⟩
theorem g46_ (n:Int) (H:AHeap):DCall Tryz.prog 40 [.int .i64 n] H fun r H'=>r = .bool (decide (n=0))∧H'=H:=by
 have c:abin .eql (.int .i64 n) (.int .i64 0)=some (.bool (decide (n=0))):=by exact eql_dec _ _
 refine DCall.of_body (fn:=Tryz.f40) (by kernel_rfl) c40 (by kernel_rfl) (by simp [f40]) ?_
 unfold f40
 simp only []
 refine Dg rfl ?_
 simp -dsimp only [SE,astep,seval]
 refine Dg rfl ?_
 simp -dsimp only [SE,astep,seval,c]
 refine Dm rfl ?_
 exact DR.ret ⟨_,by simp [aresult,ares,Env.get] <;> rfl,rfl,rfl⟩
theorem g47_ (n:Int) (H:AHeap):DCall Tryz.prog 41 [.int .i64 n] H fun r H'=>r = .bool (decide (n≠0))∧H'=H:=by
 have c:abin .neq (.int .i64 n) (.int .i64 0)=some (.bool (decide (n≠0))):=by exact neq_dec _ _
 refine DCall.of_body (fn:=Tryz.f41) (by kernel_rfl) c41 (by kernel_rfl) (by simp [f41]) ?_
 unfold f41
 simp only []
 refine Dg rfl ?_
 simp -dsimp only [SE,astep,seval]
 refine Dg rfl ?_
 simp -dsimp only [SE,astep,seval,c]
 refine Dm rfl ?_
 exact DR.ret ⟨_,by simp [aresult,ares,Env.get] <;> rfl,rfl,rfl⟩
theorem g48_ (n:Int) (H:AHeap):DCall Tryz.prog 42 [.int .i64 n] H fun r H'=>r = .bool (decide (n≤0))∧H'=H:=by
 have c:abin .leq (.int .i64 n) (.int .i64 0)=some (.bool (decide (n≤0))):=by rfl
 refine DCall.of_body (fn:=Tryz.f42) (by kernel_rfl) c42 (by kernel_rfl) (by simp [f42]) ?_
 unfold f42
 simp only []
 refine Dg rfl ?_
 simp -dsimp only [SE,astep,seval]
 refine Dg rfl ?_
 simp -dsimp only [SE,astep,seval,c]
 refine Dm rfl ?_
 exact DR.ret ⟨_,by simp [aresult,ares,Env.get] <;> rfl,rfl,rfl⟩
theorem g49_ (n:Int) (H:AHeap):DCall Tryz.prog 43 [.int .i64 n] H fun r H'=>r = .bool (decide (n < 0))∧H'=H:=by
 have c:abin .lss (.int .i64 n) (.int .i64 0)=some (.bool (decide (n < 0))):=by rfl
 refine DCall.of_body (fn:=Tryz.f43) (by kernel_rfl) c43 (by kernel_rfl) (by simp [f43]) ?_
 unfold f43
 simp only []
 refine Dg rfl ?_
 simp -dsimp only [SE,astep,seval]
 refine Dg rfl ?_
 simp -dsimp only [SE,astep,seval,c]
 refine Dm rfl ?_
 exact DR.ret ⟨_,by simp [aresult,ares,Env.get] <;> rfl,rfl,rfl⟩
theorem g50_ (n:Int) (H:AHeap):DCall Tryz.prog 44 [.int .i64 n] H fun r H'=>r = .bool (decide (0≤n))∧H'=H:=by
 have c:abin .geq (.int .i64 n) (.int .i64 0)=some (.bool (decide (0≤n))):=by rfl
 refine DCall.of_body (fn:=Tryz.f44) (by kernel_rfl) c44 (by kernel_rfl) (by simp [f44]) ?_
 unfold f44
 simp only []
 refine Dg rfl ?_
 simp -dsimp only [SE,astep,seval]
 refine Dg rfl ?_
 simp -dsimp only [SE,astep,seval,c]
 refine Dm rfl ?_
 exact DR.ret ⟨_,by simp [aresult,ares,Env.get] <;> rfl,rfl,rfl⟩
theorem g51_ (n:Int) (H:AHeap):DCall Tryz.prog 45 [.int .i64 n] H fun r H'=>r = .bool (decide (0 < n))∧H'=H:=by
 have c:abin .gtr (.int .i64 n) (.int .i64 0)=some (.bool (decide (0 < n))):=by rfl
 refine DCall.of_body (fn:=Tryz.f45) (by kernel_rfl) c45 (by kernel_rfl) (by simp [f45]) ?_
 unfold f45
 simp only []
 refine Dg rfl ?_
 simp -dsimp only [SE,astep,seval]
 refine Dg rfl ?_
 simp -dsimp only [SE,astep,seval,c]
 refine Dm rfl ?_
 exact DR.ret ⟨_,by simp [aresult,ares,Env.get] <;> rfl,rfl,rfl⟩
abbrev s_eq:ByteArray:=⟨#[61,61]⟩
abbrev s_ne:ByteArray:=⟨#[47,61]⟩
abbrev s_le:ByteArray:=⟨#[61,60]⟩
abbrev s_lt:ByteArray:=⟨#[60]⟩
abbrev s_ge:ByteArray:=⟨#[62,61]⟩
abbrev s_gt:ByteArray:=⟨#[62]⟩
abbrev s_same:ByteArray:=⟨#[61,58,61]⟩
abbrev s_diff:ByteArray:=⟨#[61,47,61]⟩
end Go.Am.Rl
