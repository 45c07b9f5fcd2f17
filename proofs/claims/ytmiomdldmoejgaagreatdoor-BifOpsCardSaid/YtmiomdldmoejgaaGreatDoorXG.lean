/- Parts: RI, RJ, RK, QA, QB, QC, QD. -/
import Derived.Test.YtmiomdldmoejgaaGreatDoorXF
set_option linter.unusedVariables false
set_option linter.unusedSimpArgs false
set_option maxRecDepth 20000
namespace Go.Am.Rl
open Go.Proofs
section
variable {u:TM} {k k':List AItem} {Q:Env→AHeap→Prop} {i1 i2:Nat}
theorem loop67 (ok:u.ok) (ih:∀ x ∈ u.l,x.ok→∀ H,DCall Tryz.prog 67 [x.agg] H fun r H'=>r=(norm x).agg∧H'=H) (hk:aexitTo 0 k=some k')
  (hend:∀ H v,Grow H 27 5 v u.l.length (TM.flat (norms u.l))→(u.l.length=0→v = .nils)→H.get i1=some (.cells 27 (TM.c5 u))→H.get i2=some (.cells 27 z25)→rid v≠some i1→rid v≠some i2→DR Tryz.prog (kof k67) 24 k' [(1,.ptr i1 0),(2,.ptr i2 0),(3,v)] H Q) :
  ∀ (e i:Nat) (H:AHeap) (v:AVal),i+e=u.l.length→Grow H 27 5 v i (TM.flat (norms (u.l.take i)))→(i=0→v = .nils)→H.get i1=some (.cells 27 (TM.c5 u))→H.get i2=some (.cells 27 z25)→rid v≠some i1→rid v≠some i2→
   DR Tryz.prog (kof k67) 24 (.code l67_0::.inLoop l67_0::k) [(1,.ptr i1 0),(2,.ptr i2 0),(3,v),(4,.int .i64 (i:Nat))] H Q:=by
 intro e
 induction e with
 | zero=>
  intro i H v hi hv hz h1 h2 d1 d2
  have hc:abin .lss (.int .i64 (i:Nat)) (.int .i64 (u.l.length:Nat))=some (.bool false):=lssF (by omega)
  have l4:=load_cell h1 (o:=4) (v:=u.row) rfl
  have hl:=TM.lenT ok H
  refine Dg rfl ?_
  simp -dsimp only [SE,astep,seval,l4,hl,hc]
  refine Dn rfl rfl ?_
  refine Dm rfl ?_
  refine DR.exit hk ?_
  obtain rfl:i=u.l.length:=by omega
  rw [List.take_length] at hv
  exact DR.only [1,2,3] (hend H v hv hz h1 h2 d1 d2)
 | succ e ih2=>
  intro i H v hi hv hz h1 h2 d1 d2
  have hc:abin .lss (.int .i64 (i:Nat)) (.int .i64 (u.l.length:Nat))=some (.bool true):=lssT (by omega)
  have l4:=load_cell h1 (o:=4) (v:=u.row) rfl
  have hl:=TM.lenT ok H
  have hlt:i < u.l.length:=by omega
  have hx:u.l[i]? = some u.l[i]:=List.getElem?_eq_getElem hlt
  have hxo:=TM.ok_at ok hx
  have ra:=TM.row_at ok hx H
  have la:=TM.load u.l[i] (TM.flat (u.l.drop (i+1))) H
  have hle:=TM.len_le ok
  have hadd:abin .add (.int .i64 (i:Nat)) (.int .i64 1)=some (.int .i64 ((i+1:Nat):Int)):=add_nat (b:=1) (by omega)
  refine Dg rfl ?_
  simp -dsimp only [SE,astep,seval,l4,hl,hc]
  refine Dy rfl rfl ?_
  refine Dg rfl ?_
  simp -dsimp only [SE,astep,seval,l4,ra,la]
  refine (ih _ (List.getElem_mem hlt) hxo H).mono ?_
  rintro r H' ⟨rfl,he⟩
  obtain rfl:=he.symm
  obtain ⟨H3,hH3,g3,n3,f3⟩:=psh H (.cells 27 (TM.c5 (norm u.l[i])))
  have hv3:Grow H3 27 5 v i (TM.flat (norms (u.l.take i))):=hv.frame fun j hj=>f3 j (hv.lt hj)
  obtain ⟨v',H4,ha,hg,hn4,hf4,hr4⟩:=hv3.one (b:=64) g3 rfl (TM.ones5 _) (by omega) (by omega) (by omega)
  have hcell:TM.flat (norms (u.l.take i))++TM.c5 (norm u.l[i])=TM.flat (norms (u.l.take (i+1))):=by
   rw [List.take_add_one,hx,norms_map,norms_map,List.map_append,flat_app]
   simp only [Option.toList_some,List.map_cons,List.map_nil,TM.flat,List.append_nil]
   rw [TM.cells_eq]
  rw [hcell] at hg
  have b1:=AHeap.get_lt h1
  have b2:=AHeap.get_lt h2
  simp -dsimp only [SE,astep,seval,TM.agg,AVal.cells,Env.parts,afill,aput,List.length_cons,List.length_nil,List.drop_succ_cons,List.drop_zero,List.drop_nil,List.append_nil,List.cons_append,List.nil_append,List.take_succ_cons,List.take_zero,← hH3,ha]
  refine Dg rfl ?_
  simp -dsimp only [SE,astep,seval,hadd]
  refine Dm rfl ?_
  refine DR.inLoop ?_
  refine ih2 (i+1) H4 v' (by omega) hg (fun h=>by omega) ?_ ?_ (fun e=> ?_) (fun e=> ?_)
  ·rw [hf4 i1 (by omega) d1,f3 i1 b1]; exact h1
  ·rw [hf4 i2 (by omega) d2,f3 i2 b2]; exact h2
  ·have:=hr4 _ e; omega
  ·have:=hr4 _ e; omega
end
theorem r67:∀ t:TM,t.ok→∀ H:AHeap,DCall Tryz.prog 67 [t.agg] H fun r H'=>r=(norm t).agg∧H'=H:=by
 refine TM.all fun t ih ok H=> ?_
 have hlen:(norms t.l).length=t.l.length:=by rw [norms_map,List.length_map]
 have hz:z25=[.int .i64 0,.int .i64 0,.flt .f64 0,.str ⟨#[]⟩,.nils]:=rfl
 refine DCall.closed (sz:=szs) (TM.pures1 t) (Q:=fun r H1=>∃ v,Grow H1 27 5 v t.l.length (TM.flat (norms t.l))∧(t.l.length=0→v = .nils)∧r = .agg [.int .i64 t.k,.int .i64 t.n,.flt .f64 t.f,.str t.s,v]) (Q':=fun r=>r=(norm t).agg) ?_ ?_ H
 ·obtain ⟨H1,hH1,g1,n1,f1⟩:=psh AHeap.empty (.cells 27 (TM.c5 t))
  obtain ⟨H2,hH2,g2,n2,f2⟩:=psh H1 (.cells 27 z25)
  have t1:=(f2 _ (by omega)).trans g1
  refine DCall.of_body (fn:=Tryz.f67) (by kernel_rfl) c67 (by kernel_rfl) (by simp [f67]) ?_
  unfold f67
  simp only []
  refine Dg rfl ?_
  simp -dsimp only [SE,astep,seval,← hH1,← hz,← hH2]
  refine Dg rfl ?_
  simp -dsimp only [SE,astep,seval]
  refine Dg rfl ?_
  simp -dsimp only [SE,astep,seval]
  refine Dm rfl ?_
  refine DR.loop ?_
  refine loop67 ok (fun x hx hxo H=>ih x hx hxo H) rfl (fun H v hv hz' h1 h2 d1 d2=> ?_) t.l.length 0 H2 .nils (by omega) (Grow.nils _ _ _) (fun _=>rfl) t1 g2 (fun e=>nomatch e) (fun e=>nomatch e)
  have hone:v.one=true:=by obtain ⟨_,⟨rfl,_⟩ | ⟨id,rfl,_⟩⟩:=hv <;> rfl
  have s1:astore H 1 (.ptr AHeap.empty.next 4) v=some (H.set AHeap.empty.next (.cells 27 [.int .i64 t.k,.int .i64 t.n,.flt .f64 t.f,.str t.s,v])):=astore_one h1 (o:=4) (by simp) hone
  obtain ⟨H3,hH3,g3,n3,f3⟩:=upd h1 (.cells 27 [.int .i64 t.k,.int .i64 t.n,.flt .f64 t.f,.str t.s,v])
  have l5:=load_all (n:=5) g3 rfl
  have t2:H3.get H1.next=some (.cells 27 z25):=(f3 _ (by rw [n1]; omega)).trans h2
  have s2:astore H3 5 (.ptr H1.next 0) (.agg [.int .i64 t.k,.int .i64 t.n,.flt .f64 t.f,.str t.s,v])=some (H3.set H1.next (.cells 27 [.int .i64 t.k,.int .i64 t.n,.flt .f64 t.f,.str t.s,v])):=store_all (n:=5) (new:=[.int .i64 t.k,.int .i64 t.n,.flt .f64 t.f,.str t.s,v]) t2 rfl (by show (true&&(true&&(true&&(true&&(v.one&&true)))))=true; rw [hone]; rfl) rfl
  obtain ⟨H4,hH4,g4,n4,f4⟩:=upd t2 (.cells 27 [.int .i64 t.k,.int .i64 t.n,.flt .f64 t.f,.str t.s,v])
  have l6:=load_all (n:=5) g4 rfl
  have hv4:Grow H4 27 5 v t.l.length (TM.flat (norms t.l)):=hv.frame fun j hj=>by
   rw [f4 j (fun e=>d2 (e ▸ hj)),f3 j (fun e=>d1 (e ▸ hj))]
  refine Dg rfl ?_
  simp -dsimp only [SE,astep,seval,s1,← hH3]
  refine Dg rfl ?_
  simp -dsimp only [SE,astep,seval,l5,s2,← hH4]
  refine Dm rfl ?_
  exact DR.ret ⟨.agg [.int .i64 t.k,.int .i64 t.n,.flt .f64 t.f,.str t.s,v],by simp only [aresult,ares,Env.get,if_true,Option.bind_eq_bind,Option.bind_some,l6]; rfl,v,hv4,hz',rfl⟩
 ·rintro r H1 ⟨v,hg,hz',rfl⟩
  have hcs:(TM.flat (norms t.l)).length=t.l.length * 5:=by rw [TM.flat_length,hlen]
  have hp:=TM.pures (norms t.l)
  have hag:(norm t).agg = .agg [.int .i64 t.k,.int .i64 t.n,.flt .f64 t.f,.str t.s,(TM.of t.l.isEmpty (norms t.l)).row]:=by show AVal.agg (TM.c5 (norm t))=_; rw [norm_c5]
  rw [hag]
  by_cases h0:t.l.length=0
  ·have hl:t.l=[]:=List.length_eq_zero_iff.mp h0
   rw [hz' h0,hl]
   exact ⟨2,_,rfl,rfl⟩
  ·obtain ⟨_,⟨_,h⟩ | ⟨id,rfl,hb⟩⟩:=hg
   ·exact absurd h h0
   ·have h1:freezeL (freeze szs H1 (SizeOf.sizeOf (TM.flat (norms t.l)))) (TM.flat (norms t.l))=some (TM.flat (norms t.l)):=freezeL_all fun a ha=>freeze_pure _ a (List.sizeOf_lt_of_mem ha) (pures_mem hp a ha)
    have h2:((TM.flat (norms t.l)).drop 0).take (t.l.length * szs 27)=TM.flat (norms t.l):=by
     rw [List.drop_zero,show szs 27=5 from rfl,← hcs,List.take_length]
    have he:t.l.isEmpty=false:=by cases hu:t.l with
     | nil=>rw [hu] at h0; exact absurd rfl h0
     | cons a r=>rfl
    refine ⟨SizeOf.sizeOf (TM.flat (norms t.l))+2,.agg [.int .i64 t.k,.int .i64 t.n,.flt .f64 t.f,.str t.s,.ros (TM.flat (norms t.l)) t.l.length],?_,?_⟩
    ·simp only [freeze,freezeL,hb,h2,h1]
    ·rw [he]
     show _=AVal.agg [.int .i64 t.k,.int .i64 t.n,.flt .f64 t.f,.str t.s,.ros (TM.flat (norms t.l)) (norms t.l).length]
     rw [hlen]
open Classical in
noncomputable def lim (t:TM):Res:=if right t then (some (norm t),0) else (none,12)
theorem lim_yes {t:TM} (h:right t):lim t=(some (norm t),0):=if_pos h
theorem lim_no {t:TM} (h:¬ right t):lim t=(none,12):=if_neg h
theorem r20 (e:Int) (H:AHeap):DCall Tryz.prog 20 [.int .i64 e] H fun r H'=>r=NR (none,e)∧H'=H:=by
 refine NR_closed rfl ?_ H
 have hz:z25=[.int .i64 0,.int .i64 0,.flt .f64 0,.str ⟨#[]⟩,.nils]:=rfl
 obtain ⟨H1,hH1,g1,n1,f1⟩:=psh AHeap.empty (.cells 27 z25)
 have s1:=store_all (n:=5) g1 (new:=z25) rfl rfl rfl
 obtain ⟨H9,hH9,g9,n9,f9⟩:=upd g1 (.cells 27 z25)
 have l9:=load_all (n:=5) g9 rfl
 refine DCall.of_body (fn:=Tryz.f20) (by kernel_rfl) c20 (by kernel_rfl) (by simp [f20]) ?_
 unfold f20
 simp only []
 refine Dg rfl ?_
 simp -dsimp only [SE,astep,seval,← hz,← hH1]
 refine Dg rfl ?_
 simp -dsimp only [SE,astep,seval,Env.parts,afill,← hz,s1,← hH9]
 refine Dm rfl ?_
 exact DR.ret ⟨NR (none,e),by simp [aresult,ares,Env.get,l9],rfl⟩
theorem r25 {t:TM} (ok:t.ok) (H:AHeap):DCall Tryz.prog 25 [t.agg] H fun r H'=>r=NR (lim t)∧H'=H:=by
 refine NR_closed (TM.pures1 t) ?_ H
 have hz:z25=[.int .i64 0,.int .i64 0,.flt .f64 0,.str ⟨#[]⟩,.nils]:=rfl
 obtain ⟨H1,hH1,g1,n1,f1⟩:=psh AHeap.empty (.cells 27 (TM.c5 t))
 obtain ⟨H2,hH2,g2,n2,f2⟩:=psh H1 (.cells 27 z25)
 have t2:=(f2 _ (by omega)).trans g1
 have la:=load_all (n:=5) t2 rfl
 refine DCall.of_body (fn:=Tryz.f25) (by kernel_rfl) c25 (by kernel_rfl) (by simp [f25]) ?_
 unfold f25
 simp only []
 refine Dg rfl ?_
 simp -dsimp only [SE,astep,seval,← hH1,← hz,← hH2]
 refine Dg rfl ?_
 simp -dsimp only [SE,astep,seval,la]
 refine (r13 ok H2).mono ?_
 rintro r H' ⟨⟨z,hz',rfl⟩,he⟩
 obtain rfl:=he.symm
 cases z with
 | false=>
  have hn:¬ right t:=fun h=>by have:=hz'.mpr h; cases this
  rw [lim_no hn]
  have s1:=store_all (n:=5) g2 (new:=z25) rfl rfl rfl
  obtain ⟨H9,hH9,g9,n9,f9⟩:=upd g2 (.cells 27 z25)
  have l9:=load_all (n:=5) g9 rfl
  have i0:([.agg (cel (none,12)),.int .i64 12]:List AVal)[0]? = some (.agg z25):=rfl
  have i1:([.agg (cel (none,12)),.int .i64 12]:List AVal)[1]? = some (.int .i64 12):=rfl
  simp -dsimp only [SE,astep,seval,Bool.not_false]
  refine Dy rfl rfl ?_
  refine Dg rfl ?_
  simp -dsimp only [SE,astep,seval]
  refine (r20 12 H2).mono ?_
  rintro r H' ⟨rfl,he⟩
  obtain rfl:=he.symm
  simp -dsimp only [SE,astep,seval,i0,i1,s1,← hH9]
  refine Dm rfl ?_
  exact DR.ret ⟨NR (none,12),by simp [aresult,ares,Env.get,l9],rfl⟩
 | true=>
  rw [lim_yes (hz'.mp rfl)]
  have s1:=store_all (n:=5) g2 (new:=TM.c5 (norm t)) rfl (TM.ones5 _) rfl
  obtain ⟨H9,hH9,g9,n9,f9⟩:=upd g2 (.cells 27 (TM.c5 (norm t)))
  have l9:=load_all (n:=5) g9 rfl
  simp -dsimp only [SE,astep,seval,Bool.not_true]
  refine Dn rfl rfl ?_
  refine Dg rfl ?_
  simp -dsimp only [SE,astep,seval,la]
  refine (r67 t ok H2).mono ?_
  rintro r H' ⟨rfl,he⟩
  obtain rfl:=he.symm
  simp -dsimp only [SE,astep,seval,s1,← hH9]
  refine Dm rfl ?_
  exact DR.ret ⟨NR (some (norm t),0),by simp [aresult,ares,Env.get,l9],rfl⟩
theorem r58 (s:ByteArray) (H:AHeap):DCall Tryz.prog 58 [.str s] H fun r H'=>r=(atm s).agg∧H'=H:=by
 refine aggClosed rfl ?_ H
 have hz:z25=[.int .i64 0,.int .i64 0,.flt .f64 0,.str ⟨#[]⟩,.nils]:=rfl
 obtain ⟨H1,hH1,g1,n1,f1⟩:=psh AHeap.empty (.cells 27 z25)
 have s1:=store_all (n:=5) g1 (new:=TM.c5 (atm s)) rfl (TM.ones5 _) rfl
 obtain ⟨H9,hH9,g9,n9,f9⟩:=upd g1 (.cells 27 (TM.c5 (atm s)))
 have l9:=load_all (n:=5) g9 rfl
 have hfl:afill z25 [(0,1,.int .i64 3),(3,1,.str s)]=some (TM.c5 (atm s)):=rfl
 refine DCall.of_body (fn:=Tryz.f58) (by kernel_rfl) c58 (by kernel_rfl) (by simp [f58]) ?_
 unfold f58
 simp only []
 refine Dg rfl ?_
 simp -dsimp only [SE,astep,seval,← hz,← hH1]
 refine Dg rfl ?_
 simp -dsimp only [SE,astep,seval,Env.parts,← hz,hfl,s1,← hH9]
 refine Dm rfl ?_
 exact DR.ret ⟨(atm s).agg,by simp [aresult,ares,Env.get,l9],rfl⟩
theorem r21 (b:Bool) (H:AHeap):DCall Tryz.prog 21 [.bool b] H fun r H'=>r=(tf b).agg∧H'=H:=by
 refine aggClosed rfl ?_ H
 have hz:z25=[.int .i64 0,.int .i64 0,.flt .f64 0,.str ⟨#[]⟩,.nils]:=rfl
 obtain ⟨H1,hH1,g1,n1,f1⟩:=psh AHeap.empty (.cells 27 z25)
 have s1:=store_all (n:=5) g1 (new:=TM.c5 (tf b)) rfl (TM.ones5 _) rfl
 obtain ⟨H9,hH9,g9,n9,f9⟩:=upd g1 (.cells 27 (TM.c5 (tf b)))
 have l9:=load_all (n:=5) g9 rfl
 refine DCall.of_body (fn:=Tryz.f21) (by kernel_rfl) c21 (by kernel_rfl) (by simp [f21]) ?_
 unfold f21
 simp only []
 refine Dg rfl ?_
 simp -dsimp only [SE,astep,seval,← hz,← hH1]
 refine Dg rfl ?_
 simp -dsimp only [SE,astep,seval]
 cases b with
 | true=>
  have s1:astore H1 5 (.ptr AHeap.empty.next 0) (atm sTrue).agg=_:=s1
  refine Dy rfl rfl ?_
  refine Dg rfl ?_
  simp -dsimp only [SE,astep,seval]
  refine (r58 sTrue H1).mono ?_
  rintro r H' ⟨rfl,he⟩
  obtain rfl:=he.symm
  simp -dsimp only [SE,astep,seval,s1,← hH9]
  refine Dm rfl ?_
  exact DR.ret ⟨(tf true).agg,by simp [aresult,ares,Env.get,l9],rfl⟩
 | false=>
  have s1:astore H1 5 (.ptr AHeap.empty.next 0) (atm sFalse).agg=_:=s1
  refine Dn rfl rfl ?_
  refine Dg rfl ?_
  simp -dsimp only [SE,astep,seval]
  refine (r58 sFalse H1).mono ?_
  rintro r H' ⟨rfl,he⟩
  obtain rfl:=he.symm
  simp -dsimp only [SE,astep,seval,s1,← hH9]
  refine Dm rfl ?_
  exact DR.ret ⟨(tf false).agg,by simp [aresult,ares,Env.get,l9],rfl⟩
def isBool (x:TM):Prop:=x.k=3∧(x.s=sTrue∨x.s=sFalse)
instance (x:TM):Decidable (isBool x):=by unfold isBool; infer_instance
theorem r19 (t:TM) (H:AHeap):DCall Tryz.prog 19 [t.agg] H fun r H'=>r = .bool (decide (isBool t))∧H'=H:=by
 have h:DCall Tryz.prog 19 [t.agg] AHeap.empty fun r H'=>∃ b,r = .bool b∧b=decide (isBool t):=by
  obtain ⟨H1,hH1,g1,n1,f1⟩:=psh AHeap.empty (.cells 27 (TM.c5 t))
  have k0:=load_cell g1 (o:=0) (v:=.int .i64 t.k) rfl
  have k3:=load_cell g1 (o:=3) (v:=.str t.s) rfl
  have c1:=eql_dec t.k 3
  have c2:=eql_strs (s:=t.s) (u:=sTrue)
  have c3:=eql_strs (s:=t.s) (u:=sFalse)
  refine DCall.of_body (fn:=Tryz.f19) (by kernel_rfl) c19 (by kernel_rfl) (by simp [f19]) ?_
  unfold f19
  simp only []
  refine Dg rfl ?_
  simp -dsimp only [SE,astep,seval,← hH1]
  by_cases h1:t.k=3
  ·rw [decide_eq_true h1] at c1
   by_cases h2:t.s=sTrue
   ·rw [decide_eq_true h2] at c2
    refine Dg rfl ?_
    simp -dsimp only [SE,astep,seval,k0,c1,k3,c2]
    refine Dm rfl ?_
    exact DR.ret ⟨_,by simp [aresult,ares,Env.get] <;> rfl,_,rfl,(decide_eq_true ⟨h1,.inl h2⟩).symm⟩
   ·rw [decide_eq_false h2] at c2
    refine Dg rfl ?_
    simp -dsimp only [SE,astep,seval,k0,c1,k3,c2,c3]
    refine Dm rfl ?_
    exact DR.ret ⟨_,by simp [aresult,ares,Env.get] <;> rfl,_,rfl,by unfold isBool; simp [h1,h2]⟩
  ·rw [decide_eq_false h1] at c1
   refine Dg rfl ?_
   simp -dsimp only [SE,astep,seval,k0,c1]
   refine Dm rfl ?_
   exact DR.ret ⟨_,by simp [aresult,ares,Env.get] <;> rfl,_,rfl,by unfold isBool; simp [h1]⟩
 exact (DCall.bools (TM.pures1 t) h H).mono fun r H' ⟨⟨n,h1,h3⟩,h2⟩=>⟨by rw [h1,h3],h2⟩
end Go.Am.Rl
namespace Go.Am.Rl
open Go.Proofs
abbrev s_cat:ByteArray:=⟨#[43,43]⟩
abbrev s_not:ByteArray:=⟨#[110,111,116]⟩
def isAr (sg:ByteArray):Prop:=sg=o_add∨sg=o_sub∨sg=o_mul∨sg=o_quo∨sg=o_div∨sg=o_rem
instance (sg:ByteArray):Decidable (isAr sg):=by unfold isAr; infer_instance
noncomputable def opv2 (sg:ByteArray) (a b:TM):Res:=
 if isAr sg then opR sg a b
 else if sg=s_eq then (some (tf (decide (ord a b=0))),0)
 else if sg=s_ne then (some (tf (decide (ord a b≠0))),0)
 else if sg=s_le then (some (tf (decide (ord a b≤0))),0)
 else if sg=s_lt then (some (tf (decide (ord a b < 0))),0)
 else if sg=s_ge then (some (tf (decide (0≤ord a b))),0)
 else if sg=s_gt then (some (tf (decide (0 < ord a b))),0)
 else if sg=s_same then (some (tf (samev a b)),0)
 else if sg=s_diff then (some (tf (!samev a b)),0)
 else if sg=s_cat then (if a.k≠8∨b.k≠8 then (none,13) else lim (lst8 false (a.l++b.l)))
 else (none,5)
noncomputable def opv1 (sg:ByteArray) (a:TM):Res:=
 if sg=o_sub then negR a
 else if sg=s_not then (if isBool a then (some (tf (decide (a.s=sFalse))),0) else (none,13))
 else (none,5)
noncomputable def opv (sg:ByteArray):List TM→Res
 | [a]=>opv1 sg a
 | [a,b]=>opv2 sg a b
 | _=>(none,5)
theorem ones_app {a b:List AVal} (ha:ones a=true) (hb:ones b=true):ones (a++b)=true:=by
 unfold ones at ha hb ⊢
 rw [List.all_append,ha,hb]; rfl
theorem ones_flat:∀ l:List TM,ones (TM.flat l)=true
 | []=>rfl
 | t::r=>by
  rw [TM.flat,TM.cells_eq]
  exact ones_app (TM.ones5 t) (ones_flat r)
theorem flat_snoc (l m:List TM):TM.flat l++TM.flat m=TM.flat (l++m):=(flat_app l m).symm
theorem app_row {u:TM} (ok:u.ok) {H:AHeap} {id len:Nat} {cap:Option Nat} {cs:List AVal} (g:H.get id=some (.cells 27 cs)) (hl:cs.length=len * 5) (hc:cap=none∨cap=some len) (hb:len+u.l.length≤2199023255552) :
  ∃ id' cap' H',aapp 27 5 64 H (.sl id 0 len cap) u.row=some (.sl id' 0 (len+u.l.length) cap',H')∧H'.get id'=some (.cells 27 (cs++TM.flat u.l))∧(cap'=none∨cap'=some (len+u.l.length))∧H.next≤H'.next∧(∀ j,j < H.next→j≠id→H'.get j=H.get j)∧(id'=id∨H.next≤id'):=by
 by_cases h0:u.l=[]
 ·refine ⟨id,cap,H,?_,?_,?_,Nat.le_refl _,fun _ _ _=>rfl,.inl rfl⟩
  ·rw [h0]
   cases u with
   | mk k n f s nl l=>
    obtain rfl:l=[]:=h0
    cases nl <;> rfl
  ·rw [h0,g]; simp [TM.flat]
  ·rw [h0]; exact hc
 ·have hpos:0 < u.l.length:=by cases hu:u.l with
   | nil=>exact absurd hu h0
   | cons x r=>simp
  have hcs:(TM.flat u.l).length=u.l.length * 5:=TM.flat_length u.l
  have hrow:u.row = .ros (TM.flat u.l) u.l.length:=by
   cases u with
   | mk k n f s nl l=>
    cases nl with
    | true=>exact absurd (ok.2.2.2.2.2.1 rfl) h0
    | false=>rfl
  have hsl:sliceCells H 5 (.ros (TM.flat u.l) u.l.length)=some (TM.flat u.l):=by
   simp only [sliceCells]
   rw [if_pos (by omega),← hcs,List.take_length]
  have hno:¬ (ones (TM.flat u.l)=false∨5=0∨(TM.flat u.l).length≠u.l.length * 5):=by
   rw [ones_flat,hcs]; simp
  have htk:(cs.drop 0).take (len * 5)=cs:=by rw [List.drop_zero,← hl,List.take_length]
  rw [hrow]
  rcases hc with rfl | rfl
  ·refine ⟨H.next,none,(H.del id).push (.cells 27 (cs++TM.flat u.l)),?_,?_,.inl rfl,Nat.le_succ _,fun j hj hne=> ?_,.inr (Nat.le_refl _)⟩
   ·simp only [aapp,Go.Am.alen,hsl,if_neg hno,g]
    rw [if_neg (by omega),if_pos ⟨by omega,by omega,by omega,trivial⟩,if_neg (by omega),if_pos (by omega),htk]
   ·have h1':(H.del id).next=H.next:=rfl
    rw [AHeap.get_push,h1',if_pos rfl]
   ·have h1':(H.del id).next=H.next:=rfl
    rw [AHeap.get_push,h1',if_neg (by omega),AHeap.get_del,if_neg hne]
  ·refine ⟨H.next,none,H.push (.cells 27 (cs++TM.flat u.l)),?_,?_,.inl rfl,Nat.le_succ _,fun j hj hne=> ?_,.inr (Nat.le_refl _)⟩
   ·simp only [aapp,Go.Am.alen,hsl,if_neg hno,g]
    rw [if_neg (by omega),if_pos ⟨by omega,by omega,by omega,trivial⟩,if_neg (by omega),htk]
   ·rw [AHeap.get_push,if_pos rfl]
   ·rw [AHeap.get_push,if_neg (by omega)]
theorem right_len {t:TM} (h:right t):t.k=8→t.l.length≤32768:=by
 intro hk
 have h1:=words_eq t
 have h2:=h.1
 have h3:own t.k t.l.length=2 * t.l.length:=by rw [hk]; rfl
 omega
theorem oks_app:∀ {l m:List TM},TM.oks l→TM.oks m→TM.oks (l++m)
 | [],_,_,h=>h
 | _::_,_,h1,h2=>⟨h1.1,oks_app h1.2 h2⟩
theorem cat_ok {a b:TM} (oa:a.ok) (ob:b.ok) (ra:right a) (rb:right b) (k1:a.k=8) (k2:b.k=8) (nl:Bool) (hn:nl=true→a.l++b.l=[]):(lst8 nl (a.l++b.l)).ok:=by
 have h1:=right_len ra k1
 have h2:=right_len rb k2
 exact lst8_ok (oks_app (TM.ok_oks oa) (TM.ok_oks ob)) (by rw [List.length_append]; omega) hn
theorem r25r {l:List TM} (ok:(lst8 false l).ok) {H:AHeap} {id:Nat} {cap:Option Nat} (g:H.get id=some (.cells 27 (TM.flat l))):DCall Tryz.prog 25 [.agg [.int .i64 8,.int .i64 0,.flt .f64 0,.str ⟨#[]⟩,.sl id 0 l.length cap]] H fun r H'=>r=NR (lim (lst8 false l))∧H'=H.del id:=
 DCall.retire (K:=fun r=>r=NR (lim (lst8 false l))) (n:=l.length) (args':=[(lst8 false l).agg]) g (TM.pures _) (by
  show freezeL (fr2 id l.length (TM.flat l)) [.agg [.int .i64 8,.int .i64 0,.flt .f64 0,.str ⟨#[]⟩,.sl id 0 l.length cap]]=some [.agg [.int .i64 8,.int .i64 0,.flt .f64 0,.str ⟨#[]⟩,.ros (TM.flat l) l.length]]
  simp [freezeL,fr2,fr1,AVal.pure,AVal.pures]) (fun r h=>by rw [h]; exact NR_pure _) (r25 ok AHeap.empty)
section
variable {a b:TM} {H:AHeap} {i4 i8 i9:Nat}
theorem t7cat (oa:a.ok) (ob:b.ok) (ra:right a) (rb:right b) (k1:a.k=8) (k2:b.k=8) (g4:H.get i4=some (.cells 27 z25)) (g8:H.get i8=some (.cells 27 (TM.c5 a))) (g9':H.get i9=some (.cells 27 (TM.c5 b))) :
  DR Tryz.prog (kof k7) 151 [.code (.region true r7_41 [4,5]),.code .ret,.inBlock 0,.code (.seq (.region false r7_42 [4,5]) .ret)] [(4,.ptr i4 0),(8,.ptr i8 0),(9,.ptr i9 0)] H (fun T' H'=>∃ r,aresult H' T' [.cell 4 (some 5),.tmp 5]=some r∧r=NR (lim (lst8 false (a.l++b.l)))):=by
 have h1:=right_len ra k1
 have h2:=right_len rb k2
 have hz:z25=[.int .i64 0,.int .i64 0,.flt .f64 0,.str ⟨#[]⟩,.nils]:=rfl
 have q4:=AHeap.get_lt g4
 have q8:=AHeap.get_lt g8
 have q9:=AHeap.get_lt g9'
 obtain ⟨H1,hH1,g1,n1,f1⟩:=psh H (.cells 27 [])
 have a1:=(f1 _ q8).trans g8
 have lr1:=load_cell a1 (o:=4) (v:=a.row) rfl
 obtain ⟨id2,cap2,H2,ha2,hg2,hc2,hn2,hf2,hi2⟩:=app_row oa (len:=0) (cap:=some 0) (cs:=[]) g1 rfl (.inr rfl) (by omega)
 have b2:H2.get i9=some (.cells 27 (TM.c5 b)):=by rw [hf2 _ (by omega) (by omega),f1 _ q9]; exact g9'
 have lr2:=load_cell b2 (o:=4) (v:=b.row) rfl
 rw [List.nil_append] at hg2
 rw [Nat.zero_add] at ha2 hc2
 obtain ⟨id3,cap3,H3,ha3,hg3,hc3,hn3,hf3,hi3⟩:=app_row ob hg2 (TM.flat_length a.l) hc2 (by omega)
 rw [flat_snoc] at hg3
 rw [show a.l.length+b.l.length=(a.l++b.l).length by rw [List.length_append]] at ha3
 have r3:H3.get i4=some (.cells 27 z25):=by rw [hf3 _ (by omega) (by omega),hf2 _ (by omega) (by omega),f1 _ q4]; exact g4
 have r4:(H3.del id3).get i4=some (.cells 27 z25):=by rw [AHeap.get_del,if_neg (by omega)]; exact r3
 have s1:=store_all (n:=5) r4 (new:=cel (lim (lst8 false (a.l++b.l)))) (cel_len _) (cel_ones _) rfl
 obtain ⟨H9,hH9,g9,n9,f9⟩:=upd r4 (.cells 27 (cel (lim (lst8 false (a.l++b.l)))))
 have l9:=load_all (n:=5) g9 (cel_len _)
 have i0:([.agg (cel (lim (lst8 false (a.l++b.l)))),.int .i64 (lim (lst8 false (a.l++b.l))).2]:List AVal)[0]? = some (.agg (cel (lim (lst8 false (a.l++b.l))))):=rfl
 have i1:([.agg (cel (lim (lst8 false (a.l++b.l)))),.int .i64 (lim (lst8 false (a.l++b.l))).2]:List AVal)[1]? = some (.int .i64 (lim (lst8 false (a.l++b.l))).2):=rfl
 have hfl:afill [.int .i64 0,.int .i64 0,.flt .f64 0,.str ⟨#[]⟩,.nils] [(0,1,.int .i64 8),(4,1,.sl id3 0 (a.l++b.l).length cap3)]=some [.int .i64 8,.int .i64 0,.flt .f64 0,.str ⟨#[]⟩,.sl id3 0 (a.l++b.l).length cap3]:=rfl
 have hf0:afill ([]:List AVal) []=some []:=rfl
 have lr1':=load_cell g8 (o:=4) (v:=a.row) rfl
 have lr2':=load_cell g9' (o:=4) (v:=b.row) rfl
 have b1:=(f1 _ q9).trans g9'
 have lr2'':=load_cell b1 (o:=4) (v:=b.row) rfl
 refine Dm rfl ?_
 refine DR.draw (by kernel_rfl) d7_41 ?_
 simp -dsimp only [m7_41,SE,astep,seval,DS_nil,DS_cons,seesAll,staysAll,abit,List.getD_cons_zero,List.getD_cons_succ,AOp.quiet,AOp.reads,true_and,and_true,decide_true,decide_false,and_self,Env.parts,hf0,← hH1,lr1,lr1',lr2,lr2',lr2'',ha2,ha3,hfl]
 refine (r25r (cat_ok oa ob ra rb k1 k2 false (fun h=>nomatch h)) hg3).mono ?_
 rintro r H' ⟨rfl,he⟩
 obtain rfl:=he.symm
 simp -dsimp only [SE,astep,seval,DS_nil,DS_cons,seesAll,staysAll,abit,List.getD_cons_zero,List.getD_cons_succ,AOp.quiet,AOp.reads,true_and,and_true,decide_true,decide_false,and_self,Env.parts,hf0,← hH1,lr1,lr1',lr2,lr2',lr2'',ha2,ha3,hfl,i0,i1,s1,← hH9]
 refine Dm rfl ?_
 exact DR.ret ⟨NR (lim (lst8 false (a.l++b.l))),by simp [aresult,ares,Env.get,l9],rfl⟩
end
section
variable {sg:ByteArray} {a b:TM} {H:AHeap} {i4 i8 i9:Nat}
abbrev its7:List AItem:=[.code (.region false r7_14 [0,4,8,9,55]),.code (.block 0 (.seq (.seq (.region false r7_15 [0,4,8,9,55,56]) (.cond (.t 56) .skip (.seq (.region false r7_16 [0,4,8,9,55,56]) (.cond (.t 56) .skip (.seq (.region false r7_17 [0,4,8,9,55,56]) (.cond (.t 56) .skip (.seq (.region false r7_18 [0,4,8,9,55,56]) (.cond (.t 56) .skip (.seq (.region false r7_19 [0,4,8,9,55,56]) (.cond (.t 56) .skip (.region false r7_20 [0,4,8,9,55,56]))))))))))) (.cond (.t 56) (.seq (.region false r7_21 [4,5]) .ret) (.seq (.region false r7_22 [4,8,9,55,69]) (.cond (.t 69) (.seq (.region false r7_23 [4,5]) .ret) (.seq (.region false r7_24 [4,8,9,55,76]) (.cond (.t 76) (.seq (.region false r7_25 [4,5]) .ret) (.seq (.region false r7_26 [4,8,9,55,83]) (.cond (.t 83) (.seq (.region false r7_27 [4,5]) .ret) (.seq (.region false r7_28 [4,8,9,55,90]) (.cond (.t 90) (.seq (.region false r7_29 [4,5]) .ret) (.seq (.region false r7_30 [4,8,9,55,97]) (.cond (.t 97) (.seq (.region false r7_31 [4,5]) .ret) (.seq (.region false r7_32 [4,8,9,55,104]) (.cond (.t 104) (.seq (.region false r7_33 [4,5]) .ret) (.seq (.region false r7_34 [4,8,9,55,111]) (.cond (.t 111) (.seq (.region false r7_35 [4,5]) .ret) (.seq (.region false r7_36 [4,8,9,55,117]) (.cond (.t 117) (.seq (.region false r7_37 [4,5]) .ret) (.seq (.region false r7_38 [4,8,9,124]) (.cond (.t 124) (.seq (.seq (.region false r7_39 [4,8,9,133]) (.cond (.t 133) (.seq (.region false r7_40 [4,5]) .ret) .skip)) (.seq (.region true r7_41 [4,5]) .ret)) .skip))))))))))))))))))))),.code (.seq (.region false r7_42 [4,5]) .ret)]
theorem t7 (oa:a.ok) (ob:b.ok) (ra:right a) (rb:right b) (g4:H.get i4=some (.cells 27 z25)) (g8:H.get i8=some (.cells 27 (TM.c5 a))) (g9':H.get i9=some (.cells 27 (TM.c5 b))) :
  DR Tryz.prog (kof k7) 151 its7 [(0,.str sg),(4,.ptr i4 0),(8,.ptr i8 0),(9,.ptr i9 0)] H (fun T' H'=>∃ r,aresult H' T' [.cell 4 (some 5),.tmp 5]=some r∧r=NR (opv2 sg a b)):=by
 have fa:=ra.2.2
 have fb:=rb.2.2
 have hz:z25=[.int .i64 0,.int .i64 0,.flt .f64 0,.str ⟨#[]⟩,.nils]:=rfl
 have la:=load_all (n:=5) g8 rfl
 have lb:=load_all (n:=5) g9' rfl
 have ka:=load_cell g8 (o:=0) (v:=.int .i64 a.k) rfl
 have kb:=load_cell g9' (o:=0) (v:=.int .i64 b.k) rfl
 by_cases har:isAr sg
 ·have e:opv2 sg a b=opR sg a b:=if_pos har
  rw [e]
  have fin:DR Tryz.prog (kof k7) 151 [.code (.cond (.t 56) (.seq (.region false r7_21 [4,5]) .ret) (.seq (.region false r7_22 [4,8,9,55,69]) (.cond (.t 69) (.seq (.region false r7_23 [4,5]) .ret) (.seq (.region false r7_24 [4,8,9,55,76]) (.cond (.t 76) (.seq (.region false r7_25 [4,5]) .ret) (.seq (.region false r7_26 [4,8,9,55,83]) (.cond (.t 83) (.seq (.region false r7_27 [4,5]) .ret) (.seq (.region false r7_28 [4,8,9,55,90]) (.cond (.t 90) (.seq (.region false r7_29 [4,5]) .ret) (.seq (.region false r7_30 [4,8,9,55,97]) (.cond (.t 97) (.seq (.region false r7_31 [4,5]) .ret) (.seq (.region false r7_32 [4,8,9,55,104]) (.cond (.t 104) (.seq (.region false r7_33 [4,5]) .ret) (.seq (.region false r7_34 [4,8,9,55,111]) (.cond (.t 111) (.seq (.region false r7_35 [4,5]) .ret) (.seq (.region false r7_36 [4,8,9,55,117]) (.cond (.t 117) (.seq (.region false r7_37 [4,5]) .ret) (.seq (.region false r7_38 [4,8,9,124]) (.cond (.t 124) (.seq (.seq (.region false r7_39 [4,8,9,133]) (.cond (.t 133) (.seq (.region false r7_40 [4,5]) .ret) .skip)) (.seq (.region true r7_41 [4,5]) .ret)) .skip))))))))))))))))))),.inBlock 0,.code (.seq (.region false r7_42 [4,5]) .ret)] [(0,.str sg),(4,.ptr i4 0),(8,.ptr i8 0),(9,.ptr i9 0),(55,.str sg),(56,.bool true)] H (fun T' H'=>∃ r,aresult H' T' [.cell 4 (some 5),.tmp 5]=some r∧r=NR (opR sg a b)):=by
   refine Dy rfl rfl ?_
   refine Dg rfl ?_
   simp -dsimp only [SE,astep,seval,la,lb]
   refine (r22 (sg:=sg) har oa ob fa fb H).mono ?_
   rintro r H' ⟨rfl,he⟩
   obtain rfl:=he.symm
   have s1:=store_all (n:=5) g4 (new:=cel (opR sg a b)) (cel_len _) (cel_ones _) rfl
   obtain ⟨H9,hH9,g9,n9,f9⟩:=upd g4 (.cells 27 (cel (opR sg a b)))
   have l9:=load_all (n:=5) g9 (cel_len _)
   have i0:([.agg (cel (opR sg a b)),.int .i64 (opR sg a b).2]:List AVal)[0]? = some (.agg (cel (opR sg a b))):=rfl
   have i1:([.agg (cel (opR sg a b)),.int .i64 (opR sg a b).2]:List AVal)[1]? = some (.int .i64 (opR sg a b).2):=rfl
   simp -dsimp only [SE,astep,seval,i0,i1,s1,← hH9]
   refine Dm rfl ?_
   exact DR.ret ⟨NR (opR sg a b),by simp [aresult,ares,Env.get,l9],rfl⟩
  refine Dg rfl ?_
  simp -dsimp only [SE,astep,seval]
  rcases har with rfl | rfl | rfl | rfl | rfl | rfl
  ·have c0:abin .eql (.str o_add) (.str o_add)=some (.bool true):=sgT rfl
   refine Dg rfl ?_
   simp -dsimp only [SE,astep,seval,c0]
   refine Dy rfl rfl ?_
   refine Dm rfl ?_
   exact DR.only [0,4,8,9,55,56] fin
  ·have c0:abin .eql (.str o_sub) (.str o_add)=some (.bool false):=sgF (by decide)
   have c1:abin .eql (.str o_sub) (.str o_sub)=some (.bool true):=sgT rfl
   refine Dg rfl ?_
   simp -dsimp only [SE,astep,seval,c0]
   refine Dn rfl rfl ?_
   refine Dg rfl ?_
   simp -dsimp only [SE,astep,seval,c1]
   refine Dy rfl rfl ?_
   refine Dm rfl ?_
   exact DR.only [0,4,8,9,55,56] fin
  ·have c0:abin .eql (.str o_mul) (.str o_add)=some (.bool false):=sgF (by decide)
   have c1:abin .eql (.str o_mul) (.str o_sub)=some (.bool false):=sgF (by decide)
   have c2:abin .eql (.str o_mul) (.str o_mul)=some (.bool true):=sgT rfl
   refine Dg rfl ?_
   simp -dsimp only [SE,astep,seval,c0]
   refine Dn rfl rfl ?_
   refine Dg rfl ?_
   simp -dsimp only [SE,astep,seval,c1]
   refine Dn rfl rfl ?_
   refine Dg rfl ?_
   simp -dsimp only [SE,astep,seval,c2]
   refine Dy rfl rfl ?_
   refine Dm rfl ?_
   exact DR.only [0,4,8,9,55,56] fin
  ·have c0:abin .eql (.str o_quo) (.str o_add)=some (.bool false):=sgF (by decide)
   have c1:abin .eql (.str o_quo) (.str o_sub)=some (.bool false):=sgF (by decide)
   have c2:abin .eql (.str o_quo) (.str o_mul)=some (.bool false):=sgF (by decide)
   have c3:abin .eql (.str o_quo) (.str o_quo)=some (.bool true):=sgT rfl
   refine Dg rfl ?_
   simp -dsimp only [SE,astep,seval,c0]
   refine Dn rfl rfl ?_
   refine Dg rfl ?_
   simp -dsimp only [SE,astep,seval,c1]
   refine Dn rfl rfl ?_
   refine Dg rfl ?_
   simp -dsimp only [SE,astep,seval,c2]
   refine Dn rfl rfl ?_
   refine Dg rfl ?_
   simp -dsimp only [SE,astep,seval,c3]
   refine Dy rfl rfl ?_
   refine Dm rfl ?_
   exact DR.only [0,4,8,9,55,56] fin
  ·have c0:abin .eql (.str o_div) (.str o_add)=some (.bool false):=sgF (by decide)
   have c1:abin .eql (.str o_div) (.str o_sub)=some (.bool false):=sgF (by decide)
   have c2:abin .eql (.str o_div) (.str o_mul)=some (.bool false):=sgF (by decide)
   have c3:abin .eql (.str o_div) (.str o_quo)=some (.bool false):=sgF (by decide)
   have c4:abin .eql (.str o_div) (.str o_div)=some (.bool true):=sgT rfl
   refine Dg rfl ?_
   simp -dsimp only [SE,astep,seval,c0]
   refine Dn rfl rfl ?_
   refine Dg rfl ?_
   simp -dsimp only [SE,astep,seval,c1]
   refine Dn rfl rfl ?_
   refine Dg rfl ?_
   simp -dsimp only [SE,astep,seval,c2]
   refine Dn rfl rfl ?_
   refine Dg rfl ?_
   simp -dsimp only [SE,astep,seval,c3]
   refine Dn rfl rfl ?_
   refine Dg rfl ?_
   simp -dsimp only [SE,astep,seval,c4]
   refine Dy rfl rfl ?_
   refine Dm rfl ?_
   exact DR.only [0,4,8,9,55,56] fin
  ·have c0:abin .eql (.str o_rem) (.str o_add)=some (.bool false):=sgF (by decide)
   have c1:abin .eql (.str o_rem) (.str o_sub)=some (.bool false):=sgF (by decide)
   have c2:abin .eql (.str o_rem) (.str o_mul)=some (.bool false):=sgF (by decide)
   have c3:abin .eql (.str o_rem) (.str o_quo)=some (.bool false):=sgF (by decide)
   have c4:abin .eql (.str o_rem) (.str o_div)=some (.bool false):=sgF (by decide)
   have c5:abin .eql (.str o_rem) (.str o_rem)=some (.bool true):=sgT rfl
   refine Dg rfl ?_
   simp -dsimp only [SE,astep,seval,c0]
   refine Dn rfl rfl ?_
   refine Dg rfl ?_
   simp -dsimp only [SE,astep,seval,c1]
   refine Dn rfl rfl ?_
   refine Dg rfl ?_
   simp -dsimp only [SE,astep,seval,c2]
   refine Dn rfl rfl ?_
   refine Dg rfl ?_
   simp -dsimp only [SE,astep,seval,c3]
   refine Dn rfl rfl ?_
   refine Dg rfl ?_
   simp -dsimp only [SE,astep,seval,c4]
   refine Dn rfl rfl ?_
   refine Dg rfl ?_
   simp -dsimp only [SE,astep,seval,c5]
   refine Dm rfl ?_
   exact fin
 have n0:opv2 sg a b=_:=if_neg har
 rw [n0]
 have q0:abin .eql (.str sg) (.str o_add)=some (.bool false):=sgF fun h=>har (.inl h)
 have q1:abin .eql (.str sg) (.str o_sub)=some (.bool false):=sgF fun h=>har (.inr (.inl h))
 have q2:abin .eql (.str sg) (.str o_mul)=some (.bool false):=sgF fun h=>har (.inr (.inr (.inl h)))
 have q3:abin .eql (.str sg) (.str o_quo)=some (.bool false):=sgF fun h=>har (.inr (.inr (.inr (.inl h))))
 have q4:abin .eql (.str sg) (.str o_div)=some (.bool false):=sgF fun h=>har (.inr (.inr (.inr (.inr (.inl h)))))
 have q5:abin .eql (.str sg) (.str o_rem)=some (.bool false):=sgF fun h=>har (.inr (.inr (.inr (.inr (.inr h)))))
 refine Dg rfl ?_
 simp -dsimp only [SE,astep,seval]
 refine Dg rfl ?_
 simp -dsimp only [SE,astep,seval,q0]
 refine Dn rfl rfl ?_
 refine Dg rfl ?_
 simp -dsimp only [SE,astep,seval,q1]
 refine Dn rfl rfl ?_
 refine Dg rfl ?_
 simp -dsimp only [SE,astep,seval,q2]
 refine Dn rfl rfl ?_
 refine Dg rfl ?_
 simp -dsimp only [SE,astep,seval,q3]
 refine Dn rfl rfl ?_
 refine Dg rfl ?_
 simp -dsimp only [SE,astep,seval,q4]
 refine Dn rfl rfl ?_
 refine Dg rfl ?_
 simp -dsimp only [SE,astep,seval,q5]
 refine Dn rfl rfl ?_
 by_cases h0:sg=s_eq
 ·have c:=sgT h0
  have cc:abin .eql (.int .i64 (ord a b)) (.int .i64 0)=some (.bool (decide (ord a b=0))):=eql_dec (ord a b) 0
  rw [if_pos h0]
  refine Dg rfl ?_
  simp -dsimp only [SE,astep,seval,c]
  refine Dy rfl rfl ?_
  refine Dg rfl ?_
  simp -dsimp only [SE,astep,seval,la,lb]
  refine (r23 a oa fa b ob fb H).mono ?_
  rintro r H' ⟨rfl,he⟩
  obtain rfl:=he.symm
  simp -dsimp only [SE,astep,seval,cc]
  refine (r21 (decide (ord a b=0)) H).mono ?_
  rintro r H' ⟨rfl,he⟩
  obtain rfl:=he.symm
  have s1:=store_all (n:=5) g4 (new:=TM.c5 (tf (decide (ord a b=0)))) rfl (TM.ones5 _) rfl
  obtain ⟨H9,hH9,g9,n9,f9⟩:=upd g4 (.cells 27 (TM.c5 (tf (decide (ord a b=0)))))
  have l9:=load_all (n:=5) g9 rfl
  simp -dsimp only [SE,astep,seval,s1,← hH9]
  refine Dm rfl ?_
  exact DR.ret ⟨NR (some (tf (decide (ord a b=0))),0),by simp [aresult,ares,Env.get,l9],rfl⟩
 have c0:=sgF h0
 rw [if_neg h0]
 refine Dg rfl ?_
 simp -dsimp only [SE,astep,seval,c0]
 refine Dn rfl rfl ?_
 by_cases h1:sg=s_ne
 ·have c:=sgT h1
  have cc:abin .neq (.int .i64 (ord a b)) (.int .i64 0)=some (.bool (decide (ord a b≠0))):=neq_dec (ord a b) 0
  rw [if_pos h1]
  refine Dg rfl ?_
  simp -dsimp only [SE,astep,seval,c]
  refine Dy rfl rfl ?_
  refine Dg rfl ?_
  simp -dsimp only [SE,astep,seval,la,lb]
  refine (r23 a oa fa b ob fb H).mono ?_
  rintro r H' ⟨rfl,he⟩
  obtain rfl:=he.symm
  simp -dsimp only [SE,astep,seval,cc]
  refine (r21 (decide (ord a b≠0)) H).mono ?_
  rintro r H' ⟨rfl,he⟩
  obtain rfl:=he.symm
  have s1:=store_all (n:=5) g4 (new:=TM.c5 (tf (decide (ord a b≠0)))) rfl (TM.ones5 _) rfl
  obtain ⟨H9,hH9,g9,n9,f9⟩:=upd g4 (.cells 27 (TM.c5 (tf (decide (ord a b≠0)))))
  have l9:=load_all (n:=5) g9 rfl
  simp -dsimp only [SE,astep,seval,s1,← hH9]
  refine Dm rfl ?_
  exact DR.ret ⟨NR (some (tf (decide (ord a b≠0))),0),by simp [aresult,ares,Env.get,l9],rfl⟩
 have c1:=sgF h1
 rw [if_neg h1]
 refine Dg rfl ?_
 simp -dsimp only [SE,astep,seval,c1]
 refine Dn rfl rfl ?_
 by_cases h2:sg=s_le
 ·have c:=sgT h2
  have cc:abin .leq (.int .i64 (ord a b)) (.int .i64 0)=some (.bool (decide (ord a b≤0))):=rfl
  rw [if_pos h2]
  refine Dg rfl ?_
  simp -dsimp only [SE,astep,seval,c]
  refine Dy rfl rfl ?_
  refine Dg rfl ?_
  simp -dsimp only [SE,astep,seval,la,lb]
  refine (r23 a oa fa b ob fb H).mono ?_
  rintro r H' ⟨rfl,he⟩
  obtain rfl:=he.symm
  simp -dsimp only [SE,astep,seval,cc]
  refine (r21 (decide (ord a b≤0)) H).mono ?_
  rintro r H' ⟨rfl,he⟩
  obtain rfl:=he.symm
  have s1:=store_all (n:=5) g4 (new:=TM.c5 (tf (decide (ord a b≤0)))) rfl (TM.ones5 _) rfl
  obtain ⟨H9,hH9,g9,n9,f9⟩:=upd g4 (.cells 27 (TM.c5 (tf (decide (ord a b≤0)))))
  have l9:=load_all (n:=5) g9 rfl
  simp -dsimp only [SE,astep,seval,s1,← hH9]
  refine Dm rfl ?_
  exact DR.ret ⟨NR (some (tf (decide (ord a b≤0))),0),by simp [aresult,ares,Env.get,l9],rfl⟩
 have c2:=sgF h2
 rw [if_neg h2]
 refine Dg rfl ?_
 simp -dsimp only [SE,astep,seval,c2]
 refine Dn rfl rfl ?_
 by_cases h3:sg=s_lt
 ·have c:=sgT h3
  have cc:abin .lss (.int .i64 (ord a b)) (.int .i64 0)=some (.bool (decide (ord a b < 0))):=rfl
  rw [if_pos h3]
  refine Dg rfl ?_
  simp -dsimp only [SE,astep,seval,c]
  refine Dy rfl rfl ?_
  refine Dg rfl ?_
  simp -dsimp only [SE,astep,seval,la,lb]
  refine (r23 a oa fa b ob fb H).mono ?_
  rintro r H' ⟨rfl,he⟩
  obtain rfl:=he.symm
  simp -dsimp only [SE,astep,seval,cc]
  refine (r21 (decide (ord a b < 0)) H).mono ?_
  rintro r H' ⟨rfl,he⟩
  obtain rfl:=he.symm
  have s1:=store_all (n:=5) g4 (new:=TM.c5 (tf (decide (ord a b < 0)))) rfl (TM.ones5 _) rfl
  obtain ⟨H9,hH9,g9,n9,f9⟩:=upd g4 (.cells 27 (TM.c5 (tf (decide (ord a b < 0)))))
  have l9:=load_all (n:=5) g9 rfl
  simp -dsimp only [SE,astep,seval,s1,← hH9]
  refine Dm rfl ?_
  exact DR.ret ⟨NR (some (tf (decide (ord a b < 0))),0),by simp [aresult,ares,Env.get,l9],rfl⟩
 have c3:=sgF h3
 rw [if_neg h3]
 refine Dg rfl ?_
 simp -dsimp only [SE,astep,seval,c3]
 refine Dn rfl rfl ?_
 by_cases h4:sg=s_ge
 ·have c:=sgT h4
  have cc:abin .geq (.int .i64 (ord a b)) (.int .i64 0)=some (.bool (decide (0≤ord a b))):=rfl
  rw [if_pos h4]
  refine Dg rfl ?_
  simp -dsimp only [SE,astep,seval,c]
  refine Dy rfl rfl ?_
  refine Dg rfl ?_
  simp -dsimp only [SE,astep,seval,la,lb]
  refine (r23 a oa fa b ob fb H).mono ?_
  rintro r H' ⟨rfl,he⟩
  obtain rfl:=he.symm
  simp -dsimp only [SE,astep,seval,cc]
  refine (r21 (decide (0≤ord a b)) H).mono ?_
  rintro r H' ⟨rfl,he⟩
  obtain rfl:=he.symm
  have s1:=store_all (n:=5) g4 (new:=TM.c5 (tf (decide (0≤ord a b)))) rfl (TM.ones5 _) rfl
  obtain ⟨H9,hH9,g9,n9,f9⟩:=upd g4 (.cells 27 (TM.c5 (tf (decide (0≤ord a b)))))
  have l9:=load_all (n:=5) g9 rfl
  simp -dsimp only [SE,astep,seval,s1,← hH9]
  refine Dm rfl ?_
  exact DR.ret ⟨NR (some (tf (decide (0≤ord a b))),0),by simp [aresult,ares,Env.get,l9],rfl⟩
 have c4:=sgF h4
 rw [if_neg h4]
 refine Dg rfl ?_
 simp -dsimp only [SE,astep,seval,c4]
 refine Dn rfl rfl ?_
 by_cases h5:sg=s_gt
 ·have c:=sgT h5
  have cc:abin .gtr (.int .i64 (ord a b)) (.int .i64 0)=some (.bool (decide (0 < ord a b))):=rfl
  rw [if_pos h5]
  refine Dg rfl ?_
  simp -dsimp only [SE,astep,seval,c]
  refine Dy rfl rfl ?_
  refine Dg rfl ?_
  simp -dsimp only [SE,astep,seval,la,lb]
  refine (r23 a oa fa b ob fb H).mono ?_
  rintro r H' ⟨rfl,he⟩
  obtain rfl:=he.symm
  simp -dsimp only [SE,astep,seval,cc]
  refine (r21 (decide (0 < ord a b)) H).mono ?_
  rintro r H' ⟨rfl,he⟩
  obtain rfl:=he.symm
  have s1:=store_all (n:=5) g4 (new:=TM.c5 (tf (decide (0 < ord a b)))) rfl (TM.ones5 _) rfl
  obtain ⟨H9,hH9,g9,n9,f9⟩:=upd g4 (.cells 27 (TM.c5 (tf (decide (0 < ord a b)))))
  have l9:=load_all (n:=5) g9 rfl
  simp -dsimp only [SE,astep,seval,s1,← hH9]
  refine Dm rfl ?_
  exact DR.ret ⟨NR (some (tf (decide (0 < ord a b))),0),by simp [aresult,ares,Env.get,l9],rfl⟩
 have c5:=sgF h5
 rw [if_neg h5]
 refine Dg rfl ?_
 simp -dsimp only [SE,astep,seval,c5]
 refine Dn rfl rfl ?_
 by_cases h6:sg=s_same
 ·have c:=sgT h6
  rw [if_pos h6]
  refine Dg rfl ?_
  simp -dsimp only [SE,astep,seval,c]
  refine Dy rfl rfl ?_
  refine Dg rfl ?_
  simp -dsimp only [SE,astep,seval,la,lb]
  refine (r24 a oa fa b ob fb H).mono ?_
  rintro r H' ⟨rfl,he⟩
  obtain rfl:=he.symm
  simp -dsimp only [SE,astep,seval]
  refine (r21 (samev a b) H).mono ?_
  rintro r H' ⟨rfl,he⟩
  obtain rfl:=he.symm
  have s1:=store_all (n:=5) g4 (new:=TM.c5 (tf (samev a b))) rfl (TM.ones5 _) rfl
  obtain ⟨H9,hH9,g9,n9,f9⟩:=upd g4 (.cells 27 (TM.c5 (tf (samev a b))))
  have l9:=load_all (n:=5) g9 rfl
  simp -dsimp only [SE,astep,seval,s1,← hH9]
  refine Dm rfl ?_
  exact DR.ret ⟨NR (some (tf (samev a b)),0),by simp [aresult,ares,Env.get,l9],rfl⟩
 have c6:=sgF h6
 rw [if_neg h6]
 refine Dg rfl ?_
 simp -dsimp only [SE,astep,seval,c6]
 refine Dn rfl rfl ?_
 by_cases h7:sg=s_diff
 ·have c:=sgT h7
  rw [if_pos h7]
  refine Dg rfl ?_
  simp -dsimp only [SE,astep,seval,c]
  refine Dy rfl rfl ?_
  refine Dg rfl ?_
  simp -dsimp only [SE,astep,seval,la,lb]
  refine (r24 a oa fa b ob fb H).mono ?_
  rintro r H' ⟨rfl,he⟩
  obtain rfl:=he.symm
  simp -dsimp only [SE,astep,seval]
  refine (r21 (!samev a b) H).mono ?_
  rintro r H' ⟨rfl,he⟩
  obtain rfl:=he.symm
  have s1:=store_all (n:=5) g4 (new:=TM.c5 (tf (!samev a b))) rfl (TM.ones5 _) rfl
  obtain ⟨H9,hH9,g9,n9,f9⟩:=upd g4 (.cells 27 (TM.c5 (tf (!samev a b))))
  have l9:=load_all (n:=5) g9 rfl
  simp -dsimp only [SE,astep,seval,s1,← hH9]
  refine Dm rfl ?_
  exact DR.ret ⟨NR (some (tf (!samev a b)),0),by simp [aresult,ares,Env.get,l9],rfl⟩
 have c7:=sgF h7
 rw [if_neg h7]
 refine Dg rfl ?_
 simp -dsimp only [SE,astep,seval,c7]
 refine Dn rfl rfl ?_
 by_cases h8:sg=s_cat
 ·have c:=sgT h8
  rw [if_pos h8]
  refine Dg rfl ?_
  simp -dsimp only [SE,astep,seval,c]
  refine Dy rfl rfl ?_
  have e1:=neq_dec a.k 8
  have e2:=neq_dec b.k 8
  by_cases k1:a.k=8
  ·rw [decide_eq_false (by omega)] at e1
   by_cases k2:b.k=8
   ·rw [decide_eq_false (by omega)] at e2
    rw [if_neg (by omega)]
    refine Dg rfl ?_
    simp -dsimp only [SE,astep,seval,ka,e1,kb,e2]
    refine Dn rfl rfl ?_
    refine Dm rfl ?_
    exact DR.only [4,8,9] (t7cat oa ob ra rb k1 k2 g4 g8 g9')
   ·rw [decide_eq_true (by omega)] at e2
    rw [if_pos (.inr k2)]
    refine Dg rfl ?_
    simp -dsimp only [SE,astep,seval,ka,e1,kb,e2]
    refine Dy rfl rfl ?_
    refine Dg rfl ?_
    simp -dsimp only [SE,astep,seval]
    refine (r20 13 H).mono ?_
    rintro r H' ⟨rfl,he⟩
    obtain rfl:=he.symm
    have s1:=store_all (n:=5) g4 (new:=z25) rfl rfl rfl
    obtain ⟨H9,hH9,g9,n9,f9⟩:=upd g4 (.cells 27 z25)
    have l9:=load_all (n:=5) g9 rfl
    have i0:([.agg (cel (none,13)),.int .i64 13]:List AVal)[0]? = some (.agg z25):=rfl
    have i1:([.agg (cel (none,13)),.int .i64 13]:List AVal)[1]? = some (.int .i64 13):=rfl
    simp -dsimp only [SE,astep,seval,i0,i1,s1,← hH9]
    refine Dm rfl ?_
    exact DR.ret ⟨NR (none,13),by simp [aresult,ares,Env.get,l9],rfl⟩
  ·rw [decide_eq_true (by omega)] at e1
   rw [if_pos (.inl k1)]
   refine Dg rfl ?_
   simp -dsimp only [SE,astep,seval,ka,e1]
   refine Dy rfl rfl ?_
   refine Dg rfl ?_
   simp -dsimp only [SE,astep,seval]
   refine (r20 13 H).mono ?_
   rintro r H' ⟨rfl,he⟩
   obtain rfl:=he.symm
   have s1:=store_all (n:=5) g4 (new:=z25) rfl rfl rfl
   obtain ⟨H9,hH9,g9,n9,f9⟩:=upd g4 (.cells 27 z25)
   have l9:=load_all (n:=5) g9 rfl
   have i0:([.agg (cel (none,13)),.int .i64 13]:List AVal)[0]? = some (.agg z25):=rfl
   have i1:([.agg (cel (none,13)),.int .i64 13]:List AVal)[1]? = some (.int .i64 13):=rfl
   simp -dsimp only [SE,astep,seval,i0,i1,s1,← hH9]
   refine Dm rfl ?_
   exact DR.ret ⟨NR (none,13),by simp [aresult,ares,Env.get,l9],rfl⟩
 have c8:=sgF h8
 rw [if_neg h8]
 refine Dg rfl ?_
 simp -dsimp only [SE,astep,seval,c8]
 refine Dn rfl rfl ?_
 refine Dg rfl ?_
 simp -dsimp only [SE,astep,seval]
 refine (r20 5 H).mono ?_
 rintro r H' ⟨rfl,he⟩
 obtain rfl:=he.symm
 have s1:=store_all (n:=5) g4 (new:=z25) rfl rfl rfl
 obtain ⟨H9,hH9,g9,n9,f9⟩:=upd g4 (.cells 27 z25)
 have l9:=load_all (n:=5) g9 rfl
 have i0:([.agg (cel (none,5)),.int .i64 5]:List AVal)[0]? = some (.agg z25):=rfl
 have i1:([.agg (cel (none,5)),.int .i64 5]:List AVal)[1]? = some (.int .i64 5):=rfl
 simp -dsimp only [SE,astep,seval,i0,i1,s1,← hH9]
 refine Dm rfl ?_
 exact DR.ret ⟨NR (none,5),by simp [aresult,ares,Env.get,l9],rfl⟩
end
end Go.Am.Rl
namespace Go.Am.Rl
open Go.Proofs
theorem opv_none {sg:ByteArray} {l:List TM} (h1:l.length≠1) (h2:l.length≠2):opv sg l=(none,5):=by
 match l,h1,h2 with
 | [],_,_=>rfl
 | [a],h1,_=>exact absurd rfl h1
 | [a,b],_,h2=>exact absurd rfl h2
 | a::b::c::r,_,_=>rfl
theorem r7 {sg:ByteArray} {u:TM} (ok:u.ok) (hr:∀ x ∈ u.l,right x) (H:AHeap):DCall Tryz.prog 7 [.str sg,u.row] H fun r H'=>r=NR (opv sg u.l)∧H'=H:=by
 refine NR_closed (by have:=TM.purer (u:=u); simp only [AVal.pures,Bool.and_true] at this ⊢; rw [this]; rfl) ?_ H
 have hz:z25=[.int .i64 0,.int .i64 0,.flt .f64 0,.str ⟨#[]⟩,.nils]:=rfl
 obtain ⟨H1,hH1,g1,n1,f1⟩:=psh AHeap.empty (.cells 27 z25)
 have hl:=TM.lenT ok H1
 by_cases h1:u.l.length=1
 ·obtain ⟨a,ha⟩:∃ a,u.l=[a]:=by
   match hu:u.l,h1 with
   | [a],_=>exact ⟨a,rfl⟩
  have hx:u.l[0]? = some a:=by rw [ha]; rfl
  have ra:=hr a (by rw [ha]; simp)
  have oa:=TM.ok_at ok hx
  have ia:aiaddr H1 5 u.row (.int .i64 0)=_:=TM.row_at ok (i:=0) hx H1
  have la:=TM.load a (TM.flat (u.l.drop 1)) H1
  have l3:aload H1 none (.rop ((a.cells++TM.flat (u.l.drop 1)).drop 3))=some (.str a.s):=by rw [TM.cells_eq]; rfl
  have c:abin .eql (.int .i64 (u.l.length:Nat)) (.int .i64 1)=some (.bool true):=eqlT (by omega)
  have e:opv sg u.l=opv1 sg a:=by rw [ha]; rfl
  rw [e]
  refine DCall.of_body (fn:=Tryz.f7) (by kernel_rfl) c7 (by kernel_rfl) (by simp [f7]) ?_
  unfold f7
  simp only []
  refine Dg rfl ?_
  simp -dsimp only [SE,astep,seval,← hz,← hH1]
  refine Dg rfl ?_
  simp -dsimp only [SE,astep,seval,hl,c]
  refine Dy rfl rfl ?_
  by_cases s1:sg=o_sub
  ·have c1:=sgT s1
   have e:opv1 sg a=negR a:=if_pos s1
   rw [e]
   refine Dg rfl ?_
   simp -dsimp only [SE,astep,seval,c1]
   refine Dy rfl rfl ?_
   refine Dg rfl ?_
   simp -dsimp only [SE,astep,seval,ia,la]
   refine (r18 oa ra.2.2 H1).mono ?_
   rintro r H' ⟨rfl,he⟩
   obtain rfl:=he.symm
   have i0:([.agg (cel (negR a)),.int .i64 (negR a).2]:List AVal)[0]? = some (.agg (cel (negR a))):=rfl
   have i1:([.agg (cel (negR a)),.int .i64 (negR a).2]:List AVal)[1]? = some (.int .i64 (negR a).2):=rfl
   obtain ⟨H2,hH2,g2,n2,f2⟩:=psh H1 (.cells 27 z25)
   have s2:=store_all (n:=5) g2 (new:=cel (negR a)) (cel_len _) (cel_ones _) rfl
   obtain ⟨H3,hH3,g3,n3,f3⟩:=upd g2 (.cells 27 (cel (negR a)))
   have l3':=load_all (n:=5) g3 (cel_len _)
   have r3:H3.get AHeap.empty.next=some (.cells 27 z25):=by rw [f3 _ (by rw [n1]; omega),f2 _ (by rw [n1]; omega)]; exact g1
   have s4:=store_all (n:=5) r3 (new:=cel (negR a)) (cel_len _) (cel_ones _) rfl
   obtain ⟨H9,hH9,g9,n9,f9⟩:=upd r3 (.cells 27 (cel (negR a)))
   have l9:=load_all (n:=5) g9 (cel_len _)
   simp -dsimp only [SE,astep,seval,i0,i1,← hz,← hH2,s2,← hH3]
   refine Dg rfl ?_
   simp -dsimp only [SE,astep,seval,l3',s4,← hH9]
   refine Dm rfl ?_
   exact DR.ret ⟨NR (negR a),by simp [aresult,ares,Env.get,l9],rfl⟩
  have c1:=sgF s1
  refine Dg rfl ?_
  simp -dsimp only [SE,astep,seval,c1]
  refine Dn rfl rfl ?_
  by_cases s2:sg=s_not
  ·have c2:=sgT s2
   have e:opv1 sg a=if isBool a then (some (tf (decide (a.s=sFalse))),0) else (none,13):=by unfold opv1; rw [if_neg s1,if_pos s2]
   rw [e]
   refine Dg rfl ?_
   simp -dsimp only [SE,astep,seval,c2]
   refine Dy rfl rfl ?_
   refine Dg rfl ?_
   simp -dsimp only [SE,astep,seval,ia,la]
   refine (r19 a H1).mono ?_
   rintro r H' ⟨rfl,he⟩
   obtain rfl:=he.symm
   by_cases hb:isBool a
   ·rw [decide_eq_true hb,if_pos hb]
    have c3:=eql_strs (s:=a.s) (u:=sFalse)
    simp -dsimp only [SE,astep,seval,Bool.not_true]
    refine Dn rfl rfl ?_
    refine Dg rfl ?_
    simp -dsimp only [SE,astep,seval,ia,l3,c3]
    refine (r21 (decide (a.s=sFalse)) H1).mono ?_
    rintro r H' ⟨rfl,he⟩
    obtain rfl:=he.symm
    have s1:=store_all (n:=5) g1 (new:=TM.c5 (tf (decide (a.s=sFalse)))) rfl (TM.ones5 _) rfl
    obtain ⟨H9,hH9,g9,n9,f9⟩:=upd g1 (.cells 27 (TM.c5 (tf (decide (a.s=sFalse)))))
    have l9:=load_all (n:=5) g9 rfl
    simp -dsimp only [SE,astep,seval,s1,← hH9]
    refine Dm rfl ?_
    exact DR.ret ⟨NR (some (tf (decide (a.s=sFalse))),0),by simp [aresult,ares,Env.get,l9],rfl⟩
   ·rw [decide_eq_false hb,if_neg hb]
    simp -dsimp only [SE,astep,seval,Bool.not_false]
    refine Dy rfl rfl ?_
    refine Dg rfl ?_
    simp -dsimp only [SE,astep,seval]
    refine (r20 13 H1).mono ?_
    rintro r H' ⟨rfl,he⟩
    obtain rfl:=he.symm
    have s1:=store_all (n:=5) g1 (new:=z25) rfl rfl rfl
    obtain ⟨H9,hH9,g9,n9,f9⟩:=upd g1 (.cells 27 z25)
    have l9:=load_all (n:=5) g9 rfl
    have i0:([.agg (cel (none,13)),.int .i64 13]:List AVal)[0]? = some (.agg z25):=rfl
    have i1:([.agg (cel (none,13)),.int .i64 13]:List AVal)[1]? = some (.int .i64 13):=rfl
    simp -dsimp only [SE,astep,seval,i0,i1,s1,← hH9]
    refine Dm rfl ?_
    exact DR.ret ⟨NR (none,13),by simp [aresult,ares,Env.get,l9],rfl⟩
  have c2:=sgF s2
  have e:opv1 sg a=(none,5):=by unfold opv1; rw [if_neg s1,if_neg s2]
  rw [e]
  refine Dg rfl ?_
  simp -dsimp only [SE,astep,seval,c2]
  refine Dn rfl rfl ?_
  refine Dg rfl ?_
  simp -dsimp only [SE,astep,seval]
  refine (r20 5 H1).mono ?_
  rintro r H' ⟨rfl,he⟩
  obtain rfl:=he.symm
  have s1:=store_all (n:=5) g1 (new:=z25) rfl rfl rfl
  obtain ⟨H9,hH9,g9,n9,f9⟩:=upd g1 (.cells 27 z25)
  have l9:=load_all (n:=5) g9 rfl
  have i0:([.agg (cel (none,5)),.int .i64 5]:List AVal)[0]? = some (.agg z25):=rfl
  have i1:([.agg (cel (none,5)),.int .i64 5]:List AVal)[1]? = some (.int .i64 5):=rfl
  simp -dsimp only [SE,astep,seval,i0,i1,s1,← hH9]
  refine Dm rfl ?_
  exact DR.ret ⟨NR (none,5),by simp [aresult,ares,Env.get,l9],rfl⟩
 have c:abin .eql (.int .i64 (u.l.length:Nat)) (.int .i64 1)=some (.bool false):=eqlF (by omega)
 by_cases h2:u.l.length=2
 ·obtain ⟨a,b,ha⟩:∃ a b,u.l=[a,b]:=by
   match hu:u.l,h2 with
   | [a,b],_=>exact ⟨a,b,rfl⟩
  have hx:u.l[0]? = some a:=by rw [ha]; rfl
  have hy:u.l[1]? = some b:=by rw [ha]; rfl
  have ra:=hr a (by rw [ha]; simp)
  have rb:=hr b (by rw [ha]; simp)
  have oa:=TM.ok_at ok hx
  have ob:=TM.ok_at ok hy
  have ia:aiaddr H1 5 u.row (.int .i64 0)=_:=TM.row_at ok (i:=0) hx H1
  have la:=TM.load a (TM.flat (u.l.drop 1)) H1
  have c2:abin .neq (.int .i64 (u.l.length:Nat)) (.int .i64 2)=some (.bool false):=neqF (by omega)
  have e:opv sg u.l=opv2 sg a b:=by rw [ha]; rfl
  rw [e]
  obtain ⟨H2,hH2,g2,n2,f2⟩:=psh H1 (.cells 27 z25)
  have s2:=store_all (n:=5) g2 (new:=TM.c5 a) rfl (TM.ones5 _) rfl
  obtain ⟨H3,hH3,g3,n3,f3⟩:=upd g2 (.cells 27 (TM.c5 a))
  have ib:aiaddr H3 5 u.row (.int .i64 1)=_:=TM.row_at ok (i:=1) hy H3
  have lb:=TM.load b (TM.flat (u.l.drop 2)) H3
  obtain ⟨H4,hH4,g4,n4,f4⟩:=psh H3 (.cells 27 z25)
  have s4:=store_all (n:=5) g4 (new:=TM.c5 b) rfl (TM.ones5 _) rfl
  obtain ⟨H5,hH5,g5,n5,f5⟩:=upd g4 (.cells 27 (TM.c5 b))
  have r5:H5.get AHeap.empty.next=some (.cells 27 z25):=by
   rw [f5 _ (by rw [n3,n2,n1]; omega),f4 _ (by rw [n3,n2,n1]; omega),f3 _ (by rw [n1]; omega),f2 _ (by rw [n1]; omega)]; exact g1
  have a5:H5.get H1.next=some (.cells 27 (TM.c5 a)):=by
   rw [f5 _ (by rw [n3,n2]; omega),f4 _ (by rw [n3,n2]; omega)]; exact g3
  have fin:=t7 (sg:=sg) oa ob ra rb r5 a5 g5
  refine DCall.of_body (fn:=Tryz.f7) (by kernel_rfl) c7 (by kernel_rfl) (by simp [f7]) ?_
  unfold f7
  simp only []
  refine Dg rfl ?_
  simp -dsimp only [SE,astep,seval,← hz,← hH1]
  refine Dg rfl ?_
  simp -dsimp only [SE,astep,seval,hl,c]
  refine Dn rfl rfl ?_
  refine Dg rfl ?_
  simp -dsimp only [SE,astep,seval,hl,c2]
  refine Dn rfl rfl ?_
  refine Dg rfl ?_
  simp -dsimp only [SE,astep,seval,ia,la,← hz,← hH2,s2,← hH3]
  refine Dg rfl ?_
  simp -dsimp only [SE,astep,seval,ib,lb,← hz,← hH4,s4,← hH5]
  refine Dm rfl ?_
  exact fin
 have c2:abin .neq (.int .i64 (u.l.length:Nat)) (.int .i64 2)=some (.bool true):=neqT (by omega)
 rw [opv_none h1 h2]
 refine DCall.of_body (fn:=Tryz.f7) (by kernel_rfl) c7 (by kernel_rfl) (by simp [f7]) ?_
 unfold f7
 simp only []
 refine Dg rfl ?_
 simp -dsimp only [SE,astep,seval,← hz,← hH1]
 refine Dg rfl ?_
 simp -dsimp only [SE,astep,seval,hl,c]
 refine Dn rfl rfl ?_
 refine Dg rfl ?_
 simp -dsimp only [SE,astep,seval,hl,c2]
 refine Dy rfl rfl ?_
 refine Dg rfl ?_
 simp -dsimp only [SE,astep,seval]
 refine (r20 5 H1).mono ?_
 rintro r H' ⟨rfl,he⟩
 obtain rfl:=he.symm
 have s1:=store_all (n:=5) g1 (new:=z25) rfl rfl rfl
 obtain ⟨H9,hH9,g9,n9,f9⟩:=upd g1 (.cells 27 z25)
 have l9:=load_all (n:=5) g9 rfl
 have i0:([.agg (cel (none,5)),.int .i64 5]:List AVal)[0]? = some (.agg z25):=rfl
 have i1:([.agg (cel (none,5)),.int .i64 5]:List AVal)[1]? = some (.int .i64 5):=rfl
 simp -dsimp only [SE,astep,seval,i0,i1,s1,← hH9]
 refine Dm rfl ?_
 exact DR.ret ⟨NR (none,5),by simp [aresult,ares,Env.get,l9],rfl⟩
end Go.Am.Rl
namespace Go.Am.Rl
open Go.Proofs
theorem g35 {c:List AVal} {e:Int} (hc:c.length=5) (ho:ones c=true) {H:AHeap}:DCallX Tryz.prog 38 [.agg c,.int .i64 e] H fun o H'=>Gro H H'∧((e=0∧o = .ret (.agg c))∨(e≠0∧o = .pan (err e))):=by
 obtain ⟨H1,hH1,g1,n1,f1⟩:=psh H (.cells 27 c)
 obtain ⟨H2,hH2,g2,n2,f2⟩:=psh H1 (.cells 27 z25)
 have hz:z25=[.int .i64 0,.int .i64 0,.flt .f64 0,.str ⟨#[]⟩,.nils]:=rfl
 have t1:=(f2 _ (by omega)).trans g1
 have l1:=load_all (n:=5) t1 hc
 have s1:=store_all (n:=5) g2 (new:=c) hc ho rfl
 obtain ⟨H3,hH3,g3,n3,f3⟩:=upd g2 (.cells 27 c)
 have l3:=load_all (n:=5) g3 hc
 have b2:Gro H H2:=⟨by omega,fun j hj=>by rw [f2 j (by omega),f1 j hj]⟩
 refine DCallX.of_body (fn:=Tryz.f38) (by kernel_rfl) c38 (by kernel_rfl) (by simp [f38]) ?_
 unfold f38
 simp only []
 refine DRX.go rfl ?_
 simp -dsimp only [XZ,SE,astep,seval,← hz,← hH1,← hH2]
 by_cases h0:e=0
 ·have c0:abin .neq (.int .i64 e) (.int .i64 0)=some (.bool false):=by rw [h0]; exact neq_int _ _
  refine DRX.go rfl ?_
  simp -dsimp only [XZ,SE,astep,seval,← hH2,c0]
  refine DRX.ne rfl rfl ?_
  refine DRX.go rfl ?_
  simp -dsimp only [XZ,SE,astep,seval,l1,s1,← hH3]
  refine DRX.nm rfl ?_
  exact DRX.ret ⟨.agg c,by simp [aresult,ares,Env.get,l3],⟨by have:=b2.1; omega,fun j hj=>by rw [f3 j (by omega),b2.2 j hj]⟩,.inl ⟨h0,rfl⟩⟩
 ·have c0:abin .neq (.int .i64 e) (.int .i64 0)=some (.bool true):=by simp [abin,h0]
  refine DRX.go rfl ?_
  simp -dsimp only [XZ,SE,astep,seval,← hH2,c0]
  refine DRX.ye rfl rfl ?_
  refine DRX.go rfl ?_
  simp -dsimp only [XZ,SE,astep,seval]
  exact ⟨b2,.inr ⟨h0,rfl⟩⟩
theorem g47v {u x:TM} {i:Nat} {cid:Nat} {kd:Int} {v:AVal} {H:AHeap} (ok:u.ok) (hx:u.l[i]? = some x) (g:H.get cid=some (.cells 42 [u.row,v])) :
  DCallX Tryz.prog 50 [.ptr cid 0,.int .i64 (i:Nat),.int .i64 kd] H fun o H'=>Gro H H'∧((x.k=kd∧o = .ret x.agg)∨(x.k≠kd∧o = .pan (err 13))):=by
 obtain ⟨H1,hH1,g1,n1,f1⟩:=psh H (.cells 27 z25)
 have hz:z25=[.int .i64 0,.int .i64 0,.flt .f64 0,.str ⟨#[]⟩,.nils]:=rfl
 have t1:=(f1 _ (AHeap.get_lt g)).trans g
 have l0:=load_cell t1 (o:=0) (v:=u.row) rfl
 have ra:=TM.row_at ok hx H1
 have la:=TM.load x (TM.flat (u.l.drop (i+1))) H1
 have lk:aload H1 none (.rop (x.cells++TM.flat (u.l.drop (i+1))))=some (.int .i64 x.k):=by rw [TM.cells_eq]; rfl
 by_cases hk:x.k=kd
 ·have hc:abin .neq (.int .i64 x.k) (.int .i64 kd)=some (.bool false):=by rw [hk]; exact neq_int _ _
  have s1:=store_all (n:=5) g1 (new:=TM.c5 x) rfl (TM.ones5 _) rfl
  obtain ⟨H2,hH2,g2,n2,f2⟩:=upd g1 (.cells 27 (TM.c5 x))
  have l2:=load_all (n:=5) g2 rfl
  refine DCallX.of_body (fn:=Tryz.f50) (by kernel_rfl) c50 (by kernel_rfl) (by simp [f50]) ?_
  unfold f50
  simp only []
  refine DRX.go rfl ?_
  simp -dsimp only [XZ,SE,astep,seval,← hz,← hH1]
  refine DRX.go rfl ?_
  simp -dsimp only [XZ,SE,astep,seval,l0,ra,lk,hc]
  refine DRX.ne rfl rfl ?_
  refine DRX.go rfl ?_
  simp -dsimp only [XZ,SE,astep,seval,l0,ra,la,s1,← hH2]
  refine DRX.nm rfl ?_
  exact DRX.ret ⟨x.agg,by simp [aresult,ares,Env.get,l2],⟨by omega,fun j hj=>by rw [f2 j (by omega),f1 j hj]⟩,.inl ⟨hk,rfl⟩⟩
 ·have hc:abin .neq (.int .i64 x.k) (.int .i64 kd)=some (.bool true):=by simp [abin,hk]
  refine DCallX.of_body (fn:=Tryz.f50) (by kernel_rfl) c50 (by kernel_rfl) (by simp [f50]) ?_
  unfold f50
  simp only []
  refine DRX.go rfl ?_
  simp -dsimp only [XZ,SE,astep,seval,← hz,← hH1]
  refine DRX.go rfl ?_
  simp -dsimp only [XZ,SE,astep,seval,l0,ra,lk,hc]
  refine DRX.ye rfl rfl ?_
  refine DRX.go rfl ?_
  simp -dsimp only [XZ,SE,astep,seval]
  refine g48.mono ?_
  rintro o H2 ⟨b2,rfl⟩
  exact ⟨Gro.trans ⟨by omega,f1⟩ b2,.inr ⟨hk,rfl⟩⟩
theorem g46 {u x:TM} {cid:Nat} {v:AVal} {H:AHeap} (ok:u.ok) (hx:u.l[0]? = some x) (g:H.get cid=some (.cells 42 [u.row,v])) :
  DCallX Tryz.prog 49 [.ptr cid 0] H (Tells H (fun y=>isBool x∧y=atm (if x.s=sFalse then sTrue else sFalse)) (fun e=>e=13∧¬ isBool x)):=by
 obtain ⟨H1,hH1,g1,n1,f1⟩:=psh H (.cells 27 z25)
 have hz:z25=[.int .i64 0,.int .i64 0,.flt .f64 0,.str ⟨#[]⟩,.nils]:=rfl
 have t1:=(f1 _ (AHeap.get_lt g)).trans g
 have b1:Gro H H1:=⟨by omega,f1⟩
 refine DCallX.of_body (fn:=Tryz.f49) (by kernel_rfl) c49 (by kernel_rfl) (by simp [f49]) ?_
 unfold f49
 simp only []
 refine DRX.go rfl ?_
 simp -dsimp only [XZ,SE,astep,seval,← hz,← hH1]
 refine DRX.go rfl ?_
 simp -dsimp only [XZ,SE,astep,seval]
 refine (g47v (i:=0) (kd:=3) ok hx t1).mono ?_
 rintro o H2 ⟨b2,⟨hk,rfl⟩ | ⟨hk,rfl⟩⟩
 ·obtain ⟨H3,hH3,g3,n3,f3⟩:=psh H2 (.cells 27 z25)
  have s3:=store_all (n:=5) g3 (new:=TM.c5 x) rfl (TM.ones5 _) rfl
  obtain ⟨H4,hH4,g4,n4,f4⟩:=upd g3 (.cells 27 (TM.c5 x))
  have l4:=load_cell g4 (o:=3) (v:=.str x.s) rfl
  have k1:H4.get H.next=some (.cells 27 z25):=by
   have:=AHeap.get_lt (b2.get g1)
   rw [f4 _ (by omega),f3 _ this]; exact b2.get g1
  have b4:Gro H H4:=⟨by have:=b2.1; have:=b1.1; omega,fun j hj=>by
   have:=b2.1
   rw [f4 j (by omega),f3 j (by omega),(b1.trans b2).2 j hj]⟩
  have nTF:¬ sTrue=sFalse:=by decide
  by_cases ht:x.s=sTrue
  ·have e1:abin .neq (.str x.s) (.str sTrue)=some (.bool false):=by rw [neq_strs,ht]; rfl
   have e3:abin .eql (.str x.s) (.str sFalse)=some (.bool false):=by rw [eql_strs,ht]; rfl
   simp -dsimp only [XZ,SE,astep,seval,← hz,← hH3,s3,← hH4]
   refine DRX.go rfl ?_
   simp -dsimp only [XZ,SE,astep,seval,l4,e1]
   refine DRX.ne rfl rfl ?_
   refine DRX.go rfl ?_
   simp -dsimp only [XZ,SE,astep,seval,l4,e3]
   refine DCall.monoX (g30 false H4) ?_
   rintro r H5 ⟨rfl,he⟩
   obtain rfl:=he.symm
   have s5:=store_all (n:=5) k1 (new:=TM.c5 (atm sFalse)) rfl (TM.ones5 _) rfl
   obtain ⟨H6,hH6,g6,n6,f6⟩:=upd k1 (.cells 27 (TM.c5 (atm sFalse)))
   have l6:=load_all (n:=5) g6 rfl
   simp -dsimp only [XZ,SE,astep,seval,Bool.false_eq_true,s5,← hH6]
   refine DRX.nm rfl ?_
   exact DRX.ret ⟨(atm sFalse).agg,by simp [aresult,ares,Env.get,l6],⟨by rw [n6]; exact b4.1,fun j hj=>by rw [f6 j (by omega),b4.2 j hj]⟩,.inl ⟨atm sFalse,atm_ok (by decide),⟨⟨hk,.inl ht⟩,by rw [if_neg (by rw [ht]; exact nTF)]⟩,rfl⟩⟩
  ·have e1:abin .neq (.str x.s) (.str sTrue)=some (.bool true):=by rw [neq_strs]; simp [ht]
   by_cases hf:x.s=sFalse
   ·have e2:abin .neq (.str x.s) (.str sFalse)=some (.bool false):=by rw [neq_strs,hf]; rfl
    have e3:abin .eql (.str x.s) (.str sFalse)=some (.bool true):=by rw [eql_strs,hf]; rfl
    simp -dsimp only [XZ,SE,astep,seval,← hz,← hH3,s3,← hH4]
    refine DRX.go rfl ?_
    simp -dsimp only [XZ,SE,astep,seval,l4,e1,e2]
    refine DRX.ne rfl rfl ?_
    refine DRX.go rfl ?_
    simp -dsimp only [XZ,SE,astep,seval,l4,e3]
    refine DCall.monoX (g30 true H4) ?_
    rintro r H5 ⟨rfl,he⟩
    obtain rfl:=he.symm
    have s5:=store_all (n:=5) k1 (new:=TM.c5 (atm sTrue)) rfl (TM.ones5 _) rfl
    obtain ⟨H6,hH6,g6,n6,f6⟩:=upd k1 (.cells 27 (TM.c5 (atm sTrue)))
    have l6:=load_all (n:=5) g6 rfl
    simp -dsimp only [XZ,SE,astep,seval,Bool.false_eq_true,s5,← hH6]
    refine DRX.nm rfl ?_
    exact DRX.ret ⟨(atm sTrue).agg,by simp [aresult,ares,Env.get,l6],⟨by rw [n6]; exact b4.1,fun j hj=>by rw [f6 j (by omega),b4.2 j hj]⟩,.inl ⟨atm sTrue,atm_ok (by decide),⟨⟨hk,.inr hf⟩,by rw [if_pos hf]⟩,rfl⟩⟩
   ·have e2:abin .neq (.str x.s) (.str sFalse)=some (.bool true):=by rw [neq_strs]; simp [hf]
    simp -dsimp only [XZ,SE,astep,seval,← hz,← hH3,s3,← hH4]
    refine DRX.go rfl ?_
    simp -dsimp only [XZ,SE,astep,seval,l4,e1,e2]
    refine DRX.ye rfl rfl ?_
    refine DRX.go rfl ?_
    simp -dsimp only [XZ,SE,astep,seval]
    refine g48.mono ?_
    rintro o H5 ⟨b5,rfl⟩
    exact ⟨b4.trans b5,.inr ⟨13,⟨rfl,fun h=>h.2.elim ht hf⟩,rfl⟩⟩
 ·exact ⟨b1.trans b2,.inr ⟨13,⟨rfl,fun h=>hk h.1⟩,rfl⟩⟩
def goodR (R:Res):Prop:=(∃ y:TM,y.ok∧norm y=y∧R=(some y,0))∨∃ e,e≠0∧R=(none,e)
theorem wf_int {n:Int} (h:rng n):(Lit.int .i64 n).wf=true:=by
 show (decide (IntKind.i64.min≤n)&&decide (n≤IntKind.i64.max))=true
 rw [show IntKind.i64.min = -9223372036854775808 from rfl,show IntKind.i64.max=9223372036854775807 from rfl]
 simp
 omega
theorem wf_flt {f:Nat} (h:f < 18446744073709551616):(Lit.float .f64 f).wf=true:=by
 show decide (f < 2 ^ 64)=true
 exact decide_eq_true (by omega)
theorem int1_ok {n:Int} (h:rng n):(int1 n).ok:=⟨by kernel_rfl,wf_int h,by kernel_rfl,Nat.zero_le _,Nat.zero_le _,fun _=>rfl,trivial⟩
theorem flt2_ok {f:Nat} (h:f < 18446744073709551616):(flt2 f).ok:=⟨by kernel_rfl,by kernel_rfl,wf_flt h,Nat.zero_le _,Nat.zero_le _,fun _=>rfl,trivial⟩
theorem intR_good (n:Int):goodR (intR n):=by
 unfold intR
 split
 ·exact .inr ⟨12,by decide,rfl⟩
 ·exact .inl ⟨int1 n,int1_ok ⟨by omega,by omega⟩,rfl,rfl⟩
theorem fltR_good {v:AVal} (h:okF v):goodR (fltR v):=by
 rcases h with rfl | ⟨f,rfl,hf⟩
 ·exact .inr ⟨11,by decide,rfl⟩
 ·unfold fltR
  show goodR (match (if fin64 f=true then some f else none) with | some f=>(some (flt2 f),0) | none=>(none,11))
  cases fin64 f with
  | true=>exact .inl ⟨flt2 f,flt2_ok hf,rfl,rfl⟩
  | false=>exact .inr ⟨11,by decide,rfl⟩
theorem err_good {e:Int} (h:e≠0):goodR (none,e):=.inr ⟨e,h,rfl⟩
theorem opR_good {sg:ByteArray} {a b:TM}:goodR (opR sg a b):=by
 unfold opR
 split
 ·exact err_good (by decide)
 split
 ·split
  ·unfold dividedR
   split
   ·exact err_good (by decide)
   split
   ·exact intR_good _
   ·exact intR_good _
  ·exact err_good (by decide)
 split
 ·unfold exactR timesR
  split
  ·exact intR_good _
  split
  ·exact intR_good _
  split
  ·exact err_good (by decide)
  ·exact intR_good _
 ·unfold floatingR
  split
  ·exact fltR_good (okF_add _ _)
  split
  ·exact fltR_good (okF_sub _ _)
  split
  ·exact fltR_good (okF_mul _ _)
  split
  ·exact err_good (by decide)
  ·exact fltR_good (okF_div _ _)
theorem negR_good {a:TM} (oa:a.ok):goodR (negR a):=by
 unfold negR
 split
 ·split
  ·exact intR_good _
  ·refine fltR_good (.inr ⟨_,rfl,neg_lt ?_⟩)
   unfold ff
   have:=TM.f_lt oa
   split <;> omega
 ·exact err_good (by decide)
theorem norm_norms:∀ t:TM,norm (norm t)=norm t:=by
 refine TM.all fun t ih=> ?_
 have h:norms (norms t.l)=norms t.l:=by
  rw [norms_map,norms_map,List.map_map]
  exact List.map_congr_left fun x hx=>ih x hx
 have he:(norms t.l).isEmpty=t.l.isEmpty:=by cases t.l <;> rfl
 cases t with
 | mk k n f s nl l=>
  show TM.mk k n f s (norms l).isEmpty (norms (norms l))=TM.mk k n f s l.isEmpty (norms l)
  rw [show (norms l).isEmpty=l.isEmpty from he,show norms (norms l)=norms l from h]
theorem lim_good {t:TM} (ok:t.ok):goodR (lim t):=by
 by_cases h:right t
 ·rw [lim_yes h]; exact .inl ⟨norm t,norm_ok t ok,norm_norms t,rfl⟩
 ·rw [lim_no h]; exact err_good (by decide)
abbrev TR (H:AHeap) (R:Res):AOut→AHeap→Prop:=Tells H (fun y=>(some (norm y),0)=R) (fun e=>(none,e)=R)
theorem TR.some {H H':AHeap} {y:TM} {R:Res} (g:Gro H H') (oy:y.ok) (hn:norm y=y) (h:R=(some y,0)):TR H R (.ret y.agg) H':=⟨g,.inl ⟨y,oy,by show (Option.some (norm y),(0:Int))=R; rw [hn,h],rfl⟩⟩
theorem TR.none {H H':AHeap} {e:Int} {R:Res} (g:Gro H H') (h:R=(none,e)):TR H R (.pan (err e)) H':=⟨g,.inr ⟨e,h.symm,rfl⟩⟩
theorem tf_norm (b:Bool):norm (tf b)=tf b:=rfl
end Go.Am.Rl
namespace Go.Am.Rl
open Go.Proofs
section
variable {u:TM} {H0:AHeap} {rid:Nat} {k k':List AItem} {Q:Env→AHeap→Prop}
theorem loop123x (ok:u.ok) (hr:∀ x ∈ u.l,right x) (hk:aexitTo 0 k=some k') (hend:∀ H,H.get rid=some (.cells 27 z25)→DR Tryz.prog (kof k123) 32 k' [(0,.int .i64 8),(1,u.row),(4,.ptr rid 0)] H Q) :
  ∀ (e i:Nat) (H:AHeap),i+e=u.l.length→H.get rid=some (.cells 27 z25)→DR Tryz.prog (kof k123) 32 (.code l123_0::.inLoop l123_0::k) [(0,.int .i64 8),(1,u.row),(4,.ptr rid 0),(10,u.row),(11,.int .i64 (u.l.length:Nat)),(12,.int .i64 (i:Nat))] H Q:=by
 intro e
 induction e with
 | zero=>
  intro i H hi hH
  have hc:abin .lss (.int .i64 (i:Nat)) (.int .i64 (u.l.length:Nat))=some (.bool false):=by simp [abin]; omega
  refine Dg rfl ?_
  simp -dsimp only [SE,astep,seval,hc]
  refine Dn rfl rfl ?_
  refine Dm rfl ?_
  refine DR.exit hk ?_
  exact DR.only [0,1,4] (hend H hH)
 | succ e ih2=>
  intro i H hi hH
  have hc:abin .lss (.int .i64 (i:Nat)) (.int .i64 (u.l.length:Nat))=some (.bool true):=by simp [abin]; omega
  have hlt:i < u.l.length:=by omega
  have hx:u.l[i]? = some u.l[i]:=List.getElem?_eq_getElem hlt
  have hxo:=TM.ok_at ok hx
  have ra:=TM.row_at ok hx H
  have la:=TM.load u.l[i] (TM.flat (u.l.drop (i+1))) H
  have hle:=TM.len_le ok
  have hw:IntKind.i64.wrap ((i:Int)+1)=((i+1:Nat):Int):=wrap64 (n:=i+1) (by omega)
  obtain ⟨H1,hH1,g1,n1,f1⟩:=psh H (.cells 27 [.int .i64 0,.int .i64 0,.flt .f64 0,.str ⟨#[]⟩,.nils])
  have st:astore H1 5 (.ptr H.next 0) (AVal.agg (TM.c5 u.l[i]))=some (H1.set H.next (.cells 27 (TM.c5 u.l[i]))):=store_all (n:=5) (new:=TM.c5 u.l[i]) g1 rfl (TM.ones5 _) rfl
  obtain ⟨H2,hH2,g2,n2,f2⟩:=upd g1 (.cells 27 (TM.c5 u.l[i]))
  have l2:=load_all (n:=5) g2 rfl
  have hr2:H2.get rid=some (.cells 27 z25):=by
   have:=AHeap.get_lt hH
   rw [f2 rid (by omega),f1 rid this]; exact hH
  refine Dg rfl ?_
  simp -dsimp only [SE,astep,seval,hc]
  refine Dy rfl rfl ?_
  refine Dg rfl ?_
  simp -dsimp only [SE,astep,seval,ra,la,← hH1,st,← hH2]
  refine Dg rfl ?_
  simp -dsimp only [SE,astep,seval,l2]
  refine (g87x _ hxo (hr _ (List.getElem_mem hlt)) H2).mono ?_
  rintro r H' ⟨rfl,he⟩
  obtain rfl:=he.symm
  have c0:abin .neq (.int .i64 0) (.int .i64 0)=some (.bool false):=neq_int _ _
  simp -dsimp only [SE,astep,seval]
  refine Dg rfl ?_
  simp -dsimp only [SE,astep,seval,c0]
  refine Dn rfl rfl ?_
  refine Dg rfl ?_
  simp -dsimp only [SE,astep,seval,hw,abin]
  refine Dm rfl ?_
  refine DR.inLoop ?_
  exact ih2 (i+1) H2 (by omega) hr2
end
theorem right_nl {l:List TM} (nl:Bool):right (lst8 nl l)↔right (lst8 false l):=⟨fun h=>right_lst (t:=lst8 nl l) rfl h false,fun h=>right_lst (t:=lst8 false l) rfl h nl⟩
theorem lim_nl {l:List TM} (nl:Bool):lim (lst8 nl l)=lim (lst8 false l):=by
 by_cases h:right (lst8 false l)
 ·rw [lim_yes h,lim_yes ((right_nl nl).mpr h)]; rfl
 ·rw [lim_no h,lim_no (fun k=>h ((right_nl nl).mp k))]
theorem fine_lst {l:List TM} (h:∀ x ∈ l,right x) (nl:Bool):fine (lst8 nl l):=
 (fine_eq _).mpr ⟨.inr (.inr (.inr (.inr (.inr ⟨.inr rfl,rfl,rfl,rfl⟩)))),fines_iff.mpr fun x hx=>(h x hx).2.2⟩
theorem g123 {u:TM} (ok:u.ok) (hr:∀ x ∈ u.l,right x) (H:AHeap):DCall Tryz.prog 123 [.int .i64 8,u.row] H fun r H'=>r=NR (lim (lst8 false u.l))∧H'=H:=by
 have hp:AVal.pures [.int .i64 8,u.row]=true:=by
  have:=TM.purer (u:=u)
  simp only [AVal.pures,Bool.and_true] at this ⊢
  rw [this]; rfl
 have hle:=TM.len_le ok
 have ok8:(lst8 u.nl u.l).ok:=by
  cases u with
  | mk k n f s nl l=>exact lst8_ok ok.2.2.2.2.2.2 ok.2.2.2.2.1 ok.2.2.2.2.2.1
 refine NR_closed hp ?_ H
 obtain ⟨H1,hH1,g1,n1,f1⟩:=psh AHeap.empty (.cells 27 z25)
 have hz:z25=[.int .i64 0,.int .i64 0,.flt .f64 0,.str ⟨#[]⟩,.nils]:=rfl
 have hl:=TM.lenT ok H1
 have hfl:afill z25 [(0,1,.int .i64 8),(4,1,u.row)]=some (TM.c5 (lst8 u.nl u.l)):=by
  cases u with
  | mk k n f s nl l=>cases nl <;> rfl
 rw [← lim_nl u.nl]
 refine DCall.of_body (fn:=Tryz.f123) (by kernel_rfl) c123 (by kernel_rfl) (by simp [f123]) ?_
 unfold f123
 simp only []
 refine Dg rfl ?_
 simp -dsimp only [SE,astep,seval,← hz,← hH1]
 refine Dg rfl ?_
 simp -dsimp only [SE,astep,seval,hl]
 refine Dm rfl ?_
 refine DR.loop ?_
 refine loop123x ok hr rfl (fun H2 g2=> ?_) u.l.length 0 H1 (by omega) g1
 obtain ⟨H3,hH3,g3,n3,f3⟩:=psh H2 (.cells 27 z25)
 have s3:=store_all (n:=5) g3 (new:=TM.c5 (lst8 u.nl u.l)) rfl (TM.ones5 _) rfl
 obtain ⟨H4,hH4,g4,n4,f4⟩:=upd g3 (.cells 27 (TM.c5 (lst8 u.nl u.l)))
 have l4:=load_all (n:=5) g4 rfl
 have t4:H4.get AHeap.empty.next=some (.cells 27 z25):=by
  have:=AHeap.get_lt g2
  rw [f4 _ (by omega),f3 _ this]; exact g2
 refine Dg rfl ?_
 simp -dsimp only [SE,astep,seval,Env.parts,← hz,hfl,← hH3,s3,← hH4]
 refine Dg rfl ?_
 simp -dsimp only [SE,astep,seval,l4]
 refine (g87z (lst8 u.nl u.l) ok8 (fine_lst hr u.nl) H4).mono ?_
 rintro r H' ⟨⟨z,hz',rfl⟩,he⟩
 obtain rfl:=he.symm
 cases z with
 | true=>
  rw [lim_yes (hz'.mp rfl)]
  have c0:abin .neq (.int .i64 0) (.int .i64 0)=some (.bool false):=neq_int _ _
  have s5:=store_all (n:=5) t4 (new:=TM.c5 (norm (lst8 u.nl u.l))) rfl (TM.ones5 _) rfl
  obtain ⟨H5,hH5,g5,n5,f5⟩:=upd t4 (.cells 27 (TM.c5 (norm (lst8 u.nl u.l))))
  have l5:=load_all (n:=5) g5 rfl
  simp -dsimp only [SE,astep,seval,c0]
  refine Dn rfl rfl ?_
  refine Dg rfl ?_
  simp -dsimp only [SE,astep,seval,l4]
  refine (g50 (lst8 u.nl u.l) ok8 H4).mono ?_
  rintro r H' ⟨rfl,he⟩
  obtain rfl:=he.symm
  simp -dsimp only [SE,astep,seval,s5,← hH5]
  refine Dm rfl ?_
  exact DR.ret ⟨NR (some (norm (lst8 u.nl u.l)),0),by simp [aresult,ares,Env.get,l5],rfl⟩
 | false=>
  rw [lim_no (fun h=>by have:=hz'.mpr h; cases this)]
  have c0:abin .neq (.int .i64 12) (.int .i64 0)=some (.bool true):=rfl
  have s5:=store_all (n:=5) t4 (new:=z25) rfl rfl rfl
  obtain ⟨H5,hH5,g5,n5,f5⟩:=upd t4 (.cells 27 z25)
  have l5:=load_all (n:=5) g5 rfl
  simp -dsimp only [SE,astep,seval,Bool.false_eq_true,c0]
  refine Dy rfl rfl ?_
  refine Dg rfl ?_
  simp -dsimp only [SE,astep,seval,Env.parts,afill,← hz,s5,← hH5]
  refine Dm rfl ?_
  exact DR.ret ⟨NR (none,12),by simp [aresult,ares,Env.get,l5],rfl⟩
theorem g81 {u:TM} (ok:u.ok) (hr:∀ x ∈ u.l,right x) (H:AHeap):DCall Tryz.prog 81 [u.row] H fun r H'=>r=NR (lim (lst8 false u.l))∧H'=H:=by
 refine NR_closed (TM.purer (u:=u)) ?_ H
 obtain ⟨H1,hH1,g1,n1,f1⟩:=psh AHeap.empty (.cells 27 z25)
 have hz:z25=[.int .i64 0,.int .i64 0,.flt .f64 0,.str ⟨#[]⟩,.nils]:=rfl
 obtain ⟨R,hR⟩:∃ R,R=lim (lst8 false u.l):=⟨_,rfl⟩
 refine DCall.of_body (fn:=Tryz.f81) (by kernel_rfl) c81 (by kernel_rfl) (by simp [f81]) ?_
 unfold f81
 simp only []
 refine Dg rfl ?_
 simp -dsimp only [SE,astep,seval,← hz,← hH1]
 refine Dg rfl ?_
 simp -dsimp only [SE,astep,seval]
 refine (g123 ok hr H1).mono ?_
 rintro r H' ⟨rfl,he⟩
 obtain rfl:=he.symm
 rw [← hR]
 have s1:=store_all (n:=5) g1 (new:=cel R) (cel_len _) (cel_ones _) rfl
 obtain ⟨H9,hH9,g9,n9,f9⟩:=upd g1 (.cells 27 (cel R))
 have l9:=load_all (n:=5) g9 (cel_len _)
 have i0:([.agg (cel R),.int .i64 R.2]:List AVal)[0]? = some (.agg (cel R)):=rfl
 have i1:([.agg (cel R),.int .i64 R.2]:List AVal)[1]? = some (.int .i64 R.2):=rfl
 simp -dsimp only [SE,astep,seval,i0,i1,s1,← hH9]
 refine Dm rfl ?_
 exact DR.ret ⟨NR R,by simp [aresult,ares,Env.get,l9],rfl⟩
theorem g81r {l:List TM} (ok:(TM.of false l).ok) (hr:∀ x ∈ l,right x) {H:AHeap} {id:Nat} {cap:Option Nat} (g:H.get id=some (.cells 27 (TM.flat l))):DCall Tryz.prog 81 [.sl id 0 l.length cap] H fun r H'=>r=NR (lim (lst8 false l))∧H'=H.del id:=
 DCall.retire (K:=fun r=>r=NR (lim (lst8 false l))) (n:=l.length) (args':=[(TM.of false l).row]) g (TM.pures _) (by
  show freezeL (fr2 id l.length (TM.flat l)) [.sl id 0 l.length cap]=some [.ros (TM.flat l) l.length]
  simp [freezeL,fr2,fr1,AVal.pure]) (fun r h=>by rw [h]; exact NR_pure _) (g81 (u:=TM.of false l) ok hr AHeap.empty)
theorem zeros_length:∀ m:Nat,(List.replicate m z25).flatten.length=m * 5
 | 0=>rfl
 | m+1=>by rw [List.replicate_succ,List.flatten_cons,List.length_append,zeros_length m]; show 5+m * 5=_; omega
theorem g124 {m:Nat} (hm:m≤2 ^ 41) (H:AHeap):DCall Tryz.prog 124 [.nils,.int .i64 (m:Nat)] H fun r H'=>Gro H H'∧((m=0∧r = .nils)∨(0 < m∧∃ id,r = .sl id 0 0 none∧H'.get id=some (.cells 27 (List.replicate m z25).flatten)∧H.next≤id)):=by
 have c0:abin .lss (.int .i64 (m:Nat)) (.int .i64 0)=some (.bool false):=by simp [abin]
 have h1:alenT H 1 .nils=some 0:=rfl
 have h3:alenT H 3 .nils=some 0:=rfl
 have d1:abin .sub (.int .i64 0) (.int .i64 0)=some (.int .i64 0):=rfl
 have d2:abin .sub (.int .i64 (m:Nat)) (.int .i64 0)=some (.int .i64 (m:Nat)):=by
  show some (AVal.int .i64 (IntKind.i64.wrap ((m:Int) - 0)))=_
  rw [Int.sub_zero,wrap64 (by omega)]
 refine DCall.of_body (fn:=Tryz.f124) (by kernel_rfl) c124 (by kernel_rfl) (by simp [f124]) ?_
 unfold f124
 simp only []
 refine Dg rfl ?_
 simp -dsimp only [SE,astep,seval]
 refine Dg rfl ?_
 simp -dsimp only [SE,astep,seval,c0]
 refine Dn rfl rfl ?_
 refine Dg rfl ?_
 simp -dsimp only [SE,astep,seval,h1,h3,d1,d2]
 by_cases h0:m=0
 ·have c1:abin .gtr (.int .i64 (m:Nat)) (.int .i64 0)=some (.bool false):=by simp [abin]; omega
  refine Dg rfl ?_
  simp -dsimp only [SE,astep,seval,c1]
  refine Dn rfl rfl ?_
  refine Dg rfl ?_
  simp -dsimp only [SE,astep,seval]
  refine Dm rfl ?_
  exact DR.ret ⟨_,by simp [aresult,ares,Env.get] <;> rfl,Gro.refl _,.inl ⟨h0,rfl⟩⟩
 ·have c1:abin .gtr (.int .i64 (m:Nat)) (.int .i64 0)=some (.bool true):=by simp [abin]; omega
  obtain ⟨H1,hH1,g1,n1,f1⟩:=psh H (.cells 27 (List.replicate m z25).flatten)
  have hz:z25=[.int .i64 0,.int .i64 0,.flt .f64 0,.str ⟨#[]⟩,.nils]:=rfl
  have ha:aappN 27 z25 64 H .nils (.int .i64 (m:Nat))=some (.sl H.next 0 m none,H1):=by
   simp only [aappN]
   rw [if_pos ⟨by omega,by omega,by omega,by decide⟩,hH1]; rfl
  have r1:rowOf H 27 .nils=true:=rfl
  have r2:rowOf H1 27 (.sl H.next 0 m none)=true:=by simp [rowOf,g1]
  have s1:∀ T:Env,T.get 19=some (.int .i64 0)→aslc 5 T .nils none (some (.t 19)) none=some .nils:=fun T h=>by simp only [aslc,abound,Env.val,h]; rfl
  have s2:∀ T:Env,T.get 24=some (.int .i64 0)→aslc 5 T (.sl H.next 0 m none) none (some (.t 24)) none=some (.sl H.next 0 0 none):=fun T h=>by
   simp only [aslc,abound,Env.val,h,Option.bind_eq_bind,Option.bind_some]
   rw [if_pos ⟨by omega,by omega⟩]
   simp only [Option.bind_some]
   rw [if_neg (by omega)]
   simp
  have h1':alenT H1 1 .nils=some 0:=rfl
  refine Dg rfl ?_
  simp -dsimp only [SE,astep,seval,c1]
  refine Dy rfl rfl ?_
  refine DR.ops ?_
  simp -dsimp only [SE,astep,seval,h1,h3,h1',r1,r2,← hz,ha,s1,s2,Env.get,Env.val]
  refine Dg rfl ?_
  simp -dsimp only [SE,astep,seval]
  refine Dm rfl ?_
  exact DR.ret ⟨_,by simp [aresult,ares,Env.get] <;> rfl,⟨by omega,f1⟩,.inr ⟨by omega,_,rfl,g1,Nat.le_refl _⟩⟩
theorem app_in {u:TM} (ok:u.ok) {H:AHeap} {id len:Nat} {cs:List AVal} (g:H.get id=some (.cells 27 cs)) (hc:(len+u.l.length) * 5≤cs.length) (hb:len+u.l.length≤2199023255552) :
  ∃ H',aapp 27 5 64 H (.sl id 0 len none) u.row=some (.sl id 0 (len+u.l.length) none,H')∧H'.get id=some (.cells 27 (aput cs (len * 5) (TM.flat u.l)))∧H'.next=H.next∧∀ j,j≠id→H'.get j=H.get j:=by
 have hap:∀ i,i≤cs.length→aput cs i []=cs:=fun i hi=>by simp [aput]
 by_cases h0:u.l=[]
 ·refine ⟨H,?_,?_,rfl,fun _ _=>rfl⟩
  ·rw [h0]
   cases u with
   | mk k n f s nl l=>
    obtain rfl:l=[]:=h0
    cases nl <;> rfl
  ·rw [h0,g]
   show _=some (ABlk.cells 27 (aput cs (len * 5) []))
   rw [hap _ (by omega)]
 ·have hpos:0 < u.l.length:=by cases hu:u.l with
   | nil=>exact absurd hu h0
   | cons x r=>simp
  have hcs:(TM.flat u.l).length=u.l.length * 5:=TM.flat_length u.l
  have hrow:u.row = .ros (TM.flat u.l) u.l.length:=by
   cases u with
   | mk k n f s nl l=>
    cases nl with
    | true=>exact absurd (ok.2.2.2.2.2.1 rfl) h0
    | false=>rfl
  have hsl:sliceCells H 5 (.ros (TM.flat u.l) u.l.length)=some (TM.flat u.l):=by
   simp only [sliceCells]
   rw [if_pos (by omega),← hcs,List.take_length]
  have hno:¬ (ones (TM.flat u.l)=false∨5=0∨(TM.flat u.l).length≠u.l.length * 5):=by
   rw [ones_flat,hcs]; simp
  obtain ⟨H2,hH2,g2,n2,f2⟩:=upd g (.cells 27 (aput cs (len * 5) (TM.flat u.l)))
  refine ⟨H2,?_,g2,n2,f2⟩
  rw [hrow]
  simp only [aapp,Go.Am.alen,hsl,if_neg hno,g]
  rw [if_neg (by omega),if_pos ⟨by omega,by omega,by omega,trivial⟩,if_pos (by omega),Nat.zero_add,← hH2]
theorem aput_two {a b z:List AVal} (h:z.length=a.length+b.length):aput (aput z 0 a) a.length b=a++b:=by
 simp only [aput,List.take_zero,List.nil_append,Nat.zero_add]
 rw [List.take_append_of_le_length (Nat.le_refl _),List.take_length,List.drop_eq_nil_of_le (by rw [List.length_append,List.length_drop]; omega),List.append_nil]
theorem g82 {a b:TM} (oa:a.ok) (ob:b.ok) (hab:a.l.length+b.l.length≤2199023255552) {H:AHeap} {aid:Nat} {cap:Option Nat} (g:H.get aid=some (.cells 22 [a.row,b.row])) :
  DCall Tryz.prog 82 [.sl aid 0 2 cap] H fun r H'=>Gro H H'∧((a.l++b.l=[]∧r = .nils)∨∃ id,r = .sl id 0 (a.l++b.l).length none∧H'.get id=some (.cells 27 (TM.flat (a.l++b.l)))∧H.next≤id):=by
 have h2:alenT H 1 (.sl aid 0 2 cap)=some 2:=rfl
 have c02:abin .lss (.int .i64 0) (.int .i64 ((2:Nat):Int))=some (.bool true):=rfl
 have c12:abin .lss (.int .i64 1) (.int .i64 ((2:Nat):Int))=some (.bool true):=rfl
 have c22:abin .lss (.int .i64 2) (.int .i64 ((2:Nat):Int))=some (.bool false):=rfl
 have a01:abin .add (.int .i64 0) (.int .i64 1)=some (.int .i64 1):=rfl
 have a12:abin .add (.int .i64 1) (.int .i64 1)=some (.int .i64 2):=rfl
 have i0:∀ H:AHeap,aiaddr H 1 (.sl aid 0 2 cap) (.int .i64 0)=some (.ptr aid 0):=fun H=>rfl
 have i1:∀ H:AHeap,aiaddr H 1 (.sl aid 0 2 cap) (.int .i64 1)=some (.ptr aid 1):=fun H=>rfl
 have l0:=load_cell g (o:=0) (v:=a.row) rfl
 have l1:=load_cell g (o:=1) (v:=b.row) rfl
 have la:=TM.lenT oa H
 have lb:=TM.lenT ob H
 have s1:abin .add (.int .i64 0) (.int .i64 (a.l.length:Nat))=some (.int .i64 (a.l.length:Nat)):=by
  show some (AVal.int .i64 (IntKind.i64.wrap (0+(a.l.length:Int))))=_
  rw [Int.zero_add,wrap64 (by omega)]
 have s2:abin .add (.int .i64 (a.l.length:Nat)) (.int .i64 (b.l.length:Nat))=some (.int .i64 ((a.l.length+b.l.length:Nat):Int)):=add_nat (by omega)
 have c0:abin .lss (.int .i64 (a.l.length:Nat)) (.int .i64 0)=some (.bool false):=lssF (by omega)
 have c1:abin .lss (.int .i64 ((a.l.length+b.l.length:Nat):Int)) (.int .i64 0)=some (.bool false):=lssF (by omega)
 refine DCall.of_body (fn:=Tryz.f82) (by kernel_rfl) c82 (by kernel_rfl) (by simp [f82]) ?_
 unfold f82
 simp only []
 refine Dg rfl ?_
 simp -dsimp only [SE,astep,seval]
 refine Dg rfl ?_
 simp -dsimp only [SE,astep,seval]
 refine Dg rfl ?_
 simp -dsimp only [SE,astep,seval,h2]
 refine Dm rfl ?_
 refine DR.loop ?_
 refine Dg rfl ?_
 simp -dsimp only [SE,astep,seval,c02]
 refine Dy rfl rfl ?_
 refine Dg rfl ?_
 simp -dsimp only [SE,astep,seval,i0,l0]
 refine Dg rfl ?_
 simp -dsimp only [SE,astep,seval,la,s1]
 refine Dg rfl ?_
 simp -dsimp only [SE,astep,seval,c0]
 refine Dn rfl rfl ?_
 refine Dg rfl ?_
 simp -dsimp only [SE,astep,seval,a01]
 refine Dm rfl ?_
 refine DR.inLoop ?_
 refine Dg rfl ?_
 simp -dsimp only [SE,astep,seval,c12]
 refine Dy rfl rfl ?_
 refine Dg rfl ?_
 simp -dsimp only [SE,astep,seval,i1,l1]
 refine Dg rfl ?_
 simp -dsimp only [SE,astep,seval,lb,s2]
 refine Dg rfl ?_
 simp -dsimp only [SE,astep,seval,c1]
 refine Dn rfl rfl ?_
 refine Dg rfl ?_
 simp -dsimp only [SE,astep,seval,a12]
 refine Dm rfl ?_
 refine DR.inLoop ?_
 refine Dg rfl ?_
 simp -dsimp only [SE,astep,seval,c22]
 refine Dn rfl rfl ?_
 refine Dm rfl ?_
 refine DR.exit rfl ?_
 refine Dg rfl ?_
 simp -dsimp only [SE,astep,seval]
 refine (g124 (m:=a.l.length+b.l.length) hab H).mono ?_
 rintro v H1 ⟨b1,hv⟩
 have k1:=b1.get g
 have l0:=load_cell k1 (o:=0) (v:=a.row) rfl
 have h2:alenT H1 1 (.sl aid 0 2 cap)=some 2:=rfl
 rcases hv with ⟨hz,rfl⟩ | ⟨hpos,id,rfl,hid,hn⟩
 ·have l1:=load_cell k1 (o:=1) (v:=b.row) rfl
  have ea:a.l=[]:=List.length_eq_zero_iff.mp (by omega)
  have eb:b.l=[]:=List.length_eq_zero_iff.mp (by omega)
  have p1:aapp 27 5 64 H1 .nils a.row=some (.nils,H1):=by
   cases a with
   | mk k n f s nl l=>obtain rfl:l=[]:=ea; cases nl <;> rfl
  have p2:aapp 27 5 64 H1 .nils b.row=some (.nils,H1):=by
   cases b with
   | mk k n f s nl l=>obtain rfl:l=[]:=eb; cases nl <;> rfl
  simp -dsimp only [SE,astep,seval]
  refine Dg rfl ?_
  simp -dsimp only [SE,astep,seval,h2]
  refine Dm rfl ?_
  refine DR.loop ?_
  refine Dg rfl ?_
  simp -dsimp only [SE,astep,seval,c02]
  refine Dy rfl rfl ?_
  refine Dg rfl ?_
  simp -dsimp only [SE,astep,seval,i0,l0]
  refine Dg rfl ?_
  simp -dsimp only [SE,astep,seval,p1]
  refine Dg rfl ?_
  simp -dsimp only [SE,astep,seval,a01]
  refine Dm rfl ?_
  refine DR.inLoop ?_
  refine Dg rfl ?_
  simp -dsimp only [SE,astep,seval,c12]
  refine Dy rfl rfl ?_
  refine Dg rfl ?_
  simp -dsimp only [SE,astep,seval,i1,l1]
  refine Dg rfl ?_
  simp -dsimp only [SE,astep,seval,p2]
  refine Dg rfl ?_
  simp -dsimp only [SE,astep,seval,a12]
  refine Dm rfl ?_
  refine DR.inLoop ?_
  refine Dg rfl ?_
  simp -dsimp only [SE,astep,seval,c22]
  refine Dn rfl rfl ?_
  refine Dm rfl ?_
  refine DR.exit rfl ?_
  refine Dg rfl ?_
  simp -dsimp only [SE,astep,seval]
  refine Dm rfl ?_
  exact DR.ret ⟨_,by simp [aresult,ares,Env.get] <;> rfl,b1,.inl ⟨by rw [ea,eb]; rfl,rfl⟩⟩
 ·have hzl:(List.replicate (a.l.length+b.l.length) z25).flatten.length=(a.l.length+b.l.length) * 5:=zeros_length _
  obtain ⟨H2,p1,g2,n2,f2⟩:=app_in oa (len:=0) hid (by omega) (by omega)
  rw [Nat.zero_add] at p1
  rw [Nat.zero_mul] at g2
  have hal:(TM.flat a.l).length=a.l.length * 5:=TM.flat_length _
  have hbl:(TM.flat b.l).length=b.l.length * 5:=TM.flat_length _
  have hpl:(aput (List.replicate (a.l.length+b.l.length) z25).flatten 0 (TM.flat a.l)).length=(a.l.length+b.l.length) * 5:=by
   simp only [aput,List.take_zero,List.nil_append,Nat.zero_add,List.length_append,List.length_drop]; omega
  obtain ⟨H3,p2,g3,n3,f3⟩:=app_in ob g2 (len:=a.l.length) (by omega) (by omega)
  rw [← hal,aput_two (by omega),flat_snoc] at g3
  have l1:=load_cell ((f2 aid (by have:=AHeap.get_lt g; omega)).trans k1) (o:=1) (v:=b.row) rfl
  simp -dsimp only [SE,astep,seval]
  refine Dg rfl ?_
  simp -dsimp only [SE,astep,seval,h2]
  refine Dm rfl ?_
  refine DR.loop ?_
  refine Dg rfl ?_
  simp -dsimp only [SE,astep,seval,c02]
  refine Dy rfl rfl ?_
  refine Dg rfl ?_
  simp -dsimp only [SE,astep,seval,i0,l0]
  refine Dg rfl ?_
  simp -dsimp only [SE,astep,seval,p1]
  refine Dg rfl ?_
  simp -dsimp only [SE,astep,seval,a01]
  refine Dm rfl ?_
  refine DR.inLoop ?_
  refine Dg rfl ?_
  simp -dsimp only [SE,astep,seval,c12]
  refine Dy rfl rfl ?_
  refine Dg rfl ?_
  simp -dsimp only [SE,astep,seval,i1,l1]
  refine Dg rfl ?_
  simp -dsimp only [SE,astep,seval,p2]
  refine Dg rfl ?_
  simp -dsimp only [SE,astep,seval,a12]
  refine Dm rfl ?_
  refine DR.inLoop ?_
  refine Dg rfl ?_
  simp -dsimp only [SE,astep,seval,c22]
  refine Dn rfl rfl ?_
  refine Dm rfl ?_
  refine DR.exit rfl ?_
  refine Dg rfl ?_
  simp -dsimp only [SE,astep,seval]
  refine Dm rfl ?_
  exact DR.ret ⟨_,by simp [aresult,ares,Env.get] <;> rfl,⟨by rw [n3,n2]; exact b1.1,fun j hj=>by rw [f3 j (by omega),f2 j (by omega),b1.2 j hj]⟩,.inr ⟨id,by rw [List.length_append],g3,hn⟩⟩
end Go.Am.Rl
namespace Go.Am.Rl
open Go.Proofs
section
variable {u a b:TM}
theorem g31u {g:FuncId} {p:Int→Bool} (ok:u.ok) (hx:u.l[0]? = some a) (hy:u.l[1]? = some b) (ra:right a) (rb:right b) (hg:∀ n H,DCall Tryz.prog g [.int .i64 n] H fun r H'=>r = .bool (p n)∧H'=H)
  {H:AHeap} {cid id:Nat} (hc:H.get cid=some (.cells 42 (opC u))) (hi:H.get id=some (.cells 58 [fnv g])) :
  DCallX Tryz.prog 31 [.ptr cid 0,.ptr id 0] H (TR H (some (tf (p (ord a b))),0)):=by
 have h:DCall Tryz.prog 31 [.ptr cid 0,.ptr id 0] H (TellsB H (p (ord a b))):=by
  have oa:=TM.ok_at ok hx
  have ob:=TM.ok_at ok hy
  obtain ⟨H1,hH1,g1,n1,f1⟩:=psh H (.cells 27 z25)
  have hz:z25=[.int .i64 0,.int .i64 0,.flt .f64 0,.str ⟨#[]⟩,.nils]:=rfl
  have b1:Gro H H1:=⟨by omega,f1⟩
  have lc:=load_cell (b1.get hc) (o:=0) (v:=u.row) rfl
  have li:=load_cell (b1.get hi) (o:=0) (v:=fnv g) rfl
  have i0:aiaddr H1 5 u.row (.int .i64 0)=_:=TM.row_at ok (i:=0) hx H1
  have l0:=TM.load a (TM.flat (u.l.drop 1)) H1
  have i1:aiaddr H1 5 u.row (.int .i64 1)=_:=TM.row_at ok (i:=1) hy H1
  have l1:=TM.load b (TM.flat (u.l.drop 2)) H1
  have s1:=store_all (n:=5) g1 (new:=TM.c5 (tf (p (ord a b)))) rfl (TM.ones5 _) rfl
  obtain ⟨H2,hH2,g2,n2,f2⟩:=upd g1 (.cells 27 (TM.c5 (tf (p (ord a b)))))
  have l2:=load_all (n:=5) g2 rfl
  have ix0:([.int .i64 (ord a b),.int .i64 0]:List AVal)[0]? = some (.int .i64 (ord a b)):=rfl
  have ix1:([.int .i64 (ord a b),.int .i64 0]:List AVal)[1]? = some (.int .i64 0):=rfl
  refine DCall.of_body (fn:=Tryz.f31) (by kernel_rfl) c31 (by kernel_rfl) (by simp [f31]) ?_
  unfold f31
  simp only []
  refine Dg rfl ?_
  simp -dsimp only [SE,astep,seval,← hz,← hH1]
  refine Dm rfl ?_
  refine DR.draw (by kernel_rfl) d31_1 ?_
  simp -dsimp only [m31_1,SE,astep,seval,DS_nil,DS_cons,seesAll,staysAll,abit,List.getD_cons_zero,List.getD_cons_succ,AOp.quiet,AOp.reads,true_and,and_true,decide_true,decide_false,and_self,lc,i0,l0,i1,l1]
  refine (g29 oa ob ra rb H1).mono ?_
  rintro r H' ⟨rfl,he⟩
  obtain rfl:=he.symm
  simp -dsimp only [SE,astep,seval,DS_nil,DS_cons,seesAll,staysAll,abit,List.getD_cons_zero,List.getD_cons_succ,AOp.quiet,AOp.reads,true_and,and_true,decide_true,decide_false,and_self,lc,i0,l0,i1,l1,ix0,ix1]
  refine Dg rfl ?_
  simp -dsimp only [SE,astep,seval,li,List.append_nil,List.nil_append]
  refine (hg (ord a b) H1).mono ?_
  rintro r H' ⟨rfl,he⟩
  obtain rfl:=he.symm
  simp -dsimp only [SE,astep,seval]
  refine (g30 (p (ord a b)) H1).mono ?_
  rintro r H' ⟨rfl,he⟩
  obtain rfl:=he.symm
  simp -dsimp only [SE,astep,seval,s1,← hH2]
  refine Dm rfl ?_
  exact DR.ret ⟨(tf (p (ord a b))).agg,by simp [aresult,ares,Env.get,l2],⟨by omega,fun j hj=>by rw [f2 j (by omega),f1 j hj]⟩,rfl⟩
 refine DCall.monoX h ?_
 rintro r H' ⟨g,rfl⟩
 exact TR.some g (tf_ok _) (tf_norm _) rfl
theorem g35u {w:Bool} (ok:u.ok) (hx:u.l[0]? = some a) (hy:u.l[1]? = some b) (ra:right a) (rb:right b)
  {H:AHeap} {cid id:Nat} (hc:H.get cid=some (.cells 42 (opC u))) (hi:H.get id=some (.cells 4 [.bool w])) :
  DCallX Tryz.prog 35 [.ptr cid 0,.ptr id 0] H (TR H (some (tf (samev a b==w)),0)):=by
 have h:DCall Tryz.prog 35 [.ptr cid 0,.ptr id 0] H (TellsB H (samev a b==w)):=by
  have oa:=TM.ok_at ok hx
  have ob:=TM.ok_at ok hy
  obtain ⟨H1,hH1,g1,n1,f1⟩:=psh H (.cells 27 z25)
  have hz:z25=[.int .i64 0,.int .i64 0,.flt .f64 0,.str ⟨#[]⟩,.nils]:=rfl
  have b1:Gro H H1:=⟨by omega,f1⟩
  have lc:=load_cell (b1.get hc) (o:=0) (v:=u.row) rfl
  have li:=load_cell (b1.get hi) (o:=0) (v:=.bool w) rfl
  have i0:aiaddr H1 5 u.row (.int .i64 0)=_:=TM.row_at ok (i:=0) hx H1
  have l0:=TM.load a (TM.flat (u.l.drop 1)) H1
  have i1:aiaddr H1 5 u.row (.int .i64 1)=_:=TM.row_at ok (i:=1) hy H1
  have l1:=TM.load b (TM.flat (u.l.drop 2)) H1
  have s1:=store_all (n:=5) g1 (new:=TM.c5 (tf (samev a b==w))) rfl (TM.ones5 _) rfl
  obtain ⟨H2,hH2,g2,n2,f2⟩:=upd g1 (.cells 27 (TM.c5 (tf (samev a b==w))))
  have l2:=load_all (n:=5) g2 rfl
  have ix0:([.bool (samev a b),.int .i64 0]:List AVal)[0]? = some (.bool (samev a b)):=rfl
  have ix1:([.bool (samev a b),.int .i64 0]:List AVal)[1]? = some (.int .i64 0):=rfl
  have hx':(false ^^ (samev a b==w))=(samev a b==w):=by cases (samev a b==w) <;> rfl
  refine DCall.of_body (fn:=Tryz.f35) (by kernel_rfl) c35 (by kernel_rfl) (by simp [f35]) ?_
  unfold f35
  simp only []
  refine Dg rfl ?_
  simp -dsimp only [SE,astep,seval,← hz,← hH1]
  refine Dm rfl ?_
  refine DR.draw (by kernel_rfl) d35_1 ?_
  simp -dsimp only [m35_1,SE,astep,seval,DS_nil,DS_cons,seesAll,staysAll,abit,List.getD_cons_zero,List.getD_cons_succ,AOp.quiet,AOp.reads,true_and,and_true,decide_true,decide_false,and_self,lc,i0,l0,i1,l1]
  refine (g33 oa ob ra rb H1).mono ?_
  rintro r H' ⟨rfl,he⟩
  obtain rfl:=he.symm
  simp -dsimp only [SE,astep,seval,DS_nil,DS_cons,seesAll,staysAll,abit,List.getD_cons_zero,List.getD_cons_succ,AOp.quiet,AOp.reads,true_and,and_true,decide_true,decide_false,and_self,lc,i0,l0,i1,l1,ix0,ix1]
  refine Dg rfl ?_
  simp -dsimp only [SE,astep,seval,li,hx']
  refine (g30 (samev a b==w) H1).mono ?_
  rintro r H' ⟨rfl,he⟩
  obtain rfl:=he.symm
  simp -dsimp only [SE,astep,seval,s1,← hH2]
  refine Dm rfl ?_
  exact DR.ret ⟨(tf (samev a b==w)).agg,by simp [aresult,ares,Env.get,l2],⟨by omega,fun j hj=>by rw [f2 j (by omega),f1 j hj]⟩,rfl⟩
 refine DCall.monoX h ?_
 rintro r H' ⟨g,rfl⟩
 exact TR.some g (tf_ok _) (tf_norm _) rfl
theorem g47c (ok:u.ok) (hx:u.l[0]? = some a) (ra:right a) {H:AHeap} {cid:Nat} (hc:H.get cid=some (.cells 42 (opC u))):DCallX Tryz.prog 47 [.ptr cid 0] H (TR H (negR a)):=by
 have oa:=TM.ok_at ok hx
 obtain ⟨H1,hH1,g1,n1,f1⟩:=psh H (.cells 27 z25)
 have hz:z25=[.int .i64 0,.int .i64 0,.flt .f64 0,.str ⟨#[]⟩,.nils]:=rfl
 have b1:Gro H H1:=⟨by omega,f1⟩
 have lc:=load_cell (b1.get hc) (o:=0) (v:=u.row) rfl
 have i0:aiaddr H1 5 u.row (.int .i64 0)=_:=TM.row_at ok (i:=0) hx H1
 have l0:=TM.load a (TM.flat (u.l.drop 1)) H1
 obtain ⟨R,hR⟩:∃ R,R=negR a:=⟨_,rfl⟩
 have hgood:=negR_good oa
 have j0:([.agg (cel R),.int .i64 R.2]:List AVal)[0]? = some (.agg (cel R)):=rfl
 have j1:([.agg (cel R),.int .i64 R.2]:List AVal)[1]? = some (.int .i64 R.2):=rfl
 refine DCallX.of_body (fn:=Tryz.f47) (by kernel_rfl) c47 (by kernel_rfl) (by simp [f47]) ?_
 unfold f47
 simp only []
 refine DRX.go rfl ?_
 simp -dsimp only [XZ,SE,astep,seval,← hz,← hH1]
 refine DRX.go rfl ?_
 simp -dsimp only [XZ,SE,astep,seval,lc,i0,l0]
 refine DCall.monoX (g54n oa ra.2.2 H1) ?_
 rintro r H' ⟨rfl,he⟩
 obtain rfl:=he.symm
 rw [← hR] at hgood ⊢
 simp -dsimp only [XZ,SE,astep,seval,j0,j1]
 refine (g35 (c:=cel R) (e:=R.2) (cel_len R) (cel_ones R)).mono ?_
 rintro o H2 ⟨b2,⟨h0,rfl⟩ | ⟨h0,rfl⟩⟩
 ·rcases hgood with ⟨y,oy,hn,rfl⟩ | ⟨e,he,rfl⟩
  ·have t2:=b2.get g1
   have s2:=store_all (n:=5) t2 (new:=TM.c5 y) rfl (TM.ones5 _) rfl
   obtain ⟨H3,hH3,g3,n3,f3⟩:=upd t2 (.cells 27 (TM.c5 y))
   have l3:=load_all (n:=5) g3 rfl
   simp -dsimp only [XZ,SE,astep,seval,s2,← hH3]
   refine DRX.nm rfl ?_
   exact DRX.ret ⟨y.agg,by simp [aresult,ares,Env.get,l3],TR.some ⟨by have:=b1.1; have:=b2.1; omega,fun i hi=>by rw [f3 i (by omega),(b1.trans b2).2 i hi]⟩ oy hn rfl⟩
  ·exact absurd h0 he
 ·rcases hgood with ⟨y,oy,hn,rfl⟩ | ⟨e,he,rfl⟩
  ·exact absurd rfl h0
  ·exact TR.none (b1.trans b2) rfl
theorem g37c {sg:ByteArray} (har:isAr sg) (ok:u.ok) (hx:u.l[0]? = some a) (hy:u.l[1]? = some b) (ra:right a) (rb:right b) {H:AHeap} {cid id:Nat} (hc:H.get cid=some (.cells 42 (opC u))) (hi:H.get id=some (.cells 9 [.str sg])) :
  DCallX Tryz.prog 37 [.ptr cid 0,.ptr id 0] H (TR H (opR sg a b)):=by
 have oa:=TM.ok_at ok hx
 have ob:=TM.ok_at ok hy
 obtain ⟨H1,hH1,g1,n1,f1⟩:=psh H (.cells 27 z25)
 have hz:z25=[.int .i64 0,.int .i64 0,.flt .f64 0,.str ⟨#[]⟩,.nils]:=rfl
 have b1:Gro H H1:=⟨by omega,f1⟩
 have i0:∀ H:AHeap,aiaddr H 5 u.row (.int .i64 0)=some (.rop (a.cells++TM.flat (u.l.drop 1))):=fun H=>TM.row_at ok (i:=0) hx H
 have l0:∀ H:AHeap,aload H (some 5) (.rop (a.cells++TM.flat (u.l.drop 1)))=_:=fun H=>TM.load a (TM.flat (u.l.drop 1)) H
 have i1:∀ H:AHeap,aiaddr H 5 u.row (.int .i64 1)=some (.rop (b.cells++TM.flat (u.l.drop 2))):=fun H=>TM.row_at ok (i:=1) hy H
 have l1:∀ H:AHeap,aload H (some 5) (.rop (b.cells++TM.flat (u.l.drop 2)))=_:=fun H=>TM.load b (TM.flat (u.l.drop 2)) H
 have lc:=load_cell (b1.get hc) (o:=0) (v:=u.row) rfl
 have li:=load_cell (b1.get hi) (o:=0) (v:=.str sg) rfl
 obtain ⟨R,hR⟩:∃ R,R=opR sg a b:=⟨_,rfl⟩
 have hgood:=opR_good (sg:=sg) (a:=a) (b:=b)
 have j0:([.agg (cel R),.int .i64 R.2]:List AVal)[0]? = some (.agg (cel R)):=rfl
 have j1:([.agg (cel R),.int .i64 R.2]:List AVal)[1]? = some (.int .i64 R.2):=rfl
 have hcall:DCall Tryz.prog 39 [.str sg,a.agg,b.agg] H1 fun r H'=>r=NR R∧H'=H1:=by rw [hR]; exact g45 har oa ob ra.2.2 rb.2.2 H1
 rw [← hR] at hgood ⊢
 refine DCallX.of_body (fn:=Tryz.f37) (by kernel_rfl) c37 (by kernel_rfl) (by simp [f37]) ?_
 unfold f37
 simp only []
 refine DRX.go rfl ?_
 simp -dsimp only [XZ,SE,astep,seval,← hz,← hH1]
 refine DRX.nm rfl ?_
 refine DRX.draw (by kernel_rfl) d37_1 ?_
 simp -dsimp only [m37_1,YZ,XZ,SE,astep,seval,DS_nil,DS_cons,seesAll,staysAll,abit,List.getD_cons_zero,List.getD_cons_succ,AOp.quiet,AOp.reads,true_and,and_true,decide_true,decide_false,and_self,li,lc,i0,l0,i1,l1]
 refine DCall.monoX hcall ?_
 rintro r H' ⟨rfl,he⟩
 obtain rfl:=he.symm
 simp -dsimp only [YZ,XZ,SE,astep,seval,DS_nil,DS_cons,seesAll,staysAll,abit,List.getD_cons_zero,List.getD_cons_succ,AOp.quiet,AOp.reads,true_and,and_true,decide_true,decide_false,and_self,li,lc,i0,l0,i1,l1,j0,j1]
 refine (g35 (c:=cel R) (e:=R.2) (cel_len R) (cel_ones R)).mono ?_
 rintro o H2 ⟨b2,⟨h0,rfl⟩ | ⟨h0,rfl⟩⟩
 ·rcases hgood with ⟨y,oy,hn,rfl⟩ | ⟨e,he,rfl⟩
  ·have t2:=b2.get g1
   have s2:=store_all (n:=5) t2 (new:=TM.c5 y) rfl (TM.ones5 _) rfl
   obtain ⟨H3,hH3,g3,n3,f3⟩:=upd t2 (.cells 27 (TM.c5 y))
   have l3:=load_all (n:=5) g3 rfl
   have lc2:=load_cell (b2.get (b1.get hc)) (o:=0) (v:=u.row) rfl
   have li2:=load_cell (b2.get (b1.get hi)) (o:=0) (v:=.str sg) rfl
   simp -dsimp only [YZ,XZ,SE,astep,seval,DS_nil,DS_cons,seesAll,staysAll,abit,List.getD_cons_zero,List.getD_cons_succ,AOp.quiet,AOp.reads,true_and,and_true,decide_true,decide_false,and_self,li,lc,li2,lc2,i0,l0,i1,l1,j0,j1,s2,← hH3]
   refine DRX.nm rfl ?_
   exact DRX.ret ⟨y.agg,by simp [aresult,ares,Env.get,l3],TR.some ⟨by have:=b1.1; have:=b2.1; omega,fun i hi=>by rw [f3 i (by omega),(b1.trans b2).2 i hi]⟩ oy hn rfl⟩
  ·exact absurd h0 he
 ·rcases hgood with ⟨y,oy,hn,rfl⟩ | ⟨e,he,rfl⟩
  ·exact absurd rfl h0
  ·have lc2:=load_cell (b2.get (b1.get hc)) (o:=0) (v:=u.row) rfl
   have li2:=load_cell (b2.get (b1.get hi)) (o:=0) (v:=.str sg) rfl
   refine And.intro (TR.none (b1.trans b2) rfl) ?_
   simp -dsimp only [YZ,XZ,SE,astep,seval,DS_nil,DS_cons,seesAll,staysAll,abit,List.getD_cons_zero,List.getD_cons_succ,AOp.quiet,AOp.reads,true_and,and_true,decide_true,decide_false,and_self,li,lc,li2,lc2,i0,l0,i1,l1,j0,j1]
end
end Go.Am.Rl
namespace Go.Am.Rl
open Go.Proofs
section
variable {u a b:TM}
theorem g49c (ok:u.ok) (hx:u.l[0]? = some a) {H:AHeap} {cid:Nat} (hc:H.get cid=some (.cells 42 (opC u))):DCallX Tryz.prog 49 [.ptr cid 0] H (TR H (opv1 s_not a)):=by
 have e:opv1 s_not a=if isBool a then (some (tf (decide (a.s=sFalse))),0) else (none,13):=by unfold opv1; rw [if_neg (by decide),if_pos rfl]
 rw [e]
 refine (g46 ok hx hc).mono ?_
 rintro o H' ⟨g,⟨y,oy,⟨hb,rfl⟩,rfl⟩ | ⟨e,⟨rfl,hb⟩,rfl⟩⟩
 ·rw [if_pos hb]
  have:atm (if a.s=sFalse then sTrue else sFalse)=tf (decide (a.s=sFalse)):=by
   by_cases h:a.s=sFalse <;> simp [h,tf]
  rw [this]
  exact TR.some g (tf_ok _) (tf_norm _) rfl
 ·rw [if_neg hb]
  exact TR.none g rfl
theorem catFill (a b:TM):afill [.nils,.nils] [(0,1,a.row),(1,1,b.row)]=some [a.row,b.row]:=by
 cases a with
 | mk k n f s nl l=>cases b with
  | mk k' n' f' s' nl' l'=>cases nl <;> cases nl' <;> rfl
theorem g81c {l:List TM} (ho:TM.oks l) (hlen:l.length≤2 ^ 41) (hr:∀ x ∈ l,right x) {H0 H:AHeap} {v:AVal} (hv:(l=[]∧v = .nils)∨∃ id,v = .sl id 0 l.length none∧H.get id=some (.cells 27 (TM.flat l))∧H0.next≤id) (g:Gro H0 H) :
  DCall Tryz.prog 81 [v] H fun r H'=>r=NR (lim (lst8 false l))∧Gro H0 H':=by
 rcases hv with ⟨rfl,rfl⟩ | ⟨id,rfl,hid,hn⟩
 ·refine (g81 (u:=TM.of true []) (TM.of_ok trivial (Nat.zero_le _) (fun _=>rfl)) (fun x hx=>by cases hx) H).mono ?_
  rintro r H' ⟨rfl,rfl⟩
  exact ⟨rfl,g⟩
 ·refine (g81r (TM.of_ok ho hlen (fun h=>nomatch h)) hr hid).mono ?_
  rintro r H' ⟨rfl,rfl⟩
  exact ⟨rfl,⟨g.1,fun j hj=>by rw [AHeap.get_del,if_neg (by omega),g.2 j hj]⟩⟩
theorem g46c (ok:u.ok) (hx:u.l[0]? = some a) (hy:u.l[1]? = some b) (ra:right a) (rb:right b) {H:AHeap} {cid:Nat} (hc:H.get cid=some (.cells 42 (opC u))) :
  DCallX Tryz.prog 46 [.ptr cid 0] H (TR H (if a.k≠8∨b.k≠8 then (none,13) else lim (lst8 false (a.l++b.l)))):=by
 have oa:=TM.ok_at ok hx
 have ob:=TM.ok_at ok hy
 obtain ⟨H1,hH1,g1,n1,f1⟩:=psh H (.cells 27 z25)
 have hz:z25=[.int .i64 0,.int .i64 0,.flt .f64 0,.str ⟨#[]⟩,.nils]:=rfl
 have b1:Gro H H1:=⟨by omega,f1⟩
 refine DCallX.of_body (fn:=Tryz.f46) (by kernel_rfl) c46 (by kernel_rfl) (by simp [f46]) ?_
 unfold f46
 simp only []
 refine DRX.go rfl ?_
 simp -dsimp only [XZ,SE,astep,seval,← hz,← hH1]
 refine DRX.go rfl ?_
 simp -dsimp only [XZ,SE,astep,seval]
 refine (g47v (i:=0) (kd:=8) ok hx (b1.get hc)).mono ?_
 rintro o H2 ⟨b2,⟨hk,rfl⟩ | ⟨hk,rfl⟩⟩
 ·simp -dsimp only [XZ,SE,astep,seval]
  refine (g47v (i:=1) (kd:=8) ok hy (b2.get (b1.get hc))).mono ?_
  rintro o H3 ⟨b3,⟨hk',rfl⟩ | ⟨hk',rfl⟩⟩
  ·rw [if_neg (by omega)]
   have h1:=right_len ra hk
   have h2:=right_len rb hk'
   obtain ⟨H4,hH4,g4,n4,f4⟩:=psh H3 (.cells 27 z25)
   obtain ⟨H5,hH5,g5,n5,f5⟩:=psh H4 (.cells 27 z25)
   have k4:=(f5 _ (AHeap.get_lt g4)).trans g4
   have s6:=store_all (n:=5) k4 (new:=TM.c5 a) rfl (TM.ones5 _) rfl
   obtain ⟨H6,hH6,g6,n6,f6⟩:=upd k4 (.cells 27 (TM.c5 a))
   have k5:H6.get H4.next=some (.cells 27 z25):=(f6 _ (by omega)).trans g5
   have s7:=store_all (n:=5) k5 (new:=TM.c5 b) rfl (TM.ones5 _) rfl
   obtain ⟨H7,hH7,g7,n7,f7⟩:=upd k5 (.cells 27 (TM.c5 b))
   have a7:H7.get H3.next=some (.cells 27 (TM.c5 a)):=(f7 _ (by omega)).trans g6
   have la:=load_cell a7 (o:=4) (v:=a.row) rfl
   have lb:=load_cell g7 (o:=4) (v:=b.row) rfl
   obtain ⟨H8,hH8,g8,n8,f8⟩:=psh H7 (.cells 22 [a.row,b.row])
   have b3':=(b1.trans b2).trans b3
   have b8:Gro H H8:=⟨by have:=b3'.1; omega,fun j hj=>by have:=b3'.1; rw [f8 j (by omega),f7 j (by omega),f6 j (by omega),f5 j (by omega),f4 j (by omega),b3'.2 j hj]⟩
   have r8:H8.get H.next=some (.cells 27 z25):=by
    have t3:=b3.get (b2.get g1)
    have:=AHeap.get_lt t3
    rw [f8 _ (by omega),f7 _ (by omega),f6 _ (by omega),f5 _ (by omega),f4 _ (by omega)]; exact t3
   have hr':∀ x ∈ a.l++b.l,right x:=fun x hx=>(List.mem_append.mp hx).elim (right_of oa ra) (right_of ob rb)
   have hgood:=lim_good (cat_ok oa ob ra rb hk hk' false (fun h=>nomatch h))
   obtain ⟨R,hR⟩:∃ R,R=lim (lst8 false (a.l++b.l)):=⟨_,rfl⟩
   have j0:([.agg (cel R),.int .i64 R.2]:List AVal)[0]? = some (.agg (cel R)):=rfl
   have j1:([.agg (cel R),.int .i64 R.2]:List AVal)[1]? = some (.int .i64 R.2):=rfl
   simp -dsimp only [XZ,SE,astep,seval,← hz,← hH4,← hH5,s6,← hH6,s7,← hH7]
   refine DRX.go rfl ?_
   simp -dsimp only [XZ,SE,astep,seval,la,lb,Env.parts,catFill,← hH8]
   refine DCall.monoX (g82 oa ob (by omega) g8) ?_
   rintro v H9 ⟨b9,hv⟩
   simp -dsimp only [XZ,SE,astep,seval]
   refine DCall.monoX (g81c (H0:=H8) (oks_app (TM.ok_oks oa) (TM.ok_oks ob)) (by rw [List.length_append]; omega) hr' hv b9) ?_
   rintro r H10 ⟨rfl,b10⟩
   rw [← hR] at hgood ⊢
   simp -dsimp only [XZ,SE,astep,seval,j0,j1]
   refine (g35 (c:=cel R) (e:=R.2) (cel_len R) (cel_ones R)).mono ?_
   rintro o H11 ⟨b11,⟨h0,rfl⟩ | ⟨h0,rfl⟩⟩
   ·rcases hgood with ⟨y,oy,hn,rfl⟩ | ⟨e,he,rfl⟩
    ·have t2:=b11.get (b10.get r8)
     have s2:=store_all (n:=5) t2 (new:=TM.c5 y) rfl (TM.ones5 _) rfl
     obtain ⟨H12,hH12,g12,n12,f12⟩:=upd t2 (.cells 27 (TM.c5 y))
     have l12:=load_all (n:=5) g12 rfl
     have bb:=(b8.trans b10).trans b11
     simp -dsimp only [XZ,SE,astep,seval,s2,← hH12]
     refine DRX.nm rfl ?_
     exact DRX.ret ⟨y.agg,by simp [aresult,ares,Env.get,l12],TR.some ⟨by have:=bb.1; omega,fun i hi=>by rw [f12 i (by omega),bb.2 i hi]⟩ oy hn rfl⟩
    ·exact absurd h0 he
   ·rcases hgood with ⟨y,oy,hn,rfl⟩ | ⟨e,he,rfl⟩
    ·exact absurd rfl h0
    ·exact TR.none ((b8.trans b10).trans b11) rfl
  ·rw [if_pos (.inr hk')]
   exact TR.none ((b1.trans b2).trans b3) rfl
 ·rw [if_pos (.inl hk)]
  exact TR.none (b1.trans b2) rfl
end
end Go.Am.Rl
