/- Parts: P18, P19, P20, P21, P22, P23, P24. -/
import Derived.Test.YtcphfgcfmphlfaaDoorPB
set_option linter.unusedVariables false
set_option linter.unusedSimpArgs false
namespace Go.Am.Rl
open Go.Proofs
section
variable {ts:List TK} {H:AHeap} {pid:Nat} {st:PS} {D:Nat→Prop} {s1 s2:PS} {H1 H2:AHeap} {D1 D2:Nat→Prop} {bn br bt:Nat} {v:AVal} {n:ND}
theorem NB.setO {b c:ABlk} (b1:NB ts pid H D st s1 H1 D1 bn br v n) (t1:Prv H H1 D1 bt b) (h1:bt≠bn) (h2:bt≠br) (h3:rid v≠some bt):NB ts pid H D st s1 (H1.set bt c) D1 bn br v n:=
 ⟨b1.q.own t1.new t1.no _,b1.nb.other h1.symm,b1.rb.other h2.symm,b1.row.frame fun j hj=>by rw [AHeap.get_set,if_neg (fun e=>h3 (by rw [hj,e]))],b1.new,b1.no,b1.ne⟩
def recK3 (ts:List TK) (p:Int) (l:List Nat) (m:Int) (s:PS):IT:=must ts s w_end fun s1=>.done (.d ⟨18,⟨#[]⟩,m,0,l,p⟩) s1
def recK4 (ts:List TK) (p:Int) (l:List Nat) (m:Int) (s:PS):IT:=must ts (adv s) w_arrow fun s1=>callN .body s1 fun b s2=>recK3 ts p (l++[b]) m s2
def recK2 (ts:List TK) (p:Int) (some:Bool) (l:List Nat) (s:PS):IT:=if isS ts s w_after=true then
  (if ((tk ts (s.at_+1)).k==3&&(tk ts (s.at_+1)).n==0)=true then recK4 ts p l 1 (adv s) else if ((tk ts (s.at_+1)).k==1&&seq (tk ts (s.at_+1)).s w_infinity)=true then recK4 ts p l 2 (adv s) else .fail 24 (tk ts (s.at_+1)).p)
 else if some=true then none1 ts s 19 fun b s1=>recK3 ts p (l++[b]) 0 s1 else .fail 24 (pos ts s)
theorem rec20 {p m:Int} {l:List Nat} {t:IT} (ht:TOk ts) (b1:NB ts pid H D st s1 H1 D1 bn br v ⟨18,⟨#[]⟩,m,0,l,p⟩) (w1:∀ o,Ev ts (recK3 ts p l m s1) o→Ev ts t o) :
  DRX Tryd.prog (kof k87) 81 [.code (.region false r87_20 [3,4]),.code (.seq (.region false r87_21 [4]) .ret)] [] [(0,.ptr pid 0),(3,.ptr bn 0),(4,.ptr br 0)] H1 (fun e ds T' H'=>DLeave Tryd.prog [.cell 4 (some 6)] ds e T' H' (PostD ts pid H D st t)):=by
 have q1:=b1.q
 unfold recK3 at w1
 refine DRX.go rfl ?_
 simp -dsimp only [XZ,SZ,EZ,astep,aun,AVal.cells,seval]
 refine (g34 (s:=w_end) q1.pr ht).mono ?_
 rintro o H2 (⟨m2,rfl,p2,f2⟩ | ⟨m2,rfl,p2,f2⟩)
 rotate_left
 ·exact DLeave.pan' (.inl ⟨24,_,w1 _ (Ev.mustE m2),q1.bad ⟨rfl,_,_,p2,rfl,f2⟩⟩)
 have q2:=q1.adv p2 f2
 have w2:=fun o h=>w1 o (Ev.must m2 h)
 simp -dsimp only [XZ,SZ,EZ,astep,aun,AVal.cells,seval]
 have b2:=b1.fr q2 f2
 obtain ⟨l3,H3,s3,l4,q3,hv3⟩:=b2.copy
 refine DRX.go rfl ?_
 simp -dsimp only [XZ,SZ,EZ,astep,aun,AVal.cells,seval,l3,s3]
 refine DRX.nm rfl ?_
 exact DRX.retv ⟨_,by simp [aresult,ares,Env.get,l4] <;> rfl,.inr ⟨_,_,_,w2 _ .done,_,rfl,hv3,b2.new,b2.no,q3⟩⟩
abbrev rest87:ACode:=.seq (.region false r87_20 [3,4]) (.seq (.region false r87_21 [4]) .ret)
theorem rec15 {N:Nat} {p m:Int} {l:List Nat} {t:IT} (ht:TOk ts) (hx:Upto ts pid 67 .expr N) (hN:rem ts st≤N) (hl:l.length+1 < 1000000) (hk:(tk ts s1.at_).k≠8) (b1:NB ts pid H D st s1 H1 D1 bn br v ⟨18,⟨#[]⟩,m,0,l,p⟩) (w1:∀ o,Ev ts (recK4 ts p l m s1) o→Ev ts t o) :
  DRX Tryd.prog (kof k87) 81 [.code (.region false r87_15 [0,3,4]),.code (.seq (.region false r87_16 [0,3,4]) (.region true r87_17 [0,3,4])),.inBlock 0,.code rest87] [] [(0,.ptr pid 0),(3,.ptr bn 0),(4,.ptr br 0)] H1 (fun e ds T' H'=>DLeave Tryd.prog [.cell 4 (some 6)] ds e T' H' (PostD ts pid H D st t)):=by
 have q1:=b1.q
 unfold recK4 at w1
 obtain ⟨l2,hw2,H2,e2,p2,f2⟩:=q1.pr.step ht (hk)
 have q2:=q1.adv p2 f2
 have w2:=w1
 have b2:=b1.fr q2 f2
 refine DRX.go rfl ?_
 simp -dsimp only [XZ,SZ,EZ,astep,aun,AVal.cells,seval,l2,abin,hw2,e2]
 refine DRX.go rfl ?_
 simp -dsimp only [XZ,SZ,EZ,astep,aun,AVal.cells,seval]
 refine (g34 (s:=w_arrow) q2.pr ht).mono ?_
 rintro o H3 (⟨m3,rfl,p3,f3⟩ | ⟨m3,rfl,p3,f3⟩)
 rotate_left
 ·exact DLeave.pan' (.inl ⟨24,_,w2 _ (Ev.mustE m3),q2.bad ⟨rfl,_,_,p3,rfl,f3⟩⟩)
 have q3:=q2.adv p3 f3
 have w3:=fun o h=>w2 o (Ev.must m3 h)
 simp -dsimp only [XZ,SZ,EZ,astep,aun,AVal.cells,seval]
 have b3:=b2.fr q3 f3
 have l3:=b3.load
 have hN3:rem ts (adv (adv s1))≤N:=by have:=q1.at_; unfold rem at hN ⊢; simp only [adv]; omega
 refine DRX.nm rfl ?_
 refine DRX.draw (by kernel_rfl) d87_17 ?_
 simp -dsimp only [m87_17,YZ,XZ,SZ,EZ,astep,aun,AVal.cells,seval,DS_nil,DS_cons,seesAll,staysAll,abit,List.getD_cons_zero,List.getD_cons_succ,AOp.quiet,AOp.reads,true_and,and_true,decide_true,decide_false,and_self,l3]
 refine (u62 ht hx _ hN3 _ _ q3.pr).mono ?_
 rintro o H4 (⟨e,p,ev4,rfl,b⟩ | ⟨a4,s4,D4,ev4,rfl,ha4,g4⟩)
 ·refine And.intro (DLeave.pan' (.inl ⟨e,p,w3 _ (Ev.callE ev4),q3.bad ⟨rfl,b⟩⟩)) ?_
  simp -dsimp only [YZ,XZ,SZ,EZ,astep,aun,AVal.cells,seval,DS_nil,DS_cons,seesAll,staysAll,abit,List.getD_cons_zero,List.getD_cons_succ,AOp.quiet,AOp.reads,true_and,and_true,decide_true,decide_false,and_self,l3]
 have q4:=q3.trans g4
 have w4:=fun o h=>w3 o (Ev.call ev4 h)
 have b4:=b3.fr q4 g4.fr
 have l4:=b4.load
 obtain ⟨H5,v7,H6,H7,e5,l5,e6,s7,b7⟩:=b4.more a4 hl
 have hfl:afill [.int .i64 0] [(0,1,.int .i64 (a4:Nat))]=some [.int .i64 (a4:Nat)]:=rfl
 simp -dsimp only [YZ,XZ,SZ,EZ,astep,aun,AVal.cells,seval,DS_nil,DS_cons,seesAll,staysAll,abit,List.getD_cons_zero,List.getD_cons_succ,AOp.quiet,AOp.reads,true_and,and_true,decide_true,decide_false,and_self,l4,Env.parts,hfl,e5,l5,e6,s7]
 refine DRX.nm rfl ?_
 exact rec20 ht b7 w4
abbrev in87:ACode:=.seq (
    .region false r87_11 [0,3,4,6,33]) (
    .cond (.t 33) (
     .region false r87_12 [0,3,4]) (
     .seq (
     .region false r87_13 [0,3,4,6,43]) (
     .cond (.t 43) (
      .region false r87_14 [0,3,4]) (
      .region false r87_10 [0,3,4]))))
theorem rec11 {N:Nat} {p:Int} {l:List Nat} {t:IT} (ht:TOk ts) (hx:Upto ts pid 67 .expr N) (hN:rem ts st≤N) (hl:l.length+1 < 1000000) (b1:NB ts pid H D st s1 H1 D1 bn br v ⟨18,⟨#[]⟩,0,0,l,p⟩) (t1:Prv H H1 D1 bt (.cells 31 (tk ts s1.at_).cells))
  (w1:∀ o,Ev ts (if ((tk ts s1.at_).k==3&&(tk ts s1.at_).n==0)=true then recK4 ts p l 1 s1 else if ((tk ts s1.at_).k==1&&seq (tk ts s1.at_).s w_infinity)=true then recK4 ts p l 2 s1 else .fail 24 (tk ts s1.at_).p) o→Ev ts t o) :
  DRX Tryd.prog (kof k87) 81 [.code (.seq (.block 1 in87) (.seq (.region false r87_15 [0,3,4]) (.seq (.region false r87_16 [0,3,4]) (.region true r87_17 [0,3,4])))),.inBlock 0,.code rest87] [] [(0,.ptr pid 0),(3,.ptr bn 0),(4,.ptr br 0),(6,.ptr bt 0)] H1 (fun e ds T' H'=>DLeave Tryd.prog [.cell 4 (some 6)] ds e T' H' (PostD ts pid H D st t)):=by
 have l0:=load_cell t1.get (o:=0) (v:=.int .i64 (tk ts s1.at_).k) rfl
 have l1:=load_cell t1.get (o:=1) (v:=.str (tk ts s1.at_).s) rfl
 have l2:=load_cell t1.get (o:=2) (v:=.int .i64 (tk ts s1.at_).n) rfl
 have l4:=load_cell t1.get (o:=4) (v:=.int .i64 (tk ts s1.at_).p) rfl
 have q1:=b1.q
 have snd:((tk ts s1.at_).k==3&&(tk ts s1.at_).n==0)=false→DRX Tryd.prog (kof k87) 81 [.code (.seq (
     .region false r87_13 [0,3,4,6,43]) (
     .cond (.t 43) (
      .region false r87_14 [0,3,4]) (
      .region false r87_10 [0,3,4]))),.inBlock 1,.code (.seq (.region false r87_15 [0,3,4]) (.seq (.region false r87_16 [0,3,4]) (.region true r87_17 [0,3,4]))),.inBlock 0,.code rest87] [] [(0,.ptr pid 0),(3,.ptr bn 0),(4,.ptr br 0),(6,.ptr bt 0)] H1 (fun e ds T' H'=>DLeave Tryd.prog [.cell 4 (some 6)] ds e T' H' (PostD ts pid H D st t)):=by
  intro h1
  have w2:=fun o h=>w1 o (Ev.f h1 h)
  have bad:((tk ts s1.at_).k==1&&seq (tk ts s1.at_).s w_infinity)=false→DRX Tryd.prog (kof k87) 81 [.code (.region false r87_10 [0,3,4]),.inBlock 1,.code (.seq (.region false r87_15 [0,3,4]) (.seq (.region false r87_16 [0,3,4]) (.region true r87_17 [0,3,4]))),.inBlock 0,.code rest87] [] [(0,.ptr pid 0),(3,.ptr bn 0),(4,.ptr br 0),(6,.ptr bt 0)] H1 (fun e ds T' H'=>DLeave Tryd.prog [.cell 4 (some 6)] ds e T' H' (PostD ts pid H D st t)):=by
   intro h2
   refine DRX.go rfl ?_
   simp -dsimp only [XZ,SZ,EZ,astep,aun,AVal.cells,seval,l4]
   refine (g36 H1 24 _).mono ?_
   rintro o H2 ⟨rfl,rfl⟩
   exact DLeave.pan' (.inl ⟨24,_,w2 _ (Ev.f h2 .fail),q1.bad ⟨rfl,_,_,q1.pr,rfl,Fr.refl _ _⟩⟩)
  cases c1:((tk ts s1.at_).k==1) with
  | false=>
   rw [c1] at bad
   refine DRX.go rfl ?_
   simp -dsimp only [XZ,SZ,EZ,astep,aun,AVal.cells,seval,l0,abin,c1]
   refine DRX.ne rfl rfl ?_
   exact DRX.only [0,3,4,6] (bad rfl)
  | true=>
   rw [c1,Bool.true_and] at bad
   cases c2:seq (tk ts s1.at_).s w_infinity with
   | false=>
    have c2':=c2
    unfold seq at c2'
    refine DRX.go rfl ?_
    simp -dsimp only [XZ,SZ,EZ,astep,aun,AVal.cells,seval,l0,l1,abin,c1,c2']
    refine DRX.ne rfl rfl ?_
    exact DRX.only [0,3,4,6] (bad c2)
   | true=>
    have w3:=fun o h=>w2 o (Ev.t (show ((tk ts s1.at_).k==1&&seq (tk ts s1.at_).s w_infinity)=true by rw [c1,c2]; rfl) h)
    unfold seq at c2
    obtain ⟨H3,s3,b3⟩:=b1.setN 2
    refine DRX.go rfl ?_
    simp -dsimp only [XZ,SZ,EZ,astep,aun,AVal.cells,seval,l0,l1,abin,c1,c2]
    refine DRX.ye rfl rfl ?_
    refine DRX.go rfl ?_
    simp -dsimp only [XZ,SZ,EZ,astep,aun,AVal.cells,seval,s3]
    refine DRX.nm rfl ?_
    exact rec15 ht hx hN hl (by have:=eq_of_beq c1; omega) b3 w3
 cases c1:((tk ts s1.at_).k==3) with
 | false=>
  rw [c1] at snd
  refine DRX.go rfl ?_
  simp -dsimp only [XZ,SZ,EZ,astep,aun,AVal.cells,seval,l0,abin,c1]
  refine DRX.ne rfl rfl ?_
  exact DRX.only [0,3,4,6] (snd rfl)
 | true=>
  rw [c1,Bool.true_and] at snd
  cases c2:((tk ts s1.at_).n==0) with
  | false=>
   refine DRX.go rfl ?_
   simp -dsimp only [XZ,SZ,EZ,astep,aun,AVal.cells,seval,l0,l2,abin,c1,c2]
   refine DRX.ne rfl rfl ?_
   exact DRX.only [0,3,4,6] (snd c2)
  | true=>
   have w3:=fun o h=>w1 o (Ev.t (show ((tk ts s1.at_).k==3&&(tk ts s1.at_).n==0)=true by rw [c1,c2]; rfl) h)
   obtain ⟨H3,s3,b3⟩:=b1.setN 1
   refine DRX.go rfl ?_
   simp -dsimp only [XZ,SZ,EZ,astep,aun,AVal.cells,seval,l0,l2,abin,c1,c2]
   refine DRX.ye rfl rfl ?_
   refine DRX.go rfl ?_
   simp -dsimp only [XZ,SZ,EZ,astep,aun,AVal.cells,seval,s3]
   refine DRX.nm rfl ?_
   exact rec15 ht hx hN hl (by have:=eq_of_beq c1; omega) b3 w3
end
end Go.Am.Rl
namespace Go.Am.Rl
open Go.Proofs
section
variable {ts:List TK} {H:AHeap} {pid:Nat} {st:PS} {D:Nat→Prop} {s1 s2:PS} {H1 H2:AHeap} {D1 D2:Nat→Prop} {bn br bt:Nat} {v:AVal} {n:ND}
theorem rec6 {N:Nat} {p:Int} {l:List Nat} {c:Bool} {t:IT} (ht:TOk ts) (hx:Upto ts pid 67 .expr N) (hN:rem ts st≤N) (hl:l.length+1 < 1000000) (b1:NB ts pid H D st s1 H1 D1 bn br v ⟨18,⟨#[]⟩,0,0,l,p⟩) (w1:∀ o,Ev ts (recK2 ts p c l s1) o→Ev ts t o) :
  DRX Tryd.prog (kof k87) 81 [.code (.region false r87_6 [0,3,4,5,6]),.code (.block 0 (
  .seq (
  .region false r87_8 [0,3,4,5,6,25]) (
  .cond (.t 25) (
   .seq (
   .region false r87_9 [0,3,4,6]) (
   .seq (
   .block 1 in87) (
   .seq (
   .region false r87_15 [0,3,4]) (
   .seq (
   .region false r87_16 [0,3,4]) (
   .region true r87_17 [0,3,4]))))) (
   .seq (
   .region false r87_18 [0,3,4,6,69]) (
   .cond (.t 69) (
    .region true r87_19 [0,3,4]) (
    .region false r87_7 [0,3,4])))))),.code rest87] [] [(0,.ptr pid 0),(3,.ptr bn 0),(4,.ptr br 0),(5,.bool c)] H1 (fun e ds T' H'=>DLeave Tryd.prog [.cell 4 (some 6)] ds e T' H' (PostD ts pid H D st t)):=by
 have q1:=b1.q
 have hz:tok0=[.int .i64 0,.str ⟨#[]⟩,.int .i64 0,.flt .f64 0,.int .i64 0]:=rfl
 unfold recK2 at w1
 refine DRX.go rfl ?_
 simp -dsimp only [XZ,SZ,EZ,astep,aun,AVal.cells,seval]
 refine DCall.monoX (g37 q1.pr) ?_
 rintro a H2 ⟨rfl,k2⟩
 obtain ⟨Hx,H3,ex,e3,k3,g3,n3⟩:=new31 H2 (tk ts s1.at_)
 have q2:=q1.gro k2
 have t3:Prv H H3 D1 H2.next _:=Prv.made q2 g3
 have q3:=q2.gro k3
 have b2:=b1.fr q2 (k2.fr _)
 have b3:=b2.fr q3 (k3.fr _)
 have nv:rid v≠some H2.next:=fun e=>by have:=b2.row.row.lt e; omega
 have nn:H2.next≠bn:=by have:=b2.nb.lt; omega
 have nr:H2.next≠br:=by have:=b2.rb.lt; omega
 simp -dsimp only [XZ,SZ,EZ,astep,aun,AVal.cells,seval,← hz,ex,e3]
 refine DRX.go rfl ?_
 simp -dsimp only [XZ,SZ,EZ,astep,aun,AVal.cells,seval]
 refine DCall.monoX (g45 (s:=w_after) q3.pr ht) ?_
 rintro a H4 ⟨rfl,p4,f4⟩
 simp -dsimp only [XZ,SZ,EZ,astep,aun,AVal.cells,seval]
 have t4:=t3.fr f4
 cases hc:isS ts s1 w_after with
 | true=>
  rw [hc,if_pos rfl] at p4
  have q4:=q3.adv p4 f4
  have w4:=fun o h=>w1 o (Ev.t hc h)
  have b4:=b3.fr q4 f4
  refine DRX.ye rfl rfl ?_
  refine DRX.go rfl ?_
  simp -dsimp only [XZ,SZ,EZ,astep,aun,AVal.cells,seval]
  refine DCall.monoX (g37 q4.pr) ?_
  rintro a H5 ⟨rfl,k5⟩
  have q5:=q4.gro k5
  have t5:=t4.gro k5
  have b5:=b4.fr q5 (k5.fr _)
  have s6:=store_all (n:=5) t5.get (new:=(tk ts (adv s1).at_).cells) rfl rfl rfl
  have b6:=b5.setO (c:=.cells 31 (tk ts (adv s1).at_).cells) t5 nn nr nv
  have t6:=t5.set (c:=.cells 31 (tk ts (adv s1).at_).cells)
  simp -dsimp only [XZ,SZ,EZ,astep,aun,AVal.cells,seval,s6]
  exact rec11 ht hx hN hl b6 t6 w4
 | false=>
  rw [hc,if_neg (by simp)] at p4
  have q4:Good1 ts pid H D st s1 H4 D1:=⟨p4,q3.deep,q3.at_,q3.fr.trans f4,q3.nds⟩
  have w4:=fun o h=>w1 o (Ev.f hc h)
  have b4:=b3.fr q4 f4
  refine DRX.ne rfl rfl ?_
  refine DRX.go rfl ?_
  simp -dsimp only [XZ,SZ,EZ,astep,aun,AVal.cells,seval]
  cases c with
  | true=>
   have w4:=fun o h=>w4 o (Ev.t rfl h)
   refine DRX.ye rfl rfl ?_
   have l4:=b4.load
   refine DRX.nm rfl ?_
   refine DRX.draw (by kernel_rfl) d87_19 ?_
   simp -dsimp only [m87_19,YZ,XZ,SZ,EZ,astep,aun,AVal.cells,seval,DS_nil,DS_cons,seesAll,staysAll,abit,List.getD_cons_zero,List.getD_cons_succ,AOp.quiet,AOp.reads,true_and,and_true,decide_true,decide_false,and_self,l4]
   refine (g91 (d:=19) q4.pr).mono ?_
   rintro o H5 (⟨m5,rfl,p5,f5⟩ | ⟨m5,rfl,D5,p5,f5⟩)
   ·refine And.intro (DLeave.pan' (.inl ⟨2,_,w4 _ (Ev.layE m5),q4.bad ⟨rfl,_,_,p5,rfl,f5⟩⟩)) ?_
    simp -dsimp only [YZ,XZ,SZ,EZ,astep,aun,AVal.cells,seval,DS_nil,DS_cons,seesAll,staysAll,abit,List.getD_cons_zero,List.getD_cons_succ,AOp.quiet,AOp.reads,true_and,and_true,decide_true,decide_false,and_self,l4]
   have q5:=q4.none p5 f5
   have w5:=fun o h=>w4 o (Ev.lay m5 h)
   have b5:=b4.fr q5 f5
   have l5:=b5.load
   obtain ⟨H6,v8,H7,H8,e6,l6,e7,s8,b8⟩:=b5.more s1.nodes.length hl
   have hfl:afill [.int .i64 0] [(0,1,.int .i64 (s1.nodes.length:Nat))]=some [.int .i64 (s1.nodes.length:Nat)]:=rfl
   simp -dsimp only [YZ,XZ,SZ,EZ,astep,aun,AVal.cells,seval,DS_nil,DS_cons,seesAll,staysAll,abit,List.getD_cons_zero,List.getD_cons_succ,AOp.quiet,AOp.reads,true_and,and_true,decide_true,decide_false,and_self,l5,Env.parts,hfl,e6,l6,e7,s8]
   refine DRX.nm rfl ?_
   exact rec20 ht b8 w5
  | false=>
   have w4:=fun o h=>w4 o (Ev.f rfl h)
   refine DRX.ne rfl rfl ?_
   have la:=load_cell t4.get (o:=4) (v:=.int .i64 (pos ts s1)) rfl
   refine DRX.go rfl ?_
   simp -dsimp only [XZ,SZ,EZ,astep,aun,AVal.cells,seval,la]
   refine (g36 H4 24 _).mono ?_
   rintro o H5 ⟨rfl,rfl⟩
   exact DLeave.pan' (.inl ⟨24,_,w4 _ .fail,q4.bad ⟨rfl,_,_,q4.pr,rfl,Fr.refl _ _⟩⟩)
theorem u87 {N:Nat} {p:Int} (ht:TOk ts) (hx:Upto ts pid 67 .expr N) (hN:rem ts st≤N) (hp:PR ts H pid st D):DCallX Tryd.prog 87 [.ptr pid 0,.agg (ndC .nils (node 0 [] p))] H (PostD ts pid H D st (rule ts (.receive (node 0 [] p)) st)):=by
 refine DCallX.of_body (fn:=Tryd.f87) (by kernel_rfl) c87 (by kernel_rfl) (by simp [f87]) ?_
 unfold f87
 simp only []
 have hcc:(AVal.agg (ndC .nils (node 0 [] p))).cells=ndC .nils (node 0 [] p):=rfl
 obtain ⟨H1,H2,e1,e2,b2⟩:=NB.made (p:=p) hp
 obtain ⟨H3,s3,b3⟩:=b2.setK 18
 have q3:=b3.q
 have w3:∀ o,Ev ts (if isS ts st w_after=true then none1 ts st 20 fun c st1=>recK2 ts p false [c] st1 else callN .clauses st fun c st1=>recK2 ts p true [c] st1) o→Ev ts (rule ts (.receive (node 0 [] p)) st) o:=fun o h=>h
 refine DRX.go rfl ?_
 simp -dsimp only [XZ,SZ,EZ,astep,aun,AVal.cells,seval,hcc,e1,e2]
 refine DRX.go rfl ?_
 simp -dsimp only [XZ,SZ,EZ,astep,aun,AVal.cells,seval,s3]
 refine DRX.go rfl ?_
 simp -dsimp only [XZ,SZ,EZ,astep,aun,AVal.cells,seval]
 refine DCall.monoX (g53 (s:=w_after) q3.pr) ?_
 rintro a H4 ⟨rfl,k4⟩
 have q4:=q3.gro k4
 have b4:=b3.fr q4 (k4.fr _)
 cases hc:isS ts st w_after with
 | true=>
  have w4:=fun o h=>w3 o (Ev.t hc h)
  simp -dsimp only [XZ,SZ,EZ,astep,aun,AVal.cells,seval,Bool.not_true]
  refine DRX.go rfl ?_
  simp -dsimp only [XZ,SZ,EZ,astep,aun,AVal.cells,seval]
  refine DRX.ne rfl rfl ?_
  refine DRX.go rfl ?_
  simp -dsimp only [XZ,SZ,EZ,astep,aun,AVal.cells,seval]
  refine (g91 (d:=20) q4.pr).mono ?_
  rintro o H5 (⟨m5,rfl,p5,f5⟩ | ⟨m5,rfl,D5,p5,f5⟩)
  ·exact DLeave.pan' (.inl ⟨2,_,w4 _ (Ev.layE m5),q4.bad ⟨rfl,_,_,p5,rfl,f5⟩⟩)
  have q5:=q4.none p5 f5
  have w5:=fun o h=>w4 o (Ev.lay m5 h)
  simp -dsimp only [XZ,SZ,EZ,astep,aun,AVal.cells,seval]
  have b5:=b4.fr q5 f5
  obtain ⟨H6,H7,e6,s7,b7⟩:=b5.first st.nodes.length
  have hfl:afill [.int .i64 0] [(0,1,.int .i64 (st.nodes.length:Nat))]=some [.int .i64 (st.nodes.length:Nat)]:=rfl
  simp -dsimp only [XZ,SZ,EZ,astep,aun,AVal.cells,seval,Env.parts,hfl,e6,s7]
  refine DRX.nm rfl ?_
  exact rec6 (c:=false) ht hx hN (by simp) b7 w5
 | false=>
  have w4:=fun o h=>w3 o (Ev.f hc h)
  simp -dsimp only [XZ,SZ,EZ,astep,aun,AVal.cells,seval,Bool.not_false]
  refine DRX.go rfl ?_
  simp -dsimp only [XZ,SZ,EZ,astep,aun,AVal.cells,seval]
  refine DRX.ye rfl rfl ?_
  refine DRX.go rfl ?_
  simp -dsimp only [XZ,SZ,EZ,astep,aun,AVal.cells,seval]
  refine (u84 ht hx st hN _ _ q4.pr).mono ?_
  rintro o H5 (⟨e,p,ev5,rfl,b⟩ | ⟨a5,s5,D5,ev5,rfl,ha5,g5⟩)
  ·exact DLeave.pan' (.inl ⟨e,p,w4 _ (Ev.callE ev5),q4.bad ⟨rfl,b⟩⟩)
  have q5:=q4.trans g5
  have w5:=fun o h=>w4 o (Ev.call ev5 h)
  simp -dsimp only [XZ,SZ,EZ,astep,aun,AVal.cells,seval]
  have b5:=b4.fr q5 g5.fr
  obtain ⟨H6,H7,e6,s7,b7⟩:=b5.first a5
  have hfl:afill [.int .i64 0] [(0,1,.int .i64 (a5:Nat))]=some [.int .i64 (a5:Nat)]:=rfl
  simp -dsimp only [XZ,SZ,EZ,astep,aun,AVal.cells,seval,Env.parts,hfl,e6,s7]
  refine DRX.nm rfl ?_
  exact rec6 (c:=true) ht hx hN (by simp) b7 w5
end
end Go.Am.Rl
namespace Go.Am.Rl
open Go.Proofs
section
variable {ts:List TK} {H:AHeap} {pid:Nat} {st:PS} {D:Nat→Prop} {s1 s2:PS} {H1 H2:AHeap} {D1 D2:Nat→Prop} {bn br bt:Nat} {v:AVal} {n:ND}
def outO (n:ND) (s:PS):IT:=lay s n fun i st1=>.done (.n i) st1
theorem other28 {t:IT} (q1:Good1 ts pid H D st s1 H1 D1) (b1:Prv H H1 D1 bn (.cells 42 (ndC v n))) (hv:RowI H1 v n.l) (vn:(∀ j,rid v=some j→H.next≤j)∧∀ j,rid v=some j→¬ D1 j) (w1:∀ o,Ev ts (outO n s1) o→Ev ts t o) :
  DRX Tryd.prog (kof k82) 86 [.code (.region false r82_28 [4]),.code .ret] [] [(0,.ptr pid 0),(3,.ptr bn 0)] H1 (fun e ds T' H'=>DLeave Tryd.prog [.tmp 4] ds e T' H' (PostN ts pid H D st t)):=by
 have l1:=load_all (n:=6) b1.get rfl
 unfold outO at w1
 refine DRX.go rfl ?_
 simp -dsimp only [XZ,SZ,EZ,astep,aun,AVal.cells,seval,l1]
 refine (g39 (v:=v) (n:=n) q1.pr (hv) (vn).2).mono ?_
 rintro o H2 (⟨m2,rfl,p2,f2⟩ | ⟨m2,rfl,D2,p2,n2,f2,d2⟩)
 ·exact DLeave.pan' (.inl ⟨2,_,w1 _ (Ev.layE m2),q1.bad ⟨rfl,_,_,p2,rfl,f2⟩⟩)
 have q2:=q1.lay (vn).1 p2 n2 f2 d2
 have w2:=fun o h=>w1 o (Ev.lay m2 h)
 simp -dsimp only [XZ,SZ,EZ,astep,aun,AVal.cells,seval]
 refine DRX.nm rfl ?_
 exact DRX.retv ⟨_,by simp [aresult,ares,Env.get] <;> rfl,.inr ⟨_,_,D2,w2 _ .done,rfl,by simp,q2⟩⟩
abbrev rest82:ACode:=.seq (.region false r82_28 [4]) .ret
section
variable {N:Nat} {p:Int} {t:IT}
theorem other7 (ht:TOk ts) (hx:Upto ts pid 67 .expr N) (hN1:rem ts s1≤N) (q1:Good1 ts pid H D st s1 H1 D1) (b1:Prv H H1 D1 bn (.cells 42 (ndC .nils (node 0 [] p)))) (w1:∀ o,Ev ts (callN .expr s1 fun a st2=>must ts st2 w_rp fun st3=>.done (.n a) st3) o→Ev ts t o) :
  DRX Tryd.prog (kof k82) 86 [.code (.seq (.region false r82_7 [0,6]) (.seq (.region false r82_8 [6]) (.seq (.region false r82_9 [4]) .ret))),.inBlock 0,.code rest82] [] [(0,.ptr pid 0),(3,.ptr bn 0)] H1 (fun e ds T' H'=>DLeave Tryd.prog [.tmp 4] ds e T' H' (PostN ts pid H D st t)):=by
 refine DRX.go rfl ?_
 simp -dsimp only [XZ,SZ,EZ,astep,aun,AVal.cells,seval]
 refine (hx _ hN1 _ _ q1.pr).mono ?_
 rintro o H2 (⟨e,p,ev2,rfl,b⟩ | ⟨a2,s2,D2,ev2,rfl,ha2,g2⟩)
 ·exact DLeave.pan' (.inl ⟨e,p,w1 _ (Ev.callE ev2),q1.bad ⟨rfl,b⟩⟩)
 have q2:=q1.trans g2
 have w2:=fun o h=>w1 o (Ev.call ev2 h)
 simp -dsimp only [XZ,SZ,EZ,astep,aun,AVal.cells,seval]
 refine DRX.go rfl ?_
 simp -dsimp only [XZ,SZ,EZ,astep,aun,AVal.cells,seval]
 refine (g34 (s:=w_rp) q2.pr ht).mono ?_
 rintro o H3 (⟨m3,rfl,p3,f3⟩ | ⟨m3,rfl,p3,f3⟩)
 rotate_left
 ·exact DLeave.pan' (.inl ⟨24,_,w2 _ (Ev.mustE m3),q2.bad ⟨rfl,_,_,p3,rfl,f3⟩⟩)
 have q3:=q2.adv p3 f3
 have w3:=fun o h=>w2 o (Ev.must m3 h)
 simp -dsimp only [XZ,SZ,EZ,astep,aun,AVal.cells,seval]
 refine DRX.go rfl ?_
 simp -dsimp only [XZ,SZ,EZ,astep,aun,AVal.cells,seval]
 refine DRX.nm rfl ?_
 exact DRX.retv ⟨_,by simp [aresult,ares,Env.get] <;> rfl,.inr ⟨_,_,_,w3 _ .done,rfl,(by simpa [adv] using ha2),q3⟩⟩
theorem other11 (ht:TOk ts) (hx:Upto ts pid 67 .expr N) (hN1:rem ts s1≤N) (q1:Good1 ts pid H D st s1 H1 D1) (b1:Prv H H1 D1 bn (.cells 42 (ndC .nils (node 0 [] p)))) (w1:∀ o,Ev ts (callL (.list w_rb 0) s1 fun l st2=>outO ⟨6,⟨#[]⟩,0,0,l,p⟩ st2) o→Ev ts t o) :
  DRX Tryd.prog (kof k82) 86 [.code (.region false r82_11 [0,3]),.inBlock 0,.code rest82] [] [(0,.ptr pid 0),(3,.ptr bn 0)] H1 (fun e ds T' H'=>DLeave Tryd.prog [.tmp 4] ds e T' H' (PostN ts pid H D st t)):=by
 refine DRX.go rfl ?_
 simp -dsimp only [XZ,SZ,EZ,astep,aun,AVal.cells,seval]
 refine (u54 (s:=w_rb) (most:=0) ht hx hN1 _ _ q1.pr).mono ?_
 rintro o H2 (⟨e,p,ev2,rfl,b⟩ | ⟨a2,s2,D2,ev2,v2,rfl,hv2,hvn2,hvd2,hl2,g2⟩)
 ·exact DLeave.pan' (.inl ⟨e,p,w1 _ (Ev.callE ev2),q1.bad ⟨rfl,b⟩⟩)
 have q2:=q1.trans g2
 have w2:=fun o h=>w1 o (Ev.call ev2 h)
 simp -dsimp only [XZ,SZ,EZ,astep,aun,AVal.cells,seval]
 have b2:=b1.fr g2.fr
 have nb3:∀ j,rid v2=some j→j≠bn:=fun j hj e=>by have:=hvn2 j hj; have:=b1.lt; omega
 obtain ⟨Ha3,sa3,qa3,ba3,oa3,fa3,_⟩:=q2.put b2 0 (.int .i64 6) (by show 0 < 6; omega) ⟨rfl,rfl⟩ (cs':=ndC .nils ⟨6,⟨#[]⟩,0,0,[],p⟩) rfl
 have hra3:RowI Ha3 (v2) (a2):=(hv2.row).frame fun j hj=>fa3 j (nb3 j hj)
 obtain ⟨H3,sb3,q3,b3,ob3,fb3,_⟩:=qa3.put ba3 4 (v2) (by show 4 < 6; omega) (ndone hra3) (cs':=ndC (v2) ⟨6,⟨#[]⟩,0,0,a2,p⟩) rfl
 have hr3:RowI H3 (v2) (a2):=hra3.frame fun j hj=>fb3 j (nb3 j hj)
 have w3:=w2
 simp -dsimp only [XZ,SZ,EZ,astep,aun,AVal.cells,seval,sa3,sb3]
 refine DRX.nm rfl ?_
 exact other28 q3 b3 hr3 ⟨fun j hj=>Nat.le_trans q1.fr.1 (hvn2 j hj),hvd2⟩ w3
theorem other13 (ht:TOk ts) (hx:Upto ts pid 67 .expr N) (hN1:rem ts s1≤N) (q1:Good1 ts pid H D st s1 H1 D1) (b1:Prv H H1 D1 bn (.cells 42 (ndC .nils (node 0 [] p)))) (w1:∀ o,Ev ts (.call .elements s1 fun v st2=>match v with
    | .e k l=>outO ⟨k,⟨#[]⟩,0,0,l,p⟩ st2
    | _=>.fail 0 0) o→Ev ts t o) :
  DRX Tryd.prog (kof k82) 86 [.code (.region false r82_13 [0,3]),.inBlock 0,.code rest82] [] [(0,.ptr pid 0),(3,.ptr bn 0)] H1 (fun e ds T' H'=>DLeave Tryd.prog [.tmp 4] ds e T' H' (PostN ts pid H D st t)):=by
 refine DRX.go rfl ?_
 simp -dsimp only [XZ,SZ,EZ,astep,aun,AVal.cells,seval]
 refine (u83 ht hx hN1 q1.pr).mono ?_
 rintro o H2 (⟨e,p',ev2,rfl,b⟩ | ⟨kd2,a2,s2,D2,ev2,v2,rfl,hv2,hvn2,hvd2,g2⟩)
 ·exact DLeave.pan' (.inl ⟨e,p',w1 _ (Ev.callE ev2),q1.bad ⟨rfl,b⟩⟩)
 have q2:=q1.trans g2
 have w2:=fun o h=>w1 o (Ev.call ev2 h)
 have b2:=b1.fr g2.fr
 have nb3:∀ j,rid v2=some j→j≠bn:=fun j hj e=>by have:=hvn2 j hj; have:=b1.lt; omega
 obtain ⟨Ha3,sa3,qa3,ba3,oa3,fa3,_⟩:=q2.put b2 0 (.int .i64 kd2) (by show 0 < 6; omega) ⟨rfl,rfl⟩ (cs':=ndC .nils ⟨kd2,⟨#[]⟩,0,0,[],p⟩) rfl
 have hra3:RowI Ha3 (v2) (a2):=(hv2).frame fun j hj=>fa3 j (nb3 j hj)
 obtain ⟨H3,sb3,q3,b3,ob3,fb3,_⟩:=qa3.put ba3 4 (v2) (by show 4 < 6; omega) (ndone hra3) (cs':=ndC (v2) ⟨kd2,⟨#[]⟩,0,0,a2,p⟩) rfl
 have hr3:RowI H3 (v2) (a2):=hra3.frame fun j hj=>fb3 j (nb3 j hj)
 have w3:=w2
 have ix0:([.int .i64 kd2,v2]:List AVal)[0]? = some (.int .i64 kd2):=rfl
 have ix1:([.int .i64 kd2,v2]:List AVal)[1]? = some v2:=rfl
 simp -dsimp only [XZ,SZ,EZ,astep,aun,AVal.cells,seval,ix0,ix1,sa3,sb3]
 refine DRX.nm rfl ?_
 exact other28 q3 b3 hr3 ⟨fun j hj=>Nat.le_trans q1.fr.1 (hvn2 j hj),hvd2⟩ w3
theorem other15 (ht:TOk ts) (hx:Upto ts pid 67 .expr N) (hN1:rem ts s1≤N) (q1:Good1 ts pid H D st s1 H1 D1) (b1:Prv H H1 D1 bn (.cells 42 (ndC .nils (node 0 [] p)))) (w1:∀ o,Ev ts (callL .exprs s1 fun l st2=>must ts st2 w_end fun st3=>outO ⟨19,⟨#[]⟩,0,0,l,p⟩ st3) o→Ev ts t o) :
  DRX Tryd.prog (kof k82) 86 [.code (.seq (.region false r82_15 [0,3]) (.region false r82_16 [0,3])),.inBlock 0,.code rest82] [] [(0,.ptr pid 0),(3,.ptr bn 0)] H1 (fun e ds T' H'=>DLeave Tryd.prog [.tmp 4] ds e T' H' (PostN ts pid H D st t)):=by
 refine DRX.go rfl ?_
 simp -dsimp only [XZ,SZ,EZ,astep,aun,AVal.cells,seval]
 refine (u61 ht hx hN1 _ _ q1.pr).mono ?_
 rintro o H2 (⟨e,p,ev2,rfl,b⟩ | ⟨a2,s2,D2,ev2,v2,rfl,hv2,hvn2,hvd2,hl2,g2⟩)
 ·exact DLeave.pan' (.inl ⟨e,p,w1 _ (Ev.callE ev2),q1.bad ⟨rfl,b⟩⟩)
 have q2:=q1.trans g2
 have w2:=fun o h=>w1 o (Ev.call ev2 h)
 simp -dsimp only [XZ,SZ,EZ,astep,aun,AVal.cells,seval]
 have b2:=b1.fr g2.fr
 have nb3:∀ j,rid v2=some j→j≠bn:=fun j hj e=>by have:=hvn2 j hj; have:=b1.lt; omega
 obtain ⟨Ha3,sa3,qa3,ba3,oa3,fa3,_⟩:=q2.put b2 0 (.int .i64 19) (by show 0 < 6; omega) ⟨rfl,rfl⟩ (cs':=ndC .nils ⟨19,⟨#[]⟩,0,0,[],p⟩) rfl
 have hra3:RowI Ha3 (v2) (a2):=(hv2.row).frame fun j hj=>fa3 j (nb3 j hj)
 obtain ⟨H3,sb3,q3,b3,ob3,fb3,_⟩:=qa3.put ba3 4 (v2) (by show 4 < 6; omega) (ndone hra3) (cs':=ndC (v2) ⟨19,⟨#[]⟩,0,0,a2,p⟩) rfl
 have hr3:RowI H3 (v2) (a2):=hra3.frame fun j hj=>fb3 j (nb3 j hj)
 have w3:=w2
 simp -dsimp only [XZ,SZ,EZ,astep,aun,AVal.cells,seval,sa3,sb3]
 refine DRX.go rfl ?_
 simp -dsimp only [XZ,SZ,EZ,astep,aun,AVal.cells,seval]
 refine (g34 (s:=w_end) q3.pr ht).mono ?_
 rintro o H4 (⟨m4,rfl,p4,f4⟩ | ⟨m4,rfl,p4,f4⟩)
 rotate_left
 ·exact DLeave.pan' (.inl ⟨24,_,w3 _ (Ev.mustE m4),q3.bad ⟨rfl,_,_,p4,rfl,f4⟩⟩)
 have q4:=q3.adv p4 f4
 have w4:=fun o h=>w3 o (Ev.must m4 h)
 simp -dsimp only [XZ,SZ,EZ,astep,aun,AVal.cells,seval]
 obtain ⟨hr4,hvd4⟩:=hr3.fr f4 hvd2
 refine DRX.nm rfl ?_
 exact other28 q4 (b3.fr f4) hr4 ⟨fun j hj=>Nat.le_trans q1.fr.1 (hvn2 j hj),hvd4⟩ w4
theorem other18 (ht:TOk ts) (hx:Upto ts pid 67 .expr N) (hN1:rem ts s1≤N) (q1:Good1 ts pid H D st s1 H1 D1) (b1:Prv H H1 D1 bn (.cells 42 (ndC .nils (node 0 [] p)))) (w1:∀ o,Ev ts (callN .expr s1 fun x st2=>must ts st2 w_of fun st3=>callN .clauses st3 fun c st4=>must ts st4 w_end fun st5=>outO ⟨15,⟨#[]⟩,0,0,[x,c],p⟩ st5) o→Ev ts t o) :
  DRX Tryd.prog (kof k82) 86 [.code (.seq (.region false r82_18 [0,3,7]) (.seq (.region false r82_19 [0,3,7]) (.seq (.region false r82_20 [0,3]) (.region false r82_21 [0,3])))),.inBlock 0,.code rest82] [] [(0,.ptr pid 0),(3,.ptr bn 0)] H1 (fun e ds T' H'=>DLeave Tryd.prog [.tmp 4] ds e T' H' (PostN ts pid H D st t)):=by
 refine DRX.go rfl ?_
 simp -dsimp only [XZ,SZ,EZ,astep,aun,AVal.cells,seval]
 refine (hx _ hN1 _ _ q1.pr).mono ?_
 rintro o H2 (⟨e,p,ev2,rfl,b⟩ | ⟨a2,s2,D2,ev2,rfl,ha2,g2⟩)
 ·exact DLeave.pan' (.inl ⟨e,p,w1 _ (Ev.callE ev2),q1.bad ⟨rfl,b⟩⟩)
 have q2:=q1.trans g2
 have w2:=fun o h=>w1 o (Ev.call ev2 h)
 simp -dsimp only [XZ,SZ,EZ,astep,aun,AVal.cells,seval]
 refine DRX.go rfl ?_
 simp -dsimp only [XZ,SZ,EZ,astep,aun,AVal.cells,seval]
 refine (g34 (s:=w_of) q2.pr ht).mono ?_
 rintro o H3 (⟨m3,rfl,p3,f3⟩ | ⟨m3,rfl,p3,f3⟩)
 rotate_left
 ·exact DLeave.pan' (.inl ⟨24,_,w2 _ (Ev.mustE m3),q2.bad ⟨rfl,_,_,p3,rfl,f3⟩⟩)
 have q3:=q2.adv p3 f3
 have w3:=fun o h=>w2 o (Ev.must m3 h)
 simp -dsimp only [XZ,SZ,EZ,astep,aun,AVal.cells,seval]
 refine DRX.go rfl ?_
 simp -dsimp only [XZ,SZ,EZ,astep,aun,AVal.cells,seval]
 have hN3:rem ts (adv s2)≤N:=by have:=g2.at_; unfold rem at hN1 ⊢; simp only [adv]; omega
 refine (u84 ht hx _ hN3 _ _ q3.pr).mono ?_
 rintro o H4 (⟨e,p,ev4,rfl,b⟩ | ⟨a4,s4,D4,ev4,rfl,ha4,g4⟩)
 ·exact DLeave.pan' (.inl ⟨e,p,w3 _ (Ev.callE ev4),q3.bad ⟨rfl,b⟩⟩)
 have q4:=q3.trans g4
 have w4:=fun o h=>w3 o (Ev.call ev4 h)
 simp -dsimp only [XZ,SZ,EZ,astep,aun,AVal.cells,seval]
 have b4:=((b1.fr g2.fr).fr f3).fr g4.fr
 obtain ⟨H5,e5,k5,q5,r5,n5⟩:=q4.two (.cells 3 [.int .i64 (a2:Nat),.int .i64 (a4:Nat)])
 have b5:=b4.gro k5
 have hfl:afill [.int .i64 0,.int .i64 0] [(0,1,.int .i64 (a2:Nat)),(1,1,.int .i64 (a4:Nat))]=some [.int .i64 (a2:Nat),.int .i64 (a4:Nat)]:=rfl
 have hr5:RowI H5 (.sl H4.next 0 2 (some 2)) [a2,a4]:=.inr ⟨H4.next,some 2,rfl,r5.get⟩
 have nb6:∀ j,rid (.sl H4.next 0 2 (some 2))=some j→j≠bn:=fun j hj e=>by simp only [rid,Option.some.injEq] at hj; have:=b4.lt; omega
 obtain ⟨Ha6,sa6,qa6,ba6,oa6,fa6,_⟩:=q5.put b5 0 (.int .i64 15) (by show 0 < 6; omega) ⟨rfl,rfl⟩ (cs':=ndC .nils ⟨15,⟨#[]⟩,0,0,[],p⟩) rfl
 have hra6:RowI Ha6 (.sl H4.next 0 2 (some 2)) ([a2,a4]):=(hr5).frame fun j hj=>fa6 j (nb6 j hj)
 obtain ⟨H6,sb6,q6,b6,ob6,fb6,_⟩:=qa6.put ba6 4 (.sl H4.next 0 2 (some 2)) (by show 4 < 6; omega) (ndone hra6) (cs':=ndC (.sl H4.next 0 2 (some 2)) ⟨15,⟨#[]⟩,0,0,[a2,a4],p⟩) rfl
 have hr6:RowI H6 (.sl H4.next 0 2 (some 2)) ([a2,a4]):=hra6.frame fun j hj=>fb6 j (nb6 j hj)
 have w6:=w4
 simp -dsimp only [XZ,SZ,EZ,astep,aun,AVal.cells,seval,Env.parts,hfl,e5,sa6,sb6]
 refine DRX.go rfl ?_
 simp -dsimp only [XZ,SZ,EZ,astep,aun,AVal.cells,seval]
 have vn:(∀ j,rid (.sl H4.next 0 2 (some 2))=some j→H.next≤j)∧∀ j,rid (.sl H4.next 0 2 (some 2))=some j→¬ D4 j:=⟨fun j hj=>by simp only [rid,Option.some.injEq] at hj; have:=r5.new; omega,fun j hj=>by simp only [rid,Option.some.injEq] at hj; subst hj; exact r5.no⟩
 refine (g34 (s:=w_end) q6.pr ht).mono ?_
 rintro o H7 (⟨m7,rfl,p7,f7⟩ | ⟨m7,rfl,p7,f7⟩)
 rotate_left
 ·exact DLeave.pan' (.inl ⟨24,_,w6 _ (Ev.mustE m7),q6.bad ⟨rfl,_,_,p7,rfl,f7⟩⟩)
 have q7:=q6.adv p7 f7
 have w7:=fun o h=>w6 o (Ev.must m7 h)
 simp -dsimp only [XZ,SZ,EZ,astep,aun,AVal.cells,seval]
 obtain ⟨hr7,hvd7⟩:=hr6.fr f7 vn.2
 refine DRX.nm rfl ?_
 exact other28 q7 (b6.fr f7) hr7 ⟨vn.1,hvd7⟩ w7
theorem other23 (ht:TOk ts) (hx:Upto ts pid 67 .expr N) (hN1:rem ts s1≤N) (q1:Good1 ts pid H D st s1 H1 D1) (b1:Prv H H1 D1 bn (.cells 42 (ndC .nils (node 0 [] p)))) (w1:∀ o,Ev ts (callD (.fun_ (node 0 [] p)) s1 fun n st2=>outO n st2) o→Ev ts t o) :
  DRX Tryd.prog (kof k82) 86 [.code (.region false r82_23 [0,3]),.inBlock 0,.code rest82] [] [(0,.ptr pid 0),(3,.ptr bn 0)] H1 (fun e ds T' H'=>DLeave Tryd.prog [.tmp 4] ds e T' H' (PostN ts pid H D st t)):=by
 have l1:=load_all (n:=6) b1.get rfl
 refine DRX.go rfl ?_
 simp -dsimp only [XZ,SZ,EZ,astep,aun,AVal.cells,seval,l1]
 refine (u85 ht hx hN1 q1.pr).mono ?_
 rintro o H2 (⟨e,p',ev2,rfl,b⟩ | ⟨a2,s2,D2,ev2,v2,rfl,hv2,hvn2,hvd2,g2⟩)
 ·exact DLeave.pan' (.inl ⟨e,p',w1 _ (Ev.callE ev2),q1.bad ⟨rfl,b⟩⟩)
 have q2:=q1.trans g2
 have w2:=fun o h=>w1 o (Ev.call ev2 h)
 have b2:=b1.fr g2.fr
 have nb3:∀ j,rid v2=some j→j≠bn:=fun j hj e=>by have:=hvn2 j hj; have:=b1.lt; omega
 have s3:=store_all (n:=6) b2.get (new:=ndC v2 a2) rfl (ones_nd hv2 _) rfl
 have q3:=q2.own b2.new b2.no (.cells 42 (ndC v2 a2))
 have b3:=b2.set (c:=.cells 42 (ndC v2 a2))
 have hr3:RowI (H2.set bn (.cells 42 (ndC v2 a2))) v2 a2.l:=hv2.frame fun j hj=>by rw [AHeap.get_set,if_neg (nb3 j hj)]
 simp -dsimp only [XZ,SZ,EZ,astep,aun,AVal.cells,seval,s3]
 refine DRX.nm rfl ?_
 exact other28 q3 b3 hr3 ⟨fun j hj=>Nat.le_trans q1.fr.1 (hvn2 j hj),hvd2⟩ w2
theorem other25 (ht:TOk ts) (hx:Upto ts pid 67 .expr N) (hN1:rem ts s1≤N) (q1:Good1 ts pid H D st s1 H1 D1) (b1:Prv H H1 D1 bn (.cells 42 (ndC .nils (node 0 [] p)))) (w1:∀ o,Ev ts (callD (.try_ (node 0 [] p)) s1 fun n st2=>outO n st2) o→Ev ts t o) :
  DRX Tryd.prog (kof k82) 86 [.code (.region false r82_25 [0,3]),.inBlock 0,.code rest82] [] [(0,.ptr pid 0),(3,.ptr bn 0)] H1 (fun e ds T' H'=>DLeave Tryd.prog [.tmp 4] ds e T' H' (PostN ts pid H D st t)):=by
 have l1:=load_all (n:=6) b1.get rfl
 refine DRX.go rfl ?_
 simp -dsimp only [XZ,SZ,EZ,astep,aun,AVal.cells,seval,l1]
 refine (u86 ht hx hN1 q1.pr).mono ?_
 rintro o H2 (⟨e,p',ev2,rfl,b⟩ | ⟨a2,s2,D2,ev2,v2,rfl,hv2,hvn2,hvd2,g2⟩)
 ·exact DLeave.pan' (.inl ⟨e,p',w1 _ (Ev.callE ev2),q1.bad ⟨rfl,b⟩⟩)
 have q2:=q1.trans g2
 have w2:=fun o h=>w1 o (Ev.call ev2 h)
 have b2:=b1.fr g2.fr
 have nb3:∀ j,rid v2=some j→j≠bn:=fun j hj e=>by have:=hvn2 j hj; have:=b1.lt; omega
 have s3:=store_all (n:=6) b2.get (new:=ndC v2 a2) rfl (ones_nd hv2 _) rfl
 have q3:=q2.own b2.new b2.no (.cells 42 (ndC v2 a2))
 have b3:=b2.set (c:=.cells 42 (ndC v2 a2))
 have hr3:RowI (H2.set bn (.cells 42 (ndC v2 a2))) v2 a2.l:=hv2.frame fun j hj=>by rw [AHeap.get_set,if_neg (nb3 j hj)]
 simp -dsimp only [XZ,SZ,EZ,astep,aun,AVal.cells,seval,s3]
 refine DRX.nm rfl ?_
 exact other28 q3 b3 hr3 ⟨fun j hj=>Nat.le_trans q1.fr.1 (hvn2 j hj),hvd2⟩ w2
theorem other27 (ht:TOk ts) (hx:Upto ts pid 67 .expr N) (hN1:rem ts s1≤N) (q1:Good1 ts pid H D st s1 H1 D1) (b1:Prv H H1 D1 bn (.cells 42 (ndC .nils (node 0 [] p)))) (w1:∀ o,Ev ts (callD (.receive (node 0 [] p)) s1 fun n st2=>outO n st2) o→Ev ts t o) :
  DRX Tryd.prog (kof k82) 86 [.code (.region false r82_27 [0,3]),.inBlock 0,.code rest82] [] [(0,.ptr pid 0),(3,.ptr bn 0)] H1 (fun e ds T' H'=>DLeave Tryd.prog [.tmp 4] ds e T' H' (PostN ts pid H D st t)):=by
 have l1:=load_all (n:=6) b1.get rfl
 refine DRX.go rfl ?_
 simp -dsimp only [XZ,SZ,EZ,astep,aun,AVal.cells,seval,l1]
 refine (u87 ht hx hN1 q1.pr).mono ?_
 rintro o H2 (⟨e,p',ev2,rfl,b⟩ | ⟨a2,s2,D2,ev2,v2,rfl,hv2,hvn2,hvd2,g2⟩)
 ·exact DLeave.pan' (.inl ⟨e,p',w1 _ (Ev.callE ev2),q1.bad ⟨rfl,b⟩⟩)
 have q2:=q1.trans g2
 have w2:=fun o h=>w1 o (Ev.call ev2 h)
 have b2:=b1.fr g2.fr
 have nb3:∀ j,rid v2=some j→j≠bn:=fun j hj e=>by have:=hvn2 j hj; have:=b1.lt; omega
 have s3:=store_all (n:=6) b2.get (new:=ndC v2 a2) rfl (ones_nd hv2 _) rfl
 have q3:=q2.own b2.new b2.no (.cells 42 (ndC v2 a2))
 have b3:=b2.set (c:=.cells 42 (ndC v2 a2))
 have hr3:RowI (H2.set bn (.cells 42 (ndC v2 a2))) v2 a2.l:=hv2.frame fun j hj=>by rw [AHeap.get_set,if_neg (nb3 j hj)]
 simp -dsimp only [XZ,SZ,EZ,astep,aun,AVal.cells,seval,s3]
 refine DRX.nm rfl ?_
 exact other28 q3 b3 hr3 ⟨fun j hj=>Nat.le_trans q1.fr.1 (hvn2 j hj),hvd2⟩ w2
end
end
end Go.Am.Rl
namespace Go.Am.Rl
open Go.Proofs
section
variable {ts:List TK} {H:AHeap} {pid:Nat} {st:PS} {D:Nat→Prop} {s1 s2:PS} {H1 H2:AHeap} {D1 D2:Nat→Prop} {bn br bt:Nat} {v:AVal} {n:ND}
abbrev chain7:ACode:=.seq (.region false r82_26 [0,3,78]) (.cond (.t 78) (.region false r82_27 [0,3]) .skip)
def chainI7 (ts:List TK) (s:ByteArray) (p:Int) (s1:PS):IT:=if seq s w_receive=true then (callD (.receive (node 0 [] p)) s1 fun n st2=>outO n st2) else outO (node 0 [] p) s1
abbrev chain6:ACode:=.seq (.region false r82_24 [0,3,23,73]) (.cond (.t 73) (.region false r82_25 [0,3]) chain7)
def chainI6 (ts:List TK) (s:ByteArray) (p:Int) (s1:PS):IT:=if seq s w_try=true then (callD (.try_ (node 0 [] p)) s1 fun n st2=>outO n st2) else chainI7 ts s p s1
abbrev chain5:ACode:=.seq (.region false r82_22 [0,3,23,68]) (.cond (.t 68) (.region false r82_23 [0,3]) chain6)
def chainI5 (ts:List TK) (s:ByteArray) (p:Int) (s1:PS):IT:=if seq s w_fun=true then (callD (.fun_ (node 0 [] p)) s1 fun n st2=>outO n st2) else chainI6 ts s p s1
abbrev chain4:ACode:=.seq (.region false r82_17 [0,3,23,54]) (.cond (.t 54) (.seq (.region false r82_18 [0,3,7]) (.seq (.region false r82_19 [0,3,7]) (.seq (.region false r82_20 [0,3]) (.region false r82_21 [0,3])))) chain5)
def chainI4 (ts:List TK) (s:ByteArray) (p:Int) (s1:PS):IT:=if seq s w_case=true then (callN .expr s1 fun x st2=>must ts st2 w_of fun st3=>callN .clauses st3 fun c st4=>must ts st4 w_end fun st5=>outO ⟨15,⟨#[]⟩,0,0,[x,c],p⟩ st5) else chainI5 ts s p s1
abbrev chain3:ACode:=.seq (.region false r82_14 [0,3,23,46]) (.cond (.t 46) (.seq (.region false r82_15 [0,3]) (.region false r82_16 [0,3])) chain4)
def chainI3 (ts:List TK) (s:ByteArray) (p:Int) (s1:PS):IT:=if seq s w_begin=true then (callL .exprs s1 fun l st2=>must ts st2 w_end fun st3=>outO ⟨19,⟨#[]⟩,0,0,l,p⟩ st3) else chainI4 ts s p s1
abbrev chain2:ACode:=.seq (.region false r82_12 [0,3,23,37]) (.cond (.t 37) (.region false r82_13 [0,3]) chain3)
def chainI2 (ts:List TK) (s:ByteArray) (p:Int) (s1:PS):IT:=if seq s w_lk=true then (.call .elements s1 fun v st2=>match v with | .e k l=>outO ⟨k,⟨#[]⟩,0,0,l,p⟩ st2 | _=>.fail 0 0) else chainI3 ts s p s1
abbrev chain1:ACode:=.seq (.region false r82_10 [0,3,23,31]) (.cond (.t 31) (.region false r82_11 [0,3]) chain2)
def chainI1 (ts:List TK) (s:ByteArray) (p:Int) (s1:PS):IT:=if seq s w_lb=true then (callL (.list w_rb 0) s1 fun l st2=>outO ⟨6,⟨#[]⟩,0,0,l,p⟩ st2) else chainI2 ts s p s1
def chainI0 (ts:List TK) (s:ByteArray) (p:Int) (s1:PS):IT:=if seq s w_lp=true then (callN .expr s1 fun a st2=>must ts st2 w_rp fun st3=>.done (.n a) st3) else chainI1 ts s p s1
theorem ochain7 {N:Nat} {p:Int} {t:IT} {s:ByteArray} (ht:TOk ts) (hx:Upto ts pid 67 .expr N) (hN1:rem ts s1≤N) (q1:Good1 ts pid H D st s1 H1 D1) (b1:Prv H H1 D1 bn (.cells 42 (ndC .nils (node 0 [] p)))) (w1:∀ o,Ev ts (chainI7 ts s p s1) o→Ev ts t o) :
  DRX Tryd.prog (kof k82) 86 [.code chain7,.inBlock 0,.code rest82] [] [(0,.ptr pid 0),(3,.ptr bn 0),(23,.str s)] H1 (fun e ds T' H'=>DLeave Tryd.prog [.tmp 4] ds e T' H' (PostN ts pid H D st t)):=by
 unfold chainI7 at w1
 cases hc:seq s w_receive with
 | true=>
  have w2:=fun o h=>w1 o (Ev.t hc h)
  unfold seq at hc
  refine DRX.go rfl ?_
  simp -dsimp only [XZ,SZ,EZ,astep,aun,AVal.cells,seval,abin,hc]
  refine DRX.ye rfl rfl ?_
  exact DRX.only [0,3] (other27 ht hx hN1 q1 b1 w2)
 | false=>
  have w2:=fun o h=>w1 o (Ev.f hc h)
  unfold seq at hc
  refine DRX.go rfl ?_
  simp -dsimp only [XZ,SZ,EZ,astep,aun,AVal.cells,seval,abin,hc]
  refine DRX.ne rfl rfl ?_
  refine DRX.nm rfl ?_
  exact DRX.only [0,3] (other28 q1 b1 (.inl ⟨rfl,rfl⟩) ⟨fun j hj=>(by cases hj),fun j hj=>(by cases hj)⟩ w2)
theorem ochain6 {N:Nat} {p:Int} {t:IT} {s:ByteArray} (ht:TOk ts) (hx:Upto ts pid 67 .expr N) (hN1:rem ts s1≤N) (q1:Good1 ts pid H D st s1 H1 D1) (b1:Prv H H1 D1 bn (.cells 42 (ndC .nils (node 0 [] p)))) (w1:∀ o,Ev ts (chainI6 ts s p s1) o→Ev ts t o) :
  DRX Tryd.prog (kof k82) 86 [.code chain6,.inBlock 0,.code rest82] [] [(0,.ptr pid 0),(3,.ptr bn 0),(23,.str s)] H1 (fun e ds T' H'=>DLeave Tryd.prog [.tmp 4] ds e T' H' (PostN ts pid H D st t)):=by
 unfold chainI6 at w1
 cases hc:seq s w_try with
 | true=>
  have w2:=fun o h=>w1 o (Ev.t hc h)
  unfold seq at hc
  refine DRX.go rfl ?_
  simp -dsimp only [XZ,SZ,EZ,astep,aun,AVal.cells,seval,abin,hc]
  refine DRX.ye rfl rfl ?_
  exact DRX.only [0,3] (other25 ht hx hN1 q1 b1 w2)
 | false=>
  have w2:=fun o h=>w1 o (Ev.f hc h)
  unfold seq at hc
  refine DRX.go rfl ?_
  simp -dsimp only [XZ,SZ,EZ,astep,aun,AVal.cells,seval,abin,hc]
  refine DRX.ne rfl rfl ?_
  exact DRX.only [0,3,23] (ochain7 ht hx hN1 q1 b1 w2)
theorem ochain5 {N:Nat} {p:Int} {t:IT} {s:ByteArray} (ht:TOk ts) (hx:Upto ts pid 67 .expr N) (hN1:rem ts s1≤N) (q1:Good1 ts pid H D st s1 H1 D1) (b1:Prv H H1 D1 bn (.cells 42 (ndC .nils (node 0 [] p)))) (w1:∀ o,Ev ts (chainI5 ts s p s1) o→Ev ts t o) :
  DRX Tryd.prog (kof k82) 86 [.code chain5,.inBlock 0,.code rest82] [] [(0,.ptr pid 0),(3,.ptr bn 0),(23,.str s)] H1 (fun e ds T' H'=>DLeave Tryd.prog [.tmp 4] ds e T' H' (PostN ts pid H D st t)):=by
 unfold chainI5 at w1
 cases hc:seq s w_fun with
 | true=>
  have w2:=fun o h=>w1 o (Ev.t hc h)
  unfold seq at hc
  refine DRX.go rfl ?_
  simp -dsimp only [XZ,SZ,EZ,astep,aun,AVal.cells,seval,abin,hc]
  refine DRX.ye rfl rfl ?_
  exact DRX.only [0,3] (other23 ht hx hN1 q1 b1 w2)
 | false=>
  have w2:=fun o h=>w1 o (Ev.f hc h)
  unfold seq at hc
  refine DRX.go rfl ?_
  simp -dsimp only [XZ,SZ,EZ,astep,aun,AVal.cells,seval,abin,hc]
  refine DRX.ne rfl rfl ?_
  exact DRX.only [0,3,23] (ochain6 ht hx hN1 q1 b1 w2)
theorem ochain4 {N:Nat} {p:Int} {t:IT} {s:ByteArray} (ht:TOk ts) (hx:Upto ts pid 67 .expr N) (hN1:rem ts s1≤N) (q1:Good1 ts pid H D st s1 H1 D1) (b1:Prv H H1 D1 bn (.cells 42 (ndC .nils (node 0 [] p)))) (w1:∀ o,Ev ts (chainI4 ts s p s1) o→Ev ts t o) :
  DRX Tryd.prog (kof k82) 86 [.code chain4,.inBlock 0,.code rest82] [] [(0,.ptr pid 0),(3,.ptr bn 0),(23,.str s)] H1 (fun e ds T' H'=>DLeave Tryd.prog [.tmp 4] ds e T' H' (PostN ts pid H D st t)):=by
 unfold chainI4 at w1
 cases hc:seq s w_case with
 | true=>
  have w2:=fun o h=>w1 o (Ev.t hc h)
  unfold seq at hc
  refine DRX.go rfl ?_
  simp -dsimp only [XZ,SZ,EZ,astep,aun,AVal.cells,seval,abin,hc]
  refine DRX.ye rfl rfl ?_
  exact DRX.only [0,3] (other18 ht hx hN1 q1 b1 w2)
 | false=>
  have w2:=fun o h=>w1 o (Ev.f hc h)
  unfold seq at hc
  refine DRX.go rfl ?_
  simp -dsimp only [XZ,SZ,EZ,astep,aun,AVal.cells,seval,abin,hc]
  refine DRX.ne rfl rfl ?_
  exact DRX.only [0,3,23] (ochain5 ht hx hN1 q1 b1 w2)
theorem ochain3 {N:Nat} {p:Int} {t:IT} {s:ByteArray} (ht:TOk ts) (hx:Upto ts pid 67 .expr N) (hN1:rem ts s1≤N) (q1:Good1 ts pid H D st s1 H1 D1) (b1:Prv H H1 D1 bn (.cells 42 (ndC .nils (node 0 [] p)))) (w1:∀ o,Ev ts (chainI3 ts s p s1) o→Ev ts t o) :
  DRX Tryd.prog (kof k82) 86 [.code chain3,.inBlock 0,.code rest82] [] [(0,.ptr pid 0),(3,.ptr bn 0),(23,.str s)] H1 (fun e ds T' H'=>DLeave Tryd.prog [.tmp 4] ds e T' H' (PostN ts pid H D st t)):=by
 unfold chainI3 at w1
 cases hc:seq s w_begin with
 | true=>
  have w2:=fun o h=>w1 o (Ev.t hc h)
  unfold seq at hc
  refine DRX.go rfl ?_
  simp -dsimp only [XZ,SZ,EZ,astep,aun,AVal.cells,seval,abin,hc]
  refine DRX.ye rfl rfl ?_
  exact DRX.only [0,3] (other15 ht hx hN1 q1 b1 w2)
 | false=>
  have w2:=fun o h=>w1 o (Ev.f hc h)
  unfold seq at hc
  refine DRX.go rfl ?_
  simp -dsimp only [XZ,SZ,EZ,astep,aun,AVal.cells,seval,abin,hc]
  refine DRX.ne rfl rfl ?_
  exact DRX.only [0,3,23] (ochain4 ht hx hN1 q1 b1 w2)
theorem ochain2 {N:Nat} {p:Int} {t:IT} {s:ByteArray} (ht:TOk ts) (hx:Upto ts pid 67 .expr N) (hN1:rem ts s1≤N) (q1:Good1 ts pid H D st s1 H1 D1) (b1:Prv H H1 D1 bn (.cells 42 (ndC .nils (node 0 [] p)))) (w1:∀ o,Ev ts (chainI2 ts s p s1) o→Ev ts t o) :
  DRX Tryd.prog (kof k82) 86 [.code chain2,.inBlock 0,.code rest82] [] [(0,.ptr pid 0),(3,.ptr bn 0),(23,.str s)] H1 (fun e ds T' H'=>DLeave Tryd.prog [.tmp 4] ds e T' H' (PostN ts pid H D st t)):=by
 unfold chainI2 at w1
 cases hc:seq s w_lk with
 | true=>
  have w2:=fun o h=>w1 o (Ev.t hc h)
  unfold seq at hc
  refine DRX.go rfl ?_
  simp -dsimp only [XZ,SZ,EZ,astep,aun,AVal.cells,seval,abin,hc]
  refine DRX.ye rfl rfl ?_
  exact DRX.only [0,3] (other13 ht hx hN1 q1 b1 w2)
 | false=>
  have w2:=fun o h=>w1 o (Ev.f hc h)
  unfold seq at hc
  refine DRX.go rfl ?_
  simp -dsimp only [XZ,SZ,EZ,astep,aun,AVal.cells,seval,abin,hc]
  refine DRX.ne rfl rfl ?_
  exact DRX.only [0,3,23] (ochain3 ht hx hN1 q1 b1 w2)
theorem ochain1 {N:Nat} {p:Int} {t:IT} {s:ByteArray} (ht:TOk ts) (hx:Upto ts pid 67 .expr N) (hN1:rem ts s1≤N) (q1:Good1 ts pid H D st s1 H1 D1) (b1:Prv H H1 D1 bn (.cells 42 (ndC .nils (node 0 [] p)))) (w1:∀ o,Ev ts (chainI1 ts s p s1) o→Ev ts t o) :
  DRX Tryd.prog (kof k82) 86 [.code chain1,.inBlock 0,.code rest82] [] [(0,.ptr pid 0),(3,.ptr bn 0),(23,.str s)] H1 (fun e ds T' H'=>DLeave Tryd.prog [.tmp 4] ds e T' H' (PostN ts pid H D st t)):=by
 unfold chainI1 at w1
 cases hc:seq s w_lb with
 | true=>
  have w2:=fun o h=>w1 o (Ev.t hc h)
  unfold seq at hc
  refine DRX.go rfl ?_
  simp -dsimp only [XZ,SZ,EZ,astep,aun,AVal.cells,seval,abin,hc]
  refine DRX.ye rfl rfl ?_
  exact DRX.only [0,3] (other11 ht hx hN1 q1 b1 w2)
 | false=>
  have w2:=fun o h=>w1 o (Ev.f hc h)
  unfold seq at hc
  refine DRX.go rfl ?_
  simp -dsimp only [XZ,SZ,EZ,astep,aun,AVal.cells,seval,abin,hc]
  refine DRX.ne rfl rfl ?_
  exact DRX.only [0,3,23] (ochain2 ht hx hN1 q1 b1 w2)
theorem ochain0 {N:Nat} {p:Int} {t:IT} {s:ByteArray} (ht:TOk ts) (hx:Upto ts pid 67 .expr N) (hN1:rem ts s1≤N) (q1:Good1 ts pid H D st s1 H1 D1) (b1:Prv H H1 D1 bn (.cells 42 (ndC .nils (node 0 [] p)))) (w1:∀ o,Ev ts (chainI0 ts s p s1) o→Ev ts t o) :
  DRX Tryd.prog (kof k82) 86 [.code (.region false r82_6 [0,3,23,24]),.code (.cond (.t 24) (.seq (.region false r82_7 [0,6]) (.seq (.region false r82_8 [6]) (.seq (.region false r82_9 [4]) .ret))) chain1),.inBlock 0,.code rest82] [] [(0,.ptr pid 0),(3,.ptr bn 0),(23,.str s)] H1 (fun e ds T' H'=>DLeave Tryd.prog [.tmp 4] ds e T' H' (PostN ts pid H D st t)):=by
 unfold chainI0 at w1
 cases hc:seq s w_lp with
 | true=>
  have w2:=fun o h=>w1 o (Ev.t hc h)
  unfold seq at hc
  refine DRX.go rfl ?_
  simp -dsimp only [XZ,SZ,EZ,astep,aun,AVal.cells,seval,abin,hc]
  refine DRX.ye rfl rfl ?_
  exact DRX.only [0,3] (other7 ht hx hN1 q1 b1 w2)
 | false=>
  have w2:=fun o h=>w1 o (Ev.f hc h)
  unfold seq at hc
  refine DRX.go rfl ?_
  simp -dsimp only [XZ,SZ,EZ,astep,aun,AVal.cells,seval,abin,hc]
  refine DRX.ne rfl rfl ?_
  exact DRX.only [0,3,23] (ochain1 ht hx hN1 q1 b1 w2)
theorem u82 {p:Int} (ht:TOk ts) (hx:∀ n,n < rem ts st→Upto ts pid 67 .expr n) (hp:PR ts H pid st D):DCallX Tryd.prog 82 [.ptr pid 0,.agg (ndC .nils (node 0 [] p))] H (PostN ts pid H D st (rule ts (.other (node 0 [] p)) st)):=by
 refine DCallX.of_body (fn:=Tryd.f82) (by kernel_rfl) c82 (by kernel_rfl) (by simp [f82]) ?_
 unfold f82
 simp only []
 have q0:=Good1.refl hp
 have w0:=fun o (h:Ev ts (rule ts (.other (node 0 [] p)) st) o)=>h
 have hcc:(AVal.agg (ndC .nils (node 0 [] p))).cells=ndC .nils (node 0 [] p):=rfl
 obtain ⟨H1,e1,k1,q1,b1,n1⟩:=q0.two (.cells 42 (ndC .nils (node 0 [] p)))
 refine DRX.go rfl ?_
 simp -dsimp only [XZ,SZ,EZ,astep,aun,AVal.cells,seval,hcc,e1]
 obtain ⟨H2,e2⟩:∃ H2,H1.push (.cells 9 [.str ⟨#[40]⟩,.str ⟨#[123]⟩,.str ⟨#[91]⟩,.str ⟨#[98,101,103,105,110]⟩,.str ⟨#[99,97,115,101]⟩,.str ⟨#[102,117,110]⟩,.str ⟨#[116,114,121]⟩,.str ⟨#[114,101,99,101,105,118,101]⟩])=H2:=⟨_,rfl⟩
 obtain ⟨hs2,k2⟩:=rowS (l:=[w_lp,w_lb,w_lk,w_begin,w_case,w_fun,w_try,w_receive]) e2
 have hf1:afill [.str ⟨#[]⟩,.str ⟨#[]⟩,.str ⟨#[]⟩,.str ⟨#[]⟩,.str ⟨#[]⟩,.str ⟨#[]⟩,.str ⟨#[]⟩,.str ⟨#[]⟩] [(0,1,.str ⟨#[40]⟩),(1,1,.str ⟨#[123]⟩),(2,1,.str ⟨#[91]⟩),(3,1,.str ⟨#[98,101,103,105,110]⟩),(4,1,.str ⟨#[99,97,115,101]⟩),(5,1,.str ⟨#[102,117,110]⟩),(6,1,.str ⟨#[116,114,121]⟩),(7,1,.str ⟨#[114,101,99,101,105,118,101]⟩)]=some [.str ⟨#[40]⟩,.str ⟨#[123]⟩,.str ⟨#[91]⟩,.str ⟨#[98,101,103,105,110]⟩,.str ⟨#[99,97,115,101]⟩,.str ⟨#[102,117,110]⟩,.str ⟨#[116,114,121]⟩,.str ⟨#[114,101,99,101,105,118,101]⟩]:=rfl
 have q2:=q1.gro k2
 have b2:=b1.gro k2
 have w2:∀ o,Ev ts (if seq (anyS ts st [w_lp,w_lb,w_lk,w_begin,w_case,w_fun,w_try,w_receive]) empty=true then .fail 24 p else chainI0 ts (anyS ts st [w_lp,w_lb,w_lk,w_begin,w_case,w_fun,w_try,w_receive]) p (adv st)) o→Ev ts (rule ts (.other (node 0 [] p)) st) o:=fun o h=>h
 refine DRX.go rfl ?_
 simp -dsimp only [XZ,SZ,EZ,astep,aun,AVal.cells,seval,Env.vals,Env.parts,hf1,e2]
 have hn2:∀ j,rid (.sl H1.next 0 8 (some 8))=some j→¬ D j:=(q1.fresh (n:=H1.next) (c:=8) (Nat.le_refl _)).2
 refine DCall.monoX (g70 q2.pr hs2 (by decide)) ?_
 rintro a H3 ⟨rfl,h3⟩
 simp -dsimp only [XZ,SZ,EZ,astep,aun,AVal.cells,seval]
 have q3:=q2.gro h3
 have b3:=b2.gro h3
 cases hc:seq (anyS ts st [w_lp,w_lb,w_lk,w_begin,w_case,w_fun,w_try,w_receive]) empty with
 | true=>
  have w3:=fun o h=>w2 o (Ev.t hc h)
  unfold seq empty at hc
  have lp:=load_cell b3.get (o:=5) (v:=.int .i64 p) rfl
  refine DRX.go rfl ?_
  simp -dsimp only [XZ,SZ,EZ,astep,aun,AVal.cells,seval,abin,hc]
  refine DRX.ye rfl rfl ?_
  refine DRX.go rfl ?_
  simp -dsimp only [XZ,SZ,EZ,astep,aun,AVal.cells,seval,lp]
  refine (g36 H3 24 _).mono ?_
  rintro o H4 ⟨rfl,rfl⟩
  exact DLeave.pan' (.inl ⟨24,_,w3 _ .fail,q3.bad ⟨rfl,_,_,q3.pr,rfl,Fr.refl _ _⟩⟩)
 | false=>
  have w3:=fun o h=>w2 o (Ev.f hc h)
  have hmid:=anyS_mid hc
  unfold seq empty at hc
  refine DRX.go rfl ?_
  simp -dsimp only [XZ,SZ,EZ,astep,aun,AVal.cells,seval,abin,hc]
  refine DRX.ne rfl rfl ?_
  obtain ⟨l4,hw4,H4,e4,p4,f4⟩:=q3.pr.step ht (hmid)
  have q4:=q3.adv p4 f4
  have w4:=w3
  have b4:=b3.fr f4
  refine DRX.go rfl ?_
  simp -dsimp only [XZ,SZ,EZ,astep,aun,AVal.cells,seval,l4,abin,hw4,e4]
  refine DRX.go rfl ?_
  simp -dsimp only [XZ,SZ,EZ,astep,aun,AVal.cells,seval]
  refine DRX.nm rfl ?_
  have hlt:rem ts (adv st) < rem ts st:=by have:=q4.pr.lt; unfold rem; simp only [adv] at *; omega
  exact ochain0 ht (hx _ hlt) (Nat.le_refl _) q4 b4 w4
end
end Go.Am.Rl
namespace Go.Am.Rl
open Go.Proofs
section
variable {ts:List TK} {H:AHeap} {pid:Nat} {st:PS} {D:Nat→Prop} {s1 s2:PS} {H1 H2:AHeap} {D1 D2:Nat→Prop} {bn br bt:Nat} {v:AVal} {n:ND}
theorem prim15 {t:IT} (ht:TOk ts) (hk:(tk ts st.at_).k≠8) (q1:Good1 ts pid H D st st H1 D1) (b1:Prv H H1 D1 bn (.cells 42 (ndC .nils n))) (hn:n.l=[]) (w1:∀ o,Ev ts (lay (adv st) n fun i st1=>.done (.n i) st1) o→Ev ts t o) :
  DRX Tryd.prog (kof k81) 55 [.code (.region false r81_15 [0,4]),.code (.seq (.region false r81_16 [2]) .ret)] [] [(0,.ptr pid 0),(4,.ptr bn 0)] H1 (fun e ds T' H'=>DLeave Tryd.prog [.tmp 2] ds e T' H' (PostN ts pid H D st t)):=by
 obtain ⟨l2,hw2,H2,e2,p2,f2⟩:=q1.pr.step ht (hk)
 have q2:=q1.adv p2 f2
 have w2:=w1
 have b2:=b1.fr f2
 have ll:=load_all (n:=6) b2.get rfl
 refine DRX.go rfl ?_
 simp -dsimp only [XZ,SZ,EZ,astep,aun,AVal.cells,seval,l2,abin,hw2,e2]
 refine DRX.go rfl ?_
 simp -dsimp only [XZ,SZ,EZ,astep,aun,AVal.cells,seval,ll]
 have vn:(∀ j,rid .nils=some j→H.next≤j)∧∀ j,rid .nils=some j→¬ D1 j:=⟨fun j hj=>(by cases hj),fun j hj=>(by cases hj)⟩
 refine (g39 (v:=.nils) (n:=n) q2.pr (.inl ⟨rfl,hn⟩) (vn).2).mono ?_
 rintro o H3 (⟨m3,rfl,p3,f3⟩ | ⟨m3,rfl,D3,p3,n3,f3,d3⟩)
 ·exact DLeave.pan' (.inl ⟨2,_,w2 _ (Ev.layE m3),q2.bad ⟨rfl,_,_,p3,rfl,f3⟩⟩)
 have q3:=q2.lay (vn).1 p3 n3 f3 d3
 have w3:=fun o h=>w2 o (Ev.lay m3 h)
 simp -dsimp only [XZ,SZ,EZ,astep,aun,AVal.cells,seval]
 refine DRX.nm rfl ?_
 exact DRX.retv ⟨_,by simp [aresult,ares,Env.get] <;> rfl,.inr ⟨_,_,D3,w3 _ .done,rfl,by simp,q3⟩⟩
abbrev rest81:ACode:=.seq (.region false r81_15 [0,4]) (.seq (.region false r81_16 [2]) .ret)
abbrev prim4c:ACode:=.seq (.region false r81_13 [0,3,4,39]) (.cond (.t 39) (.region true r81_14 [0,4]) (.seq (.region false r81_4 [2]) .ret))
def prim4I (ts:List TK) (st:PS):IT:=if ((tk ts st.at_).k==5)=true then (lay (adv st) ⟨5,(tk ts st.at_).s,0,0,[],(tk ts st.at_).p⟩ fun i st1=>.done (.n i) st1) else pass1 (.other (node 0 [] (tk ts st.at_).p)) st
abbrev prim3c:ACode:=.seq (.region false r81_11 [0,3,4,11,33]) (.cond (.t 33) (.region true r81_12 [0,4]) prim4c)
def prim3I (ts:List TK) (st:PS):IT:=if ((tk ts st.at_).k==2)=true then (lay (adv st) ⟨4,(tk ts st.at_).s,0,0,[],(tk ts st.at_).p⟩ fun i st1=>.done (.n i) st1) else prim4I ts st
abbrev prim2c:ACode:=.seq (.region false r81_9 [0,3,4,11,27]) (.cond (.t 27) (.region true r81_10 [0,4]) prim3c)
def prim2I (ts:List TK) (st:PS):IT:=if ((tk ts st.at_).k==1)=true then (lay (adv st) ⟨3,(tk ts st.at_).s,0,0,[],(tk ts st.at_).p⟩ fun i st1=>.done (.n i) st1) else prim3I ts st
abbrev prim1c:ACode:=.seq (.region false r81_7 [0,3,4,11,21]) (.cond (.t 21) (.region true r81_8 [0,4]) prim2c)
def prim1I (ts:List TK) (st:PS):IT:=if ((tk ts st.at_).k==4)=true then (lay (adv st) ⟨2,empty,0,(tk ts st.at_).f,[],(tk ts st.at_).p⟩ fun i st1=>.done (.n i) st1) else prim2I ts st
def prim0I (ts:List TK) (st:PS):IT:=if ((tk ts st.at_).k==3)=true then (lay (adv st) ⟨1,empty,(tk ts st.at_).n,0,[],(tk ts st.at_).p⟩ fun i st1=>.done (.n i) st1) else prim1I ts st
theorem oprim4 {t:IT} (ht:TOk ts) (hx:∀ n,n < rem ts st→Upto ts pid 67 .expr n) (q1:Good1 ts pid H D st st H1 D1) (b1:Prv H H1 D1 bn (.cells 42 (ndC .nils (node 0 [] (tk ts st.at_).p)))) (t1:Prv H H1 D1 bt (.cells 31 (tk ts st.at_).cells)) (hne:bt≠bn) (w1:∀ o,Ev ts (prim4I ts st) o→Ev ts t o) :
  DRX Tryd.prog (kof k81) 55 [.code prim4c,.inBlock 0,.code rest81] [] [(0,.ptr pid 0),(3,.ptr bt 0),(4,.ptr bn 0),(11,.int .i64 (tk ts st.at_).k)] H1 (fun e ds T' H'=>DLeave Tryd.prog [.tmp 2] ds e T' H' (PostN ts pid H D st t)):=by
 unfold prim4I at w1
 cases hc:((tk ts st.at_).k==5) with
 | true=>
  have w2:=fun o h=>w1 o (Ev.t hc h)
  have hk8:(tk ts st.at_).k≠8:=by have:=eq_of_beq hc; omega
  have lt:=load_cell t1.get (o:=1) (v:=.str (tk ts st.at_).s) rfl
  obtain ⟨H2,s2,q2,b2,o2,_⟩:=q1.put b1 0 (.int .i64 5) (by show 0 < 6; omega) ⟨rfl,rfl⟩ (cs':=ndC .nils ⟨5,empty,0,0,[],(tk ts st.at_).p⟩) rfl
  have lt2:=load_cell (o2 _ _ hne t1).get (o:=1) (v:=.str (tk ts st.at_).s) rfl
  obtain ⟨H3,s3,q3,b3,o3,_⟩:=q2.put b2 1 (.str (tk ts st.at_).s) (by show 1 < 6; omega) ⟨rfl,rfl⟩ (cs':=ndC .nils ⟨5,(tk ts st.at_).s,0,0,[],(tk ts st.at_).p⟩) rfl
  refine DRX.go rfl ?_
  simp -dsimp only [XZ,SZ,EZ,astep,aun,AVal.cells,seval,abin,hc]
  refine DRX.ye rfl rfl ?_
  refine DRX.nm rfl ?_
  refine DRX.draw (by kernel_rfl) d81_14 ?_
  simp -dsimp only [m81_14,YZ,XZ,SZ,EZ,astep,aun,AVal.cells,seval,DS_nil,DS_cons,seesAll,staysAll,abit,List.getD_cons_zero,List.getD_cons_succ,AOp.quiet,AOp.reads,true_and,and_true,decide_true,decide_false,and_self,lt,s2,lt2,s3]
  refine DRX.nm rfl ?_
  exact prim15 ht hk8 q3 b3 rfl w2
 | false=>
  have w2:=fun o h=>w1 o (Ev.f hc h)
  refine DRX.go rfl ?_
  simp -dsimp only [XZ,SZ,EZ,astep,aun,AVal.cells,seval,abin,hc]
  refine DRX.ne rfl rfl ?_
  have ll:=load_all (n:=6) b1.get rfl
  refine DRX.go rfl ?_
  simp -dsimp only [XZ,SZ,EZ,astep,aun,AVal.cells,seval,ll]
  refine (u82 ht hx q1.pr).mono ?_
  rintro o H2 ho
  rcases ho with ⟨e,p,ev,rfl,b⟩ | ⟨i,st',D',ev,rfl,hi,g⟩
  ·exact DLeave.pan' (.inl ⟨e,p,w2 _ ev.pass,q1.bad ⟨rfl,b⟩⟩)
  simp -dsimp only [XZ,SZ,EZ,astep,aun,AVal.cells,seval]
  refine DRX.nm rfl ?_
  exact DRX.retv ⟨_,by simp [aresult,ares,Env.get] <;> rfl,.inr ⟨i,st',D',w2 _ ev.pass,rfl,hi,q1.trans g⟩⟩
theorem oprim3 {t:IT} (ht:TOk ts) (hx:∀ n,n < rem ts st→Upto ts pid 67 .expr n) (q1:Good1 ts pid H D st st H1 D1) (b1:Prv H H1 D1 bn (.cells 42 (ndC .nils (node 0 [] (tk ts st.at_).p)))) (t1:Prv H H1 D1 bt (.cells 31 (tk ts st.at_).cells)) (hne:bt≠bn) (w1:∀ o,Ev ts (prim3I ts st) o→Ev ts t o) :
  DRX Tryd.prog (kof k81) 55 [.code prim3c,.inBlock 0,.code rest81] [] [(0,.ptr pid 0),(3,.ptr bt 0),(4,.ptr bn 0),(11,.int .i64 (tk ts st.at_).k)] H1 (fun e ds T' H'=>DLeave Tryd.prog [.tmp 2] ds e T' H' (PostN ts pid H D st t)):=by
 unfold prim3I at w1
 cases hc:((tk ts st.at_).k==2) with
 | true=>
  have w2:=fun o h=>w1 o (Ev.t hc h)
  have hk8:(tk ts st.at_).k≠8:=by have:=eq_of_beq hc; omega
  have lt:=load_cell t1.get (o:=1) (v:=.str (tk ts st.at_).s) rfl
  obtain ⟨H2,s2,q2,b2,o2,_⟩:=q1.put b1 0 (.int .i64 4) (by show 0 < 6; omega) ⟨rfl,rfl⟩ (cs':=ndC .nils ⟨4,empty,0,0,[],(tk ts st.at_).p⟩) rfl
  have lt2:=load_cell (o2 _ _ hne t1).get (o:=1) (v:=.str (tk ts st.at_).s) rfl
  obtain ⟨H3,s3,q3,b3,o3,_⟩:=q2.put b2 1 (.str (tk ts st.at_).s) (by show 1 < 6; omega) ⟨rfl,rfl⟩ (cs':=ndC .nils ⟨4,(tk ts st.at_).s,0,0,[],(tk ts st.at_).p⟩) rfl
  refine DRX.go rfl ?_
  simp -dsimp only [XZ,SZ,EZ,astep,aun,AVal.cells,seval,abin,hc]
  refine DRX.ye rfl rfl ?_
  refine DRX.nm rfl ?_
  refine DRX.draw (by kernel_rfl) d81_12 ?_
  simp -dsimp only [m81_12,YZ,XZ,SZ,EZ,astep,aun,AVal.cells,seval,DS_nil,DS_cons,seesAll,staysAll,abit,List.getD_cons_zero,List.getD_cons_succ,AOp.quiet,AOp.reads,true_and,and_true,decide_true,decide_false,and_self,lt,s2,lt2,s3]
  refine DRX.nm rfl ?_
  exact prim15 ht hk8 q3 b3 rfl w2
 | false=>
  have w2:=fun o h=>w1 o (Ev.f hc h)
  refine DRX.go rfl ?_
  simp -dsimp only [XZ,SZ,EZ,astep,aun,AVal.cells,seval,abin,hc]
  refine DRX.ne rfl rfl ?_
  exact DRX.only [0,3,4,11] (oprim4 ht hx q1 b1 t1 hne w2)
theorem oprim2 {t:IT} (ht:TOk ts) (hx:∀ n,n < rem ts st→Upto ts pid 67 .expr n) (q1:Good1 ts pid H D st st H1 D1) (b1:Prv H H1 D1 bn (.cells 42 (ndC .nils (node 0 [] (tk ts st.at_).p)))) (t1:Prv H H1 D1 bt (.cells 31 (tk ts st.at_).cells)) (hne:bt≠bn) (w1:∀ o,Ev ts (prim2I ts st) o→Ev ts t o) :
  DRX Tryd.prog (kof k81) 55 [.code prim2c,.inBlock 0,.code rest81] [] [(0,.ptr pid 0),(3,.ptr bt 0),(4,.ptr bn 0),(11,.int .i64 (tk ts st.at_).k)] H1 (fun e ds T' H'=>DLeave Tryd.prog [.tmp 2] ds e T' H' (PostN ts pid H D st t)):=by
 unfold prim2I at w1
 cases hc:((tk ts st.at_).k==1) with
 | true=>
  have w2:=fun o h=>w1 o (Ev.t hc h)
  have hk8:(tk ts st.at_).k≠8:=by have:=eq_of_beq hc; omega
  have lt:=load_cell t1.get (o:=1) (v:=.str (tk ts st.at_).s) rfl
  obtain ⟨H2,s2,q2,b2,o2,_⟩:=q1.put b1 0 (.int .i64 3) (by show 0 < 6; omega) ⟨rfl,rfl⟩ (cs':=ndC .nils ⟨3,empty,0,0,[],(tk ts st.at_).p⟩) rfl
  have lt2:=load_cell (o2 _ _ hne t1).get (o:=1) (v:=.str (tk ts st.at_).s) rfl
  obtain ⟨H3,s3,q3,b3,o3,_⟩:=q2.put b2 1 (.str (tk ts st.at_).s) (by show 1 < 6; omega) ⟨rfl,rfl⟩ (cs':=ndC .nils ⟨3,(tk ts st.at_).s,0,0,[],(tk ts st.at_).p⟩) rfl
  refine DRX.go rfl ?_
  simp -dsimp only [XZ,SZ,EZ,astep,aun,AVal.cells,seval,abin,hc]
  refine DRX.ye rfl rfl ?_
  refine DRX.nm rfl ?_
  refine DRX.draw (by kernel_rfl) d81_10 ?_
  simp -dsimp only [m81_10,YZ,XZ,SZ,EZ,astep,aun,AVal.cells,seval,DS_nil,DS_cons,seesAll,staysAll,abit,List.getD_cons_zero,List.getD_cons_succ,AOp.quiet,AOp.reads,true_and,and_true,decide_true,decide_false,and_self,lt,s2,lt2,s3]
  refine DRX.nm rfl ?_
  exact prim15 ht hk8 q3 b3 rfl w2
 | false=>
  have w2:=fun o h=>w1 o (Ev.f hc h)
  refine DRX.go rfl ?_
  simp -dsimp only [XZ,SZ,EZ,astep,aun,AVal.cells,seval,abin,hc]
  refine DRX.ne rfl rfl ?_
  exact DRX.only [0,3,4,11] (oprim3 ht hx q1 b1 t1 hne w2)
theorem oprim1 {t:IT} (ht:TOk ts) (hx:∀ n,n < rem ts st→Upto ts pid 67 .expr n) (q1:Good1 ts pid H D st st H1 D1) (b1:Prv H H1 D1 bn (.cells 42 (ndC .nils (node 0 [] (tk ts st.at_).p)))) (t1:Prv H H1 D1 bt (.cells 31 (tk ts st.at_).cells)) (hne:bt≠bn) (w1:∀ o,Ev ts (prim1I ts st) o→Ev ts t o) :
  DRX Tryd.prog (kof k81) 55 [.code prim1c,.inBlock 0,.code rest81] [] [(0,.ptr pid 0),(3,.ptr bt 0),(4,.ptr bn 0),(11,.int .i64 (tk ts st.at_).k)] H1 (fun e ds T' H'=>DLeave Tryd.prog [.tmp 2] ds e T' H' (PostN ts pid H D st t)):=by
 unfold prim1I at w1
 cases hc:((tk ts st.at_).k==4) with
 | true=>
  have w2:=fun o h=>w1 o (Ev.t hc h)
  have hk8:(tk ts st.at_).k≠8:=by have:=eq_of_beq hc; omega
  have lt:=load_cell t1.get (o:=3) (v:=.flt .f64 (tk ts st.at_).f) rfl
  obtain ⟨H2,s2,q2,b2,o2,_⟩:=q1.put b1 0 (.int .i64 2) (by show 0 < 6; omega) ⟨rfl,rfl⟩ (cs':=ndC .nils ⟨2,empty,0,0,[],(tk ts st.at_).p⟩) rfl
  have lt2:=load_cell (o2 _ _ hne t1).get (o:=3) (v:=.flt .f64 (tk ts st.at_).f) rfl
  obtain ⟨H3,s3,q3,b3,o3,_⟩:=q2.put b2 3 (.flt .f64 (tk ts st.at_).f) (by show 3 < 6; omega) ⟨rfl,rfl⟩ (cs':=ndC .nils ⟨2,empty,0,(tk ts st.at_).f,[],(tk ts st.at_).p⟩) rfl
  refine DRX.go rfl ?_
  simp -dsimp only [XZ,SZ,EZ,astep,aun,AVal.cells,seval,abin,hc]
  refine DRX.ye rfl rfl ?_
  refine DRX.nm rfl ?_
  refine DRX.draw (by kernel_rfl) d81_8 ?_
  simp -dsimp only [m81_8,YZ,XZ,SZ,EZ,astep,aun,AVal.cells,seval,DS_nil,DS_cons,seesAll,staysAll,abit,List.getD_cons_zero,List.getD_cons_succ,AOp.quiet,AOp.reads,true_and,and_true,decide_true,decide_false,and_self,lt,s2,lt2,s3]
  refine DRX.nm rfl ?_
  exact prim15 ht hk8 q3 b3 rfl w2
 | false=>
  have w2:=fun o h=>w1 o (Ev.f hc h)
  refine DRX.go rfl ?_
  simp -dsimp only [XZ,SZ,EZ,astep,aun,AVal.cells,seval,abin,hc]
  refine DRX.ne rfl rfl ?_
  exact DRX.only [0,3,4,11] (oprim2 ht hx q1 b1 t1 hne w2)
theorem oprim0 {t:IT} (ht:TOk ts) (hx:∀ n,n < rem ts st→Upto ts pid 67 .expr n) (q1:Good1 ts pid H D st st H1 D1) (b1:Prv H H1 D1 bn (.cells 42 (ndC .nils (node 0 [] (tk ts st.at_).p)))) (t1:Prv H H1 D1 bt (.cells 31 (tk ts st.at_).cells)) (hne:bt≠bn) (w1:∀ o,Ev ts (prim0I ts st) o→Ev ts t o) :
  DRX Tryd.prog (kof k81) 55 [.code (.region false r81_5 [0,3,4,11,15]),.code (.cond (.t 15) (.region true r81_6 [0,4]) prim1c),.inBlock 0,.code rest81] [] [(0,.ptr pid 0),(3,.ptr bt 0),(4,.ptr bn 0),(11,.int .i64 (tk ts st.at_).k)] H1 (fun e ds T' H'=>DLeave Tryd.prog [.tmp 2] ds e T' H' (PostN ts pid H D st t)):=by
 unfold prim0I at w1
 cases hc:((tk ts st.at_).k==3) with
 | true=>
  have w2:=fun o h=>w1 o (Ev.t hc h)
  have hk8:(tk ts st.at_).k≠8:=by have:=eq_of_beq hc; omega
  have lt:=load_cell t1.get (o:=2) (v:=.int .i64 (tk ts st.at_).n) rfl
  obtain ⟨H2,s2,q2,b2,o2,_⟩:=q1.put b1 0 (.int .i64 1) (by show 0 < 6; omega) ⟨rfl,rfl⟩ (cs':=ndC .nils ⟨1,empty,0,0,[],(tk ts st.at_).p⟩) rfl
  have lt2:=load_cell (o2 _ _ hne t1).get (o:=2) (v:=.int .i64 (tk ts st.at_).n) rfl
  obtain ⟨H3,s3,q3,b3,o3,_⟩:=q2.put b2 2 (.int .i64 (tk ts st.at_).n) (by show 2 < 6; omega) ⟨rfl,rfl⟩ (cs':=ndC .nils ⟨1,empty,(tk ts st.at_).n,0,[],(tk ts st.at_).p⟩) rfl
  refine DRX.go rfl ?_
  simp -dsimp only [XZ,SZ,EZ,astep,aun,AVal.cells,seval,abin,hc]
  refine DRX.ye rfl rfl ?_
  refine DRX.nm rfl ?_
  refine DRX.draw (by kernel_rfl) d81_6 ?_
  simp -dsimp only [m81_6,YZ,XZ,SZ,EZ,astep,aun,AVal.cells,seval,DS_nil,DS_cons,seesAll,staysAll,abit,List.getD_cons_zero,List.getD_cons_succ,AOp.quiet,AOp.reads,true_and,and_true,decide_true,decide_false,and_self,lt,s2,lt2,s3]
  refine DRX.nm rfl ?_
  exact prim15 ht hk8 q3 b3 rfl w2
 | false=>
  have w2:=fun o h=>w1 o (Ev.f hc h)
  refine DRX.go rfl ?_
  simp -dsimp only [XZ,SZ,EZ,astep,aun,AVal.cells,seval,abin,hc]
  refine DRX.ne rfl rfl ?_
  exact DRX.only [0,3,4,11] (oprim1 ht hx q1 b1 t1 hne w2)
theorem u81 (ht:TOk ts) (hx:∀ n,n < rem ts st→Upto ts pid 67 .expr n):CN ts pid 81 [.ptr pid 0] .primary st:=by
 intro H D hp
 refine DCallX.of_body (fn:=Tryd.f81) (by kernel_rfl) c81 (by kernel_rfl) (by simp [f81]) ?_
 unfold f81
 simp only []
 have q0:=Good1.refl hp
 have w0:=fun o (h:Ev ts (rule ts (.primary) st) o)=>h
 refine DRX.go rfl ?_
 simp -dsimp only [XZ,SZ,EZ,astep,aun,AVal.cells,seval]
 refine DRX.go rfl ?_
 simp -dsimp only [XZ,SZ,EZ,astep,aun,AVal.cells,seval]
 refine DCall.monoX (g37 q0.pr) ?_
 rintro a H1 ⟨rfl,k1⟩
 obtain ⟨Hx,H2,ex,e2,k2,g2,n2⟩:=new31 H1 (tk ts st.at_)
 have q1:=q0.gro k1
 have t2:Prv H H2 D H1.next _:=Prv.made q1 g2
 have q2:=q1.gro k2
 have hz:tok0=[.int .i64 0,.str ⟨#[]⟩,.int .i64 0,.flt .f64 0,.int .i64 0]:=rfl
 simp -dsimp only [XZ,SZ,EZ,astep,aun,AVal.cells,seval,← hz,ex,e2]
 have l4:=load_cell t2.get (o:=4) (v:=.int .i64 (tk ts st.at_).p) rfl
 have hf1:afill [.int .i64 0,.str ⟨#[]⟩,.int .i64 0,.flt .f64 0,.nils,.int .i64 0] [(5,1,.int .i64 (tk ts st.at_).p)]=some (ndC .nils (node 0 [] (tk ts st.at_).p)):=rfl
 obtain ⟨Hy,H3,ey,e3,k3,g3,n3⟩:=new42 H2 (node 0 [] (tk ts st.at_).p)
 have b3:Prv H H3 D H2.next _:=Prv.made q2 g3
 have q3:=q2.gro k3
 have t3:=t2.gro k3
 refine DRX.go rfl ?_
 simp -dsimp only [XZ,SZ,EZ,astep,aun,AVal.cells,seval,l4,Env.parts,hf1,ey,e3]
 have l0:=load_cell t3.get (o:=0) (v:=.int .i64 (tk ts st.at_).k) rfl
 refine DRX.go rfl ?_
 simp -dsimp only [XZ,SZ,EZ,astep,aun,AVal.cells,seval,l0]
 refine DRX.nm rfl ?_
 have hne:H1.next≠H2.next:=by have:=t2.lt; omega
 exact oprim0 ht hx q3 b3 t3 hne fun o h=>h
end
end Go.Am.Rl
namespace Go.Am.Rl
open Go.Proofs
section
variable {ts:List TK} {H:AHeap} {pid:Nat} {st:PS} {D:Nat→Prop} {s1 s2:PS} {H1 H2:AHeap} {D1 D2:Nat→Prop} {bn br bt:Nat} {v:AVal} {n:ND}
theorem Good1.app {H5:AHeap} {D5:Nat→Prop} {s5:PS} {v y:AVal} {l m:List Nat} (q5:Good1 ts pid H D st s5 H5 D5) (hv5:GI H5 v l) (hvn:∀ j,rid v=some j→H.next≤j) (hvd5:∀ j,rid v=some j→¬ D5 j) (hy:RowI H5 y m) (hl:l.length+m.length < 1000000) :
  ∃ v' H7,aapp 3 1 8 H5 v y=some (v',H7)∧GI H7 v' (l++m)∧Good1 ts pid H D st s5 H7 D5∧(∀ j,rid v'=some j→H.next≤j)∧(∀ j,rid v'=some j→¬ D5 j)∧(∀ j,j < H5.next→rid v≠some j→H7.get j=H5.get j):=by
 obtain ⟨v',H7,ha7,hv7,hn7,f7,hx7⟩:=hv5.app hy hl
 have n5:=q5.fr.1
 have p7:PR ts H7 pid s5 D5:=q5.pr.frame hn7 fun j hj=>f7 j (q5.pr.dlt j hj) (fun e=>hvd5 j e hj)
 have f7':Fr H D H7 D5:=⟨by omega,fun j hj hd=>by rw [f7 j (by omega) (fun e=>by have:=hvn j e; omega),q5.fr.2.1 j hj hd],q5.fr.2.2⟩
 refine ⟨v',H7,ha7,hv7,⟨p7,q5.deep,q5.at_,f7',q5.nds⟩,fun j hj=> ?_,fun j hj e=> ?_,f7⟩
 ·rcases hx7 j hj with e | e
  ·exact hvn j e
  ·omega
 ·rcases hx7 j hj with e' | e'
  ·exact hvd5 j e' e
  ·have:=q5.pr.dlt j e; omega
theorem loop80 {p:Int} {t:IT} {k k':List AItem} {Q:AEnd→List ADef→Env→AHeap→Prop} (hk:aexitTo 0 k=some k') (ht:TOk ts) (hp:PR ts H pid st D) (hx:∀ n,n < rem ts st→Upto ts pid 67 .expr n)
  (hbad:∀ T v H',(∃ e p,v=flt1 e p∧Ev ts t (.err e p)∧Bad ts pid H D st e p (.pan v) H')→Q (.pan v) [] T H')
  (hend:∀ H' D' s a,Good1 ts pid H D st s H' D'→a < s.nodes.length→Ev ts t (.ok (.n a) s)→DRX Tryd.prog (kof k80) 21 k' [] [(1,.int .i64 (a:Nat))] H' Q) :
  ∀ (n:Nat) (H1:AHeap) (D1:Nat→Prop) (s0:PS) (a0:Nat),rem ts s0≤n→Good1 ts pid H D st s0 H1 D1→a0 < s0.nodes.length→(∀ o,Ev ts (rule ts (.calls a0 p) s0) o→Ev ts t o)→
   DRX Tryd.prog (kof k80) 21 (.code l80_0::.inLoop l80_0::k) [] [(0,.ptr pid 0),(1,.int .i64 (a0:Nat)),(2,.int .i64 p)] H1 Q:=by
 intro n
 induction n with
 | zero=>
  intro H1 D1 s0 a0 hr q
  have:=q.pr.lt
  unfold rem at hr; omega
 | succ n ih=>
  intro H1 D1 s0 a0 hr q0 ha w0
  refine DRX.go rfl ?_
  simp -dsimp only [XZ,SZ,EZ,astep,aun,AVal.cells,seval]
  refine DCall.monoX (g45 (s:=w_lp) q0.pr ht) ?_
  rintro a H2 ⟨rfl,p2,f2⟩
  simp -dsimp only [XZ,SZ,EZ,astep,aun,AVal.cells,seval]
  cases hc:isS ts s0 w_lp with
  | false=>
   rw [hc,if_neg (by simp)] at p2
   refine DRX.ne rfl rfl ?_
   refine DRX.exit (k':=k') (by simpa [aexitTo] using hk) ?_
   exact DRX.only [1] (hend H2 D1 s0 a0 ⟨p2,q0.deep,q0.at_,q0.fr.trans f2,q0.nds⟩ ha (w0 _ (Ev.f hc .done)))
  | true=>
   rw [hc,if_pos rfl] at p2
   have q2:=q0.adv p2 f2
   have w2:=fun o h=>w0 o (Ev.t hc h)
   have h1:s0.at_+1 < ts.length:=p2.lt
   have hat:=q0.at_
   have hs:=ht.short
   refine DRX.ye rfl rfl ?_
   obtain ⟨H3,e3,k3,q3,r3,n3⟩:=q2.two (.cells 3 [.int .i64 (a0:Nat)])
   have hfl:afill [.int .i64 0] [(0,1,.int .i64 (a0:Nat))]=some [.int .i64 (a0:Nat)]:=rfl
   have w3:=w2
   refine DRX.go rfl ?_
   simp -dsimp only [XZ,SZ,EZ,astep,aun,AVal.cells,seval,Env.parts,hfl,e3]
   have hlt:rem ts (adv s0) < rem ts st:=by unfold rem; simp only [adv]; omega
   refine (u54 (s:=w_rp) (most:=16) ht (hx _ hlt) (Nat.le_refl _) _ _ q3.pr).mono ?_
   rintro o H4 (⟨e,p',ev4,rfl,b⟩ | ⟨a4,s4,D4,ev4,v4,rfl,hv4,hvn4,hvd4,hl4,g4⟩)
   ·exact hbad _ _ _ ⟨e,p',rfl,w3 _ (Ev.callE ev4),q3.bad ⟨rfl,b⟩⟩
   have q4:=q3.trans g4
   have w4:=fun o h=>w3 o (Ev.call ev4 h)
   have r4:=r3.fr g4.fr
   have hat4:=TOk.at_ ht q4.pr
   obtain ⟨v5,H5,e5,hv5,q5,hvn5,hvd5,_⟩:=q4.app (v:=.sl H2.next 0 1 (some 1)) (l:=[a0]) (.inr ⟨H2.next,some 1,rfl,.inr rfl,r4.get⟩) (fun j hj=>by simp only [rid,Option.some.injEq] at hj; have:=r4.new; omega) (fun j hj=>by simp only [rid,Option.some.injEq] at hj; subst hj; exact r4.no) hv4.row (by simp; omega)
   have w5:=w4
   simp -dsimp only [XZ,SZ,EZ,astep,aun,AVal.cells,seval,e5]
   have hf5:=ndC_fill hv5.row 12 p
   refine DRX.go rfl ?_
   simp -dsimp only [XZ,SZ,EZ,astep,aun,AVal.cells,seval,Env.parts,hf5]
   refine (g39 (v:=v5) (n:=node 12 (a0::a4) p) q5.pr hv5.row hvd5).mono ?_
   rintro o H6 (⟨m6,rfl,p6,f6⟩ | ⟨m6,rfl,D6,p6,n6,f6,d6⟩)
   ·exact hbad _ _ _ ⟨2,_,rfl,w5 _ (Ev.layE m6),q5.bad ⟨rfl,_,_,p6,rfl,f6⟩⟩
   have q6:=q5.lay hvn5 p6 n6 f6 d6
   have w6:=fun o h=>w5 o (Ev.lay m6 h)
   simp -dsimp only [XZ,SZ,EZ,astep,aun,AVal.cells,seval]
   refine DRX.nm rfl ?_
   refine DRX.inLoop ?_
   refine ih H6 D6 _ _ ?_ q6 (by simp) (fun o h=>w6 o (Ev.pass h))
   have:=g4.at_
   unfold rem at hr ⊢; simp only [adv] at this ⊢; omega
theorem u80 {p:Int} {a:Nat} (ht:TOk ts) (ha:a < st.nodes.length) (hx:∀ n,n < rem ts st→Upto ts pid 67 .expr n):CN ts pid 80 [.ptr pid 0,.int .i64 (a:Nat),.int .i64 p] (.calls a p) st:=by
 intro H D hp
 refine DCallX.of_body (fn:=Tryd.f80) (by kernel_rfl) c80 (by kernel_rfl) (by simp [f80]) ?_
 unfold f80
 simp only []
 have q0:=Good1.refl hp
 have w0:=fun o (h:Ev ts (rule ts (.calls a p) st) o)=>h
 refine DRX.go rfl ?_
 simp -dsimp only [XZ,SZ,EZ,astep,aun,AVal.cells,seval]
 refine DRX.nm rfl ?_
 refine DRX.loop ?_
 refine loop80 (t:=rule ts (.calls a p) st) rfl ht hp hx ?_ ?_ _ H D st a (Nat.le_refl _) q0 ha (fun o h=>h)
 ·rintro T v H' ⟨e,p,rfl,ev,b⟩
  exact DLeave.pan' (.inl ⟨e,p,ev,b⟩)
 ·intro H' D' s a q ha ev
  refine DRX.go rfl ?_
  simp -dsimp only [XZ,SZ,EZ,astep,aun,AVal.cells,seval]
  refine DRX.nm rfl ?_
  exact DRX.retv ⟨_,by simp [aresult,ares,Env.get] <;> rfl,.inr ⟨a,s,D',ev,rfl,ha,q⟩⟩
theorem PR.step2 (hp:PR ts H pid st D) (ht:TOk ts) (hk:(tk ts st.at_).k≠8) (hk':(tk ts (st.at_+1)).k≠8):aload H none (.ptr pid 1)=some (.int .i64 (st.at_:Nat))∧IntKind.i64.wrap ((st.at_:Int)+2)=((st.at_+2:Nat):Int)∧
  ∃ H5,astore H 1 (.ptr pid 1) (.int .i64 ((st.at_+2:Nat):Int))=some H5∧PR ts H5 pid (adv (adv st)) D∧Fr H D H5 D:=by
 have hs:=ht.short
 obtain ⟨⟨xt,xn,hb,htk,hn,hx,ho⟩,h6,h7,hlt,hd,hm⟩:=hp
 have h1:=ht.next hlt hk
 have h2:=ht.next h1 hk'
 refine ⟨load_cell hb (o:=1) rfl,wrap64 (n:=st.at_+2) (by omega),_,store_cell hb (by show 1 < 4; omega) rfl rfl,?_,?_⟩
 ·have hf:∀ j,j≠pid→(H.set pid (.cells 61 [xt,.int .i64 ((st.at_+2:Nat):Int),.int .i64 (st.deep:Nat),xn])).get j=H.get j:=fun j hj=>by rw [AHeap.get_set,if_neg hj]
  exact ⟨⟨xt,xn,by rw [AHeap.get_set,if_pos rfl,if_pos (AHeap.get_lt hb)]; rfl,htk.frame fun j hj=>hf j (hx j hj).2.1,hn.frame (fun j hj=>hf j (ho j hj).2) (fun j _ hj=>hf j hj),hx,ho⟩,h6,h7,h2,hd,hm⟩
 ·exact ⟨by simp,fun j hj hjd=>by rw [AHeap.get_set,if_neg (fun e=>hjd (by rw [e]; exact h6))],fun j h=>.inl h⟩
abbrev call3:ACode:=.seq (.region false r79_3 [0,3]) (.seq (.region false r79_4 [0,3,4]) (.seq (.region true r79_5 [2]) .ret))
theorem call79a {t:IT} (ht:TOk ts) (hx:∀ n,n < rem ts st→Upto ts pid 67 .expr n) (hk:(tk ts st.at_).k≠8) (hk':(tk ts (st.at_+1)).k≠8) (q1:Good1 ts pid H D st st H1 D1) (t1:Prv H H1 D1 bt (.cells 31 (tk ts st.at_).cells)) {k:List AItem}
  (w1:∀ o,Ev ts (callL (.list w_rp 16) (adv (adv st)) fun l st1=>lay st1 ⟨11,(tk ts st.at_).s,0,0,l,pos ts st⟩ fun a st2=>pass1 (.calls a (pos ts st)) st2) o→Ev ts t o) :
  DRX Tryd.prog (kof k79) 67 (.code call3::k) [] [(0,.ptr pid 0),(3,.ptr bt 0)] H1 (fun e ds T' H'=>DLeave Tryd.prog [.tmp 2] ds e T' H' (PostN ts pid H D st t)):=by
 obtain ⟨l2,hw2,H2,e2,p2,f2⟩:=q1.pr.step2 ht hk hk'
 have q2:Good1 ts pid H D st (adv (adv st)) H2 D1:=⟨p2,q1.deep,by simp only [adv]; omega,q1.fr.trans f2,q1.nds⟩
 have w2:=w1
 have t2:=t1.fr f2
 refine DRX.go rfl ?_
 simp -dsimp only [XZ,SZ,EZ,astep,aun,AVal.cells,seval,l2,abin,hw2,e2]
 refine DRX.go rfl ?_
 simp -dsimp only [XZ,SZ,EZ,astep,aun,AVal.cells,seval]
 have hlt:rem ts (adv (adv st)) < rem ts st:=by have:=q2.pr.lt; unfold rem; simp only [adv] at *; omega
 refine (u54 (s:=w_rp) (most:=16) ht (hx _ hlt) (Nat.le_refl _) _ _ q2.pr).mono ?_
 rintro o H3 (⟨e,p,ev3,rfl,b⟩ | ⟨a3,s3,D3,ev3,v3,rfl,hv3,hvn3,hvd3,hl3,g3⟩)
 ·exact DLeave.pan' (.inl ⟨e,p,w2 _ (Ev.callE ev3),q2.bad ⟨rfl,b⟩⟩)
 have q3:=q2.trans g3
 have w3:=fun o h=>w2 o (Ev.call ev3 h)
 simp -dsimp only [XZ,SZ,EZ,astep,aun,AVal.cells,seval]
 have t3:=t2.fr g3.fr
 have ls:=load_cell t3.get (o:=1) (v:=.str (tk ts st.at_).s) rfl
 have lp:=load_cell t3.get (o:=4) (v:=.int .i64 (pos ts st)) rfl
 have hf5:afill [.int .i64 0,.str ⟨#[]⟩,.int .i64 0,.flt .f64 0,.nils,.int .i64 0] [(0,1,.int .i64 11),(1,1,.str (tk ts st.at_).s),(4,1,v3),(5,1,.int .i64 (pos ts st))]=some (ndC v3 ⟨11,(tk ts st.at_).s,0,0,a3,pos ts st⟩):=by
  rcases hv3.row with ⟨rfl,_⟩ | ⟨id,c,rfl,_⟩ <;> rfl
 have vn:(∀ j,rid v3=some j→H.next≤j)∧∀ j,rid v3=some j→¬ D3 j:=⟨fun j hj=>Nat.le_trans q2.fr.1 (hvn3 j hj),hvd3⟩
 refine DRX.nm rfl ?_
 refine DRX.draw (by kernel_rfl) d79_5 ?_
 simp -dsimp only [m79_5,YZ,XZ,SZ,EZ,astep,aun,AVal.cells,seval,DS_nil,DS_cons,seesAll,staysAll,abit,List.getD_cons_zero,List.getD_cons_succ,AOp.quiet,AOp.reads,true_and,and_true,decide_true,decide_false,and_self,ls,lp,Env.parts,hf5]
 refine (g39 (v:=v3) (n:=⟨11,(tk ts st.at_).s,0,0,a3,pos ts st⟩) q3.pr hv3.row hvd3).mono ?_
 rintro o H4 (⟨m4,rfl,p4,f4⟩ | ⟨m4,rfl,D4,p4,n4,f4,d4⟩)
 ·refine And.intro (DLeave.pan' (.inl ⟨2,_,w3 _ (Ev.layE m4),q3.bad ⟨rfl,_,_,p4,rfl,f4⟩⟩)) ?_
  simp -dsimp only [YZ,XZ,SZ,EZ,astep,aun,AVal.cells,seval,DS_nil,DS_cons,seesAll,staysAll,abit,List.getD_cons_zero,List.getD_cons_succ,AOp.quiet,AOp.reads,true_and,and_true,decide_true,decide_false,and_self,lp]
 have q4:=q3.lay vn.1 p4 n4 f4 d4
 have w4:=fun o h=>w3 o (Ev.lay m4 h)
 have t4:Prv H H4 D4 bt (.cells 31 (tk ts st.at_).cells):=⟨(f4 bt t3.lt t3.no).trans t3.get,fun e=>by
  rcases d4 bt e with e | e | e
  ·exact t3.no e
  ·have:=hvn3 bt e; have:=t2.lt; omega
  ·have:=t3.lt; omega,t3.new⟩
 have ls4:=load_cell t4.get (o:=1) (v:=.str (tk ts st.at_).s) rfl
 have lp4:=load_cell t4.get (o:=4) (v:=.int .i64 (pos ts st)) rfl
 simp -dsimp only [YZ,XZ,SZ,EZ,astep,aun,AVal.cells,seval,DS_nil,DS_cons,seesAll,staysAll,abit,List.getD_cons_zero,List.getD_cons_succ,AOp.quiet,AOp.reads,true_and,and_true,decide_true,decide_false,and_self,ls4,lp4,lp]
 have hx4:∀ n,n < rem ts { s3 with nodes:=s3.nodes++[⟨11,(tk ts st.at_).s,0,0,a3,pos ts st⟩] }→Upto ts pid 67 .expr n:=fun n hn=>hx n (by have:=q3.at_; unfold rem at *; simp only at hn; omega)
 refine (u80 ht (by simp) hx4 _ _ q4.pr).mono ?_
 rintro o H5 (⟨e,p,ev5,rfl,b⟩ | ⟨a5,s5,D5,ev5,rfl,ha5,g5⟩)
 ·refine And.intro (DLeave.pan' (.inl ⟨e,p,w4 _ ev5.pass,q4.bad ⟨rfl,b⟩⟩)) ?_
  simp -dsimp only [YZ,XZ,SZ,EZ,astep,aun,AVal.cells,seval,DS_nil,DS_cons,seesAll,staysAll,abit,List.getD_cons_zero,List.getD_cons_succ,AOp.quiet,AOp.reads,true_and,and_true,decide_true,decide_false,and_self]
 simp -dsimp only [YZ,XZ,SZ,EZ,astep,aun,AVal.cells,seval,DS_nil,DS_cons,seesAll,staysAll,abit,List.getD_cons_zero,List.getD_cons_succ,AOp.quiet,AOp.reads,true_and,and_true,decide_true,decide_false,and_self]
 refine DRX.nm rfl ?_
 exact DRX.retv ⟨_,by simp [aresult,ares,Env.get] <;> rfl,.inr ⟨_,_,_,w4 _ ev5.pass,rfl,ha5,q4.trans g5⟩⟩
theorem call79b {t:IT} (ht:TOk ts) (hx:∀ n,n < rem ts st→Upto ts pid 67 .expr n) (q1:Good1 ts pid H D st st H1 D1) (t1:Prv H H1 D1 bt (.cells 31 (tk ts st.at_).cells))
  (w1:∀ o,Ev ts (callN .primary st fun a st1=>pass1 (.calls a (pos ts st)) st1) o→Ev ts t o) :
  DRX Tryd.prog (kof k79) 67 [.code (.region true r79_6 [2]),.code .ret] [] [(0,.ptr pid 0),(3,.ptr bt 0)] H1 (fun e ds T' H'=>DLeave Tryd.prog [.tmp 2] ds e T' H' (PostN ts pid H D st t)):=by
 have lp:=load_cell t1.get (o:=4) (v:=.int .i64 (pos ts st)) rfl
 refine DRX.nm rfl ?_
 refine DRX.draw (by kernel_rfl) d79_6 ?_
 simp -dsimp only [m79_6,YZ,XZ,SZ,EZ,astep,aun,AVal.cells,seval,DS_nil,DS_cons,seesAll,staysAll,abit,List.getD_cons_zero,List.getD_cons_succ,AOp.quiet,AOp.reads,true_and,and_true,decide_true,decide_false,and_self,lp]
 refine (u81 ht hx _ _ q1.pr).mono ?_
 rintro o H2 (⟨e,p,ev2,rfl,b⟩ | ⟨a2,s2,D2,ev2,rfl,ha2,g2⟩)
 ·refine And.intro (DLeave.pan' (.inl ⟨e,p,w1 _ (Ev.callE ev2),q1.bad ⟨rfl,b⟩⟩)) ?_
  simp -dsimp only [YZ,XZ,SZ,EZ,astep,aun,AVal.cells,seval,DS_nil,DS_cons,seesAll,staysAll,abit,List.getD_cons_zero,List.getD_cons_succ,AOp.quiet,AOp.reads,true_and,and_true,decide_true,decide_false,and_self,lp]
 have q2:=q1.trans g2
 have w2:=fun o h=>w1 o (Ev.call ev2 h)
 have t2:=t1.fr g2.fr
 have lp2:=load_cell t2.get (o:=4) (v:=.int .i64 (pos ts st)) rfl
 simp -dsimp only [YZ,XZ,SZ,EZ,astep,aun,AVal.cells,seval,DS_nil,DS_cons,seesAll,staysAll,abit,List.getD_cons_zero,List.getD_cons_succ,AOp.quiet,AOp.reads,true_and,and_true,decide_true,decide_false,and_self,lp2,lp]
 have hx2:∀ n,n < rem ts s2→Upto ts pid 67 .expr n:=fun n hn=>hx n (by have:=q2.at_; unfold rem at *; omega)
 refine (u80 ht ha2 hx2 _ _ q2.pr).mono ?_
 rintro o H5 (⟨e,p,ev5,rfl,b⟩ | ⟨a5,s5,D5,ev5,rfl,ha5,g5⟩)
 ·refine And.intro (DLeave.pan' (.inl ⟨e,p,w2 _ ev5.pass,q2.bad ⟨rfl,b⟩⟩)) ?_
  simp -dsimp only [YZ,XZ,SZ,EZ,astep,aun,AVal.cells,seval,DS_nil,DS_cons,seesAll,staysAll,abit,List.getD_cons_zero,List.getD_cons_succ,AOp.quiet,AOp.reads,true_and,and_true,decide_true,decide_false,and_self]
 simp -dsimp only [YZ,XZ,SZ,EZ,astep,aun,AVal.cells,seval,DS_nil,DS_cons,seesAll,staysAll,abit,List.getD_cons_zero,List.getD_cons_succ,AOp.quiet,AOp.reads,true_and,and_true,decide_true,decide_false,and_self]
 refine DRX.nm rfl ?_
 exact DRX.retv ⟨_,by simp [aresult,ares,Env.get] <;> rfl,.inr ⟨_,_,_,w2 _ ev5.pass,rfl,ha5,q2.trans g5⟩⟩
theorem u79 (ht:TOk ts) (hx:∀ n,n < rem ts st→Upto ts pid 67 .expr n):CN ts pid 79 [.ptr pid 0] .call st:=by
 intro H D hp
 refine DCallX.of_body (fn:=Tryd.f79) (by kernel_rfl) c79 (by kernel_rfl) (by simp [f79]) ?_
 unfold f79
 simp only []
 have q0:=Good1.refl hp
 have w0:=fun o (h:Ev ts (rule ts (.call) st) o)=>h
 refine DRX.go rfl ?_
 simp -dsimp only [XZ,SZ,EZ,astep,aun,AVal.cells,seval]
 refine DRX.go rfl ?_
 simp -dsimp only [XZ,SZ,EZ,astep,aun,AVal.cells,seval]
 refine DCall.monoX (g37 q0.pr) ?_
 rintro a H1 ⟨rfl,k1⟩
 obtain ⟨Hx,H2,ex,e2,k2,g2,n2⟩:=new31 H1 (tk ts st.at_)
 have q1:=q0.gro k1
 have t2:Prv H H2 D H1.next _:=Prv.made q1 g2
 have q2:=q1.gro k2
 have hz:tok0=[.int .i64 0,.str ⟨#[]⟩,.int .i64 0,.flt .f64 0,.int .i64 0]:=rfl
 simp -dsimp only [XZ,SZ,EZ,astep,aun,AVal.cells,seval,← hz,ex,e2]
 have l0:=load_cell t2.get (o:=0) (v:=.int .i64 (tk ts st.at_).k) rfl
 have no:(((tk ts st.at_).k==1)&&((tk ts (st.at_+1)).k==6)&&seq (tk ts (st.at_+1)).s w_lp)=false→DRX Tryd.prog (kof k79) 67 [.code (.region true r79_6 [2]),.code .ret] [] [(0,.ptr pid 0),(3,.ptr H1.next 0)] H2 (fun e ds T' H'=>DLeave Tryd.prog [.tmp 2] ds e T' H' (PostN ts pid H D st (rule ts .call st))):=
  fun h=>call79b ht hx q2 t2 fun o h'=>w0 o (Ev.f h h')
 cases c1:((tk ts st.at_).k==1) with
 | false=>
  rw [c1] at no
  refine DRX.nm rfl ?_
  refine DRX.draw (by kernel_rfl) d79_2 ?_
  simp -dsimp only [m79_2,YZ,XZ,SZ,EZ,astep,aun,AVal.cells,seval,DS_nil,DS_cons,seesAll,staysAll,abit,List.getD_cons_zero,List.getD_cons_succ,AOp.quiet,AOp.reads,true_and,and_true,decide_true,decide_false,and_self,l0,abin,c1]
  refine DRX.ne rfl rfl ?_
  refine DRX.nm rfl ?_
  exact DRX.only [0,3] (no rfl)
 | true=>
  have hk:(tk ts st.at_).k≠8:=by have:=eq_of_beq c1; omega
  obtain ⟨xt,id,o,la,lb,hw,ix,lk0,ls,lk⟩:=q2.pr.look ht (ht.next q2.pr.lt hk)
  cases c3:((tk ts (st.at_+1)).k==6) with
  | false=>
   rw [c1,c3] at no
   refine DRX.nm rfl ?_
   refine DRX.draw (by kernel_rfl) d79_2 ?_
   simp -dsimp only [m79_2,YZ,XZ,SZ,EZ,astep,aun,AVal.cells,seval,DS_nil,DS_cons,seesAll,staysAll,abit,List.getD_cons_zero,List.getD_cons_succ,AOp.quiet,AOp.reads,true_and,and_true,decide_true,decide_false,and_self,l0,la,lb,abin,hw,ix,lk,c1,c3]
   refine DRX.ne rfl rfl ?_
   refine DRX.nm rfl ?_
   exact DRX.only [0,3] (no rfl)
  | true=>
   have hk':(tk ts (st.at_+1)).k≠8:=by have:=eq_of_beq c3; omega
   cases c4:seq (tk ts (st.at_+1)).s w_lp with
   | false=>
    rw [c1,c3,c4] at no
    unfold seq at c4
    refine DRX.nm rfl ?_
    refine DRX.draw (by kernel_rfl) d79_2 ?_
    simp -dsimp only [m79_2,YZ,XZ,SZ,EZ,astep,aun,AVal.cells,seval,DS_nil,DS_cons,seesAll,staysAll,abit,List.getD_cons_zero,List.getD_cons_succ,AOp.quiet,AOp.reads,true_and,and_true,decide_true,decide_false,and_self,l0,la,lb,abin,hw,ix,lk,ls,c1,c3,c4]
    refine DRX.ne rfl rfl ?_
    refine DRX.nm rfl ?_
    exact DRX.only [0,3] (no rfl)
   | true=>
    have w2:=fun o h=>w0 o (Ev.t (show (((tk ts st.at_).k==1)&&((tk ts (st.at_+1)).k==6)&&seq (tk ts (st.at_+1)).s w_lp)=true by rw [c1,c3,c4]; rfl) h)
    unfold seq at c4
    refine DRX.nm rfl ?_
    refine DRX.draw (by kernel_rfl) d79_2 ?_
    simp -dsimp only [m79_2,YZ,XZ,SZ,EZ,astep,aun,AVal.cells,seval,DS_nil,DS_cons,seesAll,staysAll,abit,List.getD_cons_zero,List.getD_cons_succ,AOp.quiet,AOp.reads,true_and,and_true,decide_true,decide_false,and_self,l0,la,lb,abin,hw,ix,lk,ls,c1,c3,c4]
    refine DRX.ye rfl rfl ?_
    exact DRX.only [0,3] (call79a ht hx hk hk' q2 t2 w2)
end
end Go.Am.Rl
namespace Go.Am.Rl
open Go.Proofs
def GroT (H:AHeap) (v:AVal) (l:List TK):Prop:=Grow H 31 5 v l.length (l.map TK.cells).flatten
theorem GroT.row {H:AHeap} {v:AVal} {l:List TK} (h:GroT H v l):RowT H v (l.map TK.cells):=by
 obtain ⟨h1,⟨rfl,h2⟩ | ⟨id,rfl,h2⟩⟩:=h
 ·have:l=[]:=List.eq_nil_of_length_eq_zero h2
  subst this; exact .inl ⟨rfl,rfl⟩
 ·exact .inr ⟨id,none,[],by rw [List.length_map],by rw [List.append_nil]; exact h2⟩
theorem RowT.tok {H:AHeap} {v:AVal} {l:List TK} (h:RowT H v (l.map TK.cells)) {i:Nat} {t:TK} (hi:l[i]? = some t):∃ id o,(∀ H',aiaddr H' 5 v (.int .i64 (i:Nat))=some (.ptr id o))∧aload H none (.ptr id (o+1))=some (.str t.s)∧aload H none (.ptr id (o+4))=some (.int .i64 t.p):=by
 have hi':(l.map TK.cells)[i]? = some t.cells:=by rw [List.getElem?_map,hi]; rfl
 obtain ⟨id,ax,rx,tx,gx,lx,dx,hc5⟩:=h.at (toks_tok l) hi' H
 have hat:∀ j,j < 5→tx[i * 5+j]? = t.cells[j]? :=by
  intro j hj
  rw [← List.getElem?_drop,dx,List.getElem?_append_left (by rw [hc5]; exact hj)]
 refine ⟨id,i * 5,fun H'=> ?_,load_cell gx (by rw [hat 1 (by omega)]; rfl),load_cell gx (by rw [hat 4 (by omega)]; rfl)⟩
 obtain ⟨id',ax',rx',_⟩:=h.at (toks_tok l) hi' H'
 have:=rx.symm.trans rx'
 cases this; exact ax'
theorem laySigns_cons {t:TK} {r:List TK} {a:Nat} {st:PS}:laySigns (t::r) a st=lay st ⟨9,t.s,0,0,[a],t.p⟩ fun b st=>laySigns r b st:=rfl
section
variable {ts:List TK} {H:AHeap} {pid:Nat} {st:PS} {D:Nat→Prop} {s1 s2:PS} {H1 H2:AHeap} {D1 D2:Nat→Prop} {bn br bt:Nat} {v:AVal} {n:ND}
theorem RowT.fr {H H':AHeap} {D D':Nat→Prop} {v:AVal} {l:List (List AVal)} (h:RowT H v l) (f:Fr H D H' D') (hd:∀ j,rid v=some j→¬ D j):RowT H' v l∧∀ j,rid v=some j→¬ D' j:=
 ⟨h.frame fun j hj=>f.2.1 j (h.lt hj) (hd j hj),fun j hj e=>(f.2.2 j e).elim (hd j hj) fun e=>by have:=h.lt hj; omega⟩
theorem GroT.fr {H H':AHeap} {D D':Nat→Prop} {v:AVal} {l:List TK} (h:GroT H v l) (f:Fr H D H' D') (hd:∀ j,rid v=some j→¬ D j):GroT H' v l∧∀ j,rid v=some j→¬ D' j:=
 ⟨h.frame fun j hj=>f.2.1 j (h.row.lt hj) (hd j hj),fun j hj e=>(f.2.2 j e).elim (hd j hj) fun e=>by have:=h.row.lt hj; omega⟩
theorem loop78b {signs:List TK} {t:IT} {k k':List AItem} {Q:AEnd→List ADef→Env→AHeap→Prop} (hk:aexitTo 2 k=some k') (ht:TOk ts) (hp:PR ts H pid st D) (hs:signs.length < 1000000)
  (hbad:∀ T v H',(∃ e p,v=flt1 e p∧Ev ts t (.err e p)∧Bad ts pid H D st e p (.pan v) H')→Q (.pan v) [] T H')
  (hend:∀ H' D' s a,Good1 ts pid H D st s H' D'→a < s.nodes.length→Ev ts t (.ok (.n a) s)→DRX Tryd.prog (kof k78) 47 k' [] [(4,.int .i64 (a:Nat))] H' Q) :
  ∀ (m:Nat) (H1:AHeap) (D1:Nat→Prop) (s0:PS) (a0:Nat),m≤signs.length→Good1 ts pid H D st s0 H1 D1→a0 < s0.nodes.length→RowT H1 v (signs.map TK.cells)→(∀ j,rid v=some j→¬ D1 j)→(∀ o,Ev ts (laySigns (signs.take m).reverse a0 s0) o→Ev ts t o)→
   DRX Tryd.prog (kof k78) 47 (.code l78_1::.inLoop l78_1::k) [] [(0,.ptr pid 0),(3,v),(4,.int .i64 (a0:Nat)),(5,.int .i64 ((m:Int) - 1))] H1 Q:=by
 intro m
 induction m with
 | zero=>
  intro H1 D1 s0 a0 hm q0 ha hv hvd w0
  have hc:decide ((((0:Nat):Int) - 1) ≥ 0)=false:=by decide
  refine DRX.go rfl ?_
  simp -dsimp only [XZ,SZ,EZ,astep,aun,AVal.cells,seval,abin,hc]
  refine DRX.ne rfl rfl ?_
  refine DRX.exit (k':=k') (by simpa [aexitTo] using hk) ?_
  exact DRX.only [4] (hend H1 D1 s0 a0 q0 ha (w0 _ .done))
 | succ m ih=>
  intro H1 D1 s0 a0 hm q0 ha hv hvd w0
  obtain ⟨x,hx⟩:∃ x,signs[m]? = some x:=⟨_,List.getElem?_eq_getElem (show m < signs.length by omega)⟩
  have hr:(signs.take (m+1)).reverse=x::(signs.take m).reverse:=by
   have h1:signs[m]=x:=by
    rw [List.getElem?_eq_getElem (show m < signs.length by omega)] at hx; injection hx
   rw [List.take_succ_eq_append_getElem (show m < signs.length by omega),List.reverse_append,h1]; rfl
  rw [hr,laySigns_cons] at w0
  have hi:(((m+1:Nat):Int) - 1)=((m:Nat):Int):=by omega
  rw [hi]
  have hc:decide (((m:Nat):Int) ≥ 0)=true:=decide_eq_true (by omega)
  have hw:IntKind.i64.wrap ((m:Int) - 1)=(m:Int) - 1:=by
   cases m with
   | zero=>decide
   | succ m=>rw [show (((m+1:Nat):Int) - 1)=((m:Nat):Int) by omega]; exact wrap64 (by omega)
  obtain ⟨id,o,ix,lsx,lpx⟩:=hv.tok hx
  obtain ⟨H2,e2,k2,q2,r2,n2⟩:=q0.two (.cells 3 [.int .i64 (a0:Nat)])
  obtain ⟨hv2,hvd2⟩:=hv.fr (k2.fr _) hvd
  obtain ⟨id',o',ix',lsx2,lpx2⟩:=hv2.tok hx
  have he:=(ix H1).symm.trans (ix' H1)
  simp only [Option.some.injEq,AVal.ptr.injEq] at he
  obtain ⟨rfl,rfl⟩:=he
  have w2:=w0
  have hfl:afill [.int .i64 0] [(0,1,.int .i64 (a0:Nat))]=some [.int .i64 (a0:Nat)]:=rfl
  have hf5:afill [.int .i64 0,.str ⟨#[]⟩,.int .i64 0,.flt .f64 0,.nils,.int .i64 0] [(0,1,.int .i64 9),(1,1,.str x.s),(4,1,.sl H1.next 0 1 (some 1)),(5,1,.int .i64 x.p)]=some (ndC (.sl H1.next 0 1 (some 1)) ⟨9,x.s,0,0,[a0],x.p⟩):=rfl
  have hr2:RowI H2 (.sl H1.next 0 1 (some 1)) [a0]:=.inr ⟨H1.next,some 1,rfl,r2.get⟩
  have f2:=q0.fresh (n:=H1.next) (c:=1) (Nat.le_refl _)
  refine DRX.go rfl ?_
  simp -dsimp only [XZ,SZ,EZ,astep,aun,AVal.cells,seval,abin,hc]
  refine DRX.ye rfl rfl ?_
  refine DRX.nm rfl ?_
  refine DRX.draw (by kernel_rfl) d78_9 ?_
  simp -dsimp only [m78_9,YZ,XZ,SZ,EZ,astep,aun,AVal.cells,seval,DS_nil,DS_cons,seesAll,staysAll,abit,List.getD_cons_zero,List.getD_cons_succ,AOp.quiet,AOp.reads,true_and,and_true,decide_true,decide_false,and_self,ix,lsx,Env.parts,hfl,e2,lsx2,lpx,lpx2,hf5]
  refine (g39 (v:=.sl H1.next 0 1 (some 1)) (n:=⟨9,x.s,0,0,[a0],x.p⟩) q2.pr hr2 f2.2).mono ?_
  rintro o H3 (⟨m3,rfl,p3,f3⟩ | ⟨m3,rfl,D3,p3,n3,f3,d3⟩)
  ·refine And.intro (hbad _ _ _ ⟨2,_,rfl,w2 _ (Ev.layE m3),q2.bad ⟨rfl,_,_,p3,rfl,f3⟩⟩) ?_
   simp -dsimp only [YZ,XZ,SZ,EZ,astep,aun,AVal.cells,seval,DS_nil,DS_cons,seesAll,staysAll,abit,List.getD_cons_zero,List.getD_cons_succ,AOp.quiet,AOp.reads,true_and,and_true,decide_true,decide_false,and_self]
  have q3:=q2.lay f2.1 p3 n3 f3 d3
  have w3:=fun o h=>w2 o (Ev.lay m3 h)
  have hv3:RowT H3 v (signs.map TK.cells)∧∀ j,rid v=some j→¬ D3 j:=⟨hv2.frame fun j hj=>f3 j (hv2.lt hj) (hvd2 j hj),fun j hj e=>by
   rcases d3 j e with e | e | e
   ·exact hvd2 j hj e
   ·simp only [rid,Option.some.injEq] at e; have:=hv.lt hj; omega
   ·have:=hv2.lt hj; omega⟩
  simp -dsimp only [YZ,XZ,SZ,EZ,astep,aun,AVal.cells,seval,DS_nil,DS_cons,seesAll,staysAll,abit,List.getD_cons_zero,List.getD_cons_succ,AOp.quiet,AOp.reads,true_and,and_true,decide_true,decide_false,and_self]
  refine DRX.nm rfl ?_
  refine DRX.go rfl ?_
  simp -dsimp only [XZ,SZ,EZ,astep,aun,AVal.cells,seval,abin,hw]
  refine DRX.nm rfl ?_
  refine DRX.inLoop ?_
  exact ih H3 D3 _ _ (by omega) q3 (by simp) hv3.1 hv3.2 w3
theorem loop78a {N:Nat} {t:IT} {k k':List AItem} {Q:AEnd→List ADef→Env→AHeap→Prop} (hk:aexitTo 0 k=some k') (ht:TOk ts) (hp:PR ts H pid st D)
  (hend:∀ H' D' s l v,Good1 ts pid H D st s H' D'→GroT H' v l→(∀ j,rid v=some j→¬ D' j)→l.length≤s.at_→(∀ o,Ev ts (callN .call s fun a st1=>laySigns l.reverse a st1) o→Ev ts t o)→DRX Tryd.prog (kof k78) 47 k' [] [(0,.ptr pid 0),(3,v)] H' Q) :
  ∀ (n:Nat) (H1:AHeap) (D1:Nat→Prop) (s0:PS) (l:List TK) (v:AVal),rem ts s0≤n→Good1 ts pid H D st s0 H1 D1→GroT H1 v l→(∀ j,rid v=some j→H.next≤j)→(∀ j,rid v=some j→¬ D1 j)→l.length≤s0.at_→(∀ o,Ev ts (rule ts (.unaryL l) s0) o→Ev ts t o)→
   DRX Tryd.prog (kof k78) 47 (.code l78_0::.inLoop l78_0::k) [] [(0,.ptr pid 0),(3,v)] H1 Q:=by
 intro n
 induction n with
 | zero=>
  intro H1 D1 s0 l v hr q
  have:=q.pr.lt
  unfold rem at hr; omega
 | succ n ih=>
  intro H1 D1 s0 l v hr q0 hv hvn hvd hll w0
  obtain ⟨H2,e2⟩:∃ H2,H1.push (.cells 9 [.str ⟨#[45]⟩,.str ⟨#[110,111,116]⟩])=H2:=⟨_,rfl⟩
  obtain ⟨hs2,k2⟩:=rowS (l:=[w_minus,w_not]) e2
  have hf1:afill [.str ⟨#[]⟩,.str ⟨#[]⟩] [(0,1,.str ⟨#[45]⟩),(1,1,.str ⟨#[110,111,116]⟩)]=some [.str ⟨#[45]⟩,.str ⟨#[110,111,116]⟩]:=rfl
  have q2:=q0.gro k2
  refine DRX.go rfl ?_
  simp -dsimp only [XZ,SZ,EZ,astep,aun,AVal.cells,seval,Env.vals,Env.parts,hf1,e2]
  refine DCall.monoX (g70 q2.pr hs2 (by decide)) ?_
  rintro a H3 ⟨rfl,h3⟩
  have q3:=q2.gro h3
  obtain ⟨hv3,hvd3⟩:=hv.fr ((k2.trans h3).fr _) hvd
  cases hc:seq (anyS ts s0 [w_minus,w_not]) empty with
  | true=>
   have w3:=fun o h=>w0 o (Ev.t hc h)
   have hc':((anyS ts s0 [w_minus,w_not]).toList==(⟨#[]⟩:ByteArray).toList)=true:=hc
   simp -dsimp only [XZ,SZ,EZ,astep,aun,AVal.cells,seval,abin,hc',Bool.not_true]
   refine DRX.ne rfl rfl ?_
   refine DRX.exit (k':=k') (by simpa [aexitTo] using hk) ?_
   exact DRX.only [0,3] (hend H3 D1 s0 l v q3 hv3 hvd3 hll w3)
  | false=>
   have w3:=fun o h=>w0 o (Ev.f hc h)
   have hmid:=anyS_mid hc
   have hc':((anyS ts s0 [w_minus,w_not]).toList==(⟨#[]⟩:ByteArray).toList)=false:=hc
   have hs:=ht.short
   have hlt:=q3.pr.lt
   simp -dsimp only [XZ,SZ,EZ,astep,aun,AVal.cells,seval,abin,hc',Bool.not_false]
   refine DRX.ye rfl rfl ?_
   refine DRX.go rfl ?_
   simp -dsimp only [XZ,SZ,EZ,astep,aun,AVal.cells,seval]
   refine DCall.monoX (g37 q3.pr) ?_
   rintro a H4 ⟨rfl,h4⟩
   have q4:=q3.gro h4
   obtain ⟨hv4,hvd4⟩:=hv3.fr (h4.fr _) hvd3
   obtain ⟨H5,e5,k5,q5,r5,n5⟩:=q4.two (.cells 31 (tk ts s0.at_).cells)
   obtain ⟨hv5,hvd5⟩:=hv4.fr (k5.fr _) hvd4
   have hf5:afill [.int .i64 0,.str ⟨#[]⟩,.int .i64 0,.flt .f64 0,.int .i64 0] [(0,5,.agg (tk ts s0.at_).cells)]=some (tk ts s0.at_).cells:=rfl
   obtain ⟨v6,H6,e6,hv6,n6,f6,x6⟩:=Grow.one hv5 (id:=H4.next) (t':=31) (new:=(tk ts s0.at_).cells) r5.get rfl rfl (by omega) (b:=48) (by omega) (by omega)
   have hgt:GroT H6 v6 (l++[tk ts s0.at_]):=by
    have e1:(l++[tk ts s0.at_]).length=l.length+1:=by simp
    have e2:((l++[tk ts s0.at_]).map TK.cells).flatten=(l.map TK.cells).flatten++(tk ts s0.at_).cells:=by simp
    unfold GroT; rw [e1,e2]; exact hv6
   have q6:Good1 ts pid H D st s0 H6 D1:=q5.priv n6 fun j hj h=>f6 j hj fun e=>h.elim (fun h=>by have:=hvn j e; omega) (fun h=>hvd5 j e h)
   have n3:=q5.fr.1
   have hd6:∀ j,rid v6=some j→¬ D1 j:=fun j hj e=>by have:=x6 j hj; have:=q5.pr.dlt j e; omega
   simp -dsimp only [XZ,SZ,EZ,astep,aun,AVal.cells,seval,Env.parts,hf5,e5,e6]
   have w6:=w3
   obtain ⟨l7,hw7,H7,e7,p7,f7⟩:=q6.pr.step ht (hmid)
   have q7:=q6.adv p7 f7
   have w7:=w6
   obtain ⟨hv7,hvd7⟩:=hgt.fr f7 hd6
   have w7:=fun o h=>w3 o (Ev.pass h)
   refine DRX.go rfl ?_
   simp -dsimp only [XZ,SZ,EZ,astep,aun,AVal.cells,seval,l7,abin,hw7,e7]
   refine DRX.nm rfl ?_
   refine DRX.inLoop ?_
   have h7:=q7.pr.lt
   simp only [adv] at h7
   exact ih H7 D1 _ _ v6 (by unfold rem at hr ⊢; simp only [adv]; omega) q7 hv7 (fun j hj=>by have:=x6 j hj; omega) hvd7 (by simp [adv]; omega) w7
theorem u78 (ht:TOk ts) (hx:∀ n,n < rem ts st→Upto ts pid 67 .expr n):CN ts pid 78 [.ptr pid 0] .unary st:=by
 intro H D hp
 refine DCallX.of_body (fn:=Tryd.f78) (by kernel_rfl) c78 (by kernel_rfl) (by simp [f78]) ?_
 unfold f78
 simp only []
 have q0:=Good1.refl hp
 have w0:=fun o (h:Ev ts (rule ts (.unary) st) o)=>h
 refine DRX.go rfl ?_
 simp -dsimp only [XZ,SZ,EZ,astep,aun,AVal.cells,seval]
 refine DRX.go rfl ?_
 simp -dsimp only [XZ,SZ,EZ,astep,aun,AVal.cells,seval]
 refine DRX.nm rfl ?_
 refine DRX.loop ?_
 refine loop78a (N:=0) (t:=rule ts .unary st) rfl ht hp ?_ _ H D st [] .nils (Nat.le_refl _) q0 (Grow.nils _ _ _) (fun j hj=>(by cases hj)) (fun j hj=>(by cases hj)) (Nat.zero_le _) (fun o h=>w0 o (Ev.pass h))
 intro H1 D1 s1 l v q1 hv hvd hll w1
 have hx1:∀ n,n < rem ts s1→Upto ts pid 67 .expr n:=fun n hn=>hx n (by have:=q1.at_; unfold rem at *; omega)
 refine DRX.go rfl ?_
 simp -dsimp only [XZ,SZ,EZ,astep,aun,AVal.cells,seval]
 refine (u79 ht hx1 _ _ q1.pr).mono ?_
 rintro o H2 (⟨e,p,ev2,rfl,b⟩ | ⟨a2,s2,D2,ev2,rfl,ha2,g2⟩)
 ·exact DLeave.pan' (.inl ⟨e,p,w1 _ (Ev.callE ev2),q1.bad ⟨rfl,b⟩⟩)
 have q2:=q1.trans g2
 have w2:=fun o h=>w1 o (Ev.call ev2 h)
 simp -dsimp only [XZ,SZ,EZ,astep,aun,AVal.cells,seval]
 obtain ⟨hv2,hvd2⟩:=hv.fr g2.fr hvd
 have hlen:=hv2.row.len
 have hs:=ht.short
 have hlt:=q1.pr.lt
 have hw:IntKind.i64.wrap (((l.length:Nat):Int) - 1)=((l.length:Nat):Int) - 1:=by
  have hl:l.length < 100000:=by omega
  revert hl
  cases l.length with
  | zero=>intro _; decide
  | succ m=>intro hl; rw [show (((m+1:Nat):Int) - 1)=((m:Nat):Int) by omega]; exact wrap64 (by omega)
 rw [List.length_map] at hlen
 refine DRX.go rfl ?_
 simp -dsimp only [XZ,SZ,EZ,astep,aun,AVal.cells,seval,hlen,abin,hw]
 refine DRX.nm rfl ?_
 refine DRX.loop ?_
 refine loop78b (t:=rule ts .unary st) rfl ht hp (by omega) ?_ ?_ l.length H2 D2 s2 a2 (Nat.le_refl _) q2 ha2 hv2.row hvd2 (by rw [List.take_length]; exact w2)
 ·rintro T v H' ⟨e,p,rfl,ev,b⟩
  exact DLeave.pan' (.inl ⟨e,p,ev,b⟩)
 ·intro H' D' s a q ha ev
  refine DRX.go rfl ?_
  simp -dsimp only [XZ,SZ,EZ,astep,aun,AVal.cells,seval]
  refine DRX.nm rfl ?_
  exact DRX.retv ⟨_,by simp [aresult,ares,Env.get] <;> rfl,.inr ⟨a,s,D',ev,rfl,ha,q⟩⟩
end
end Go.Am.Rl
