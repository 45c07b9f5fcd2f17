/- Parts: V18, V1, V19, V20, V21, V22, V23, V24, V25, V26, V27, V2, V28, V29. -/
import Derived.Test.YtmoimchdhgoeeaaDoorXA
import Derived.Test.YtmoimchdhgoeeaaDoorFn2
import Derived.Test.YtmoimchdhgoeeaaDoorAmQ
set_option linter.unusedVariables false
set_option linter.unusedSimpArgs false
set_option maxRecDepth 20000
namespace Go.Am.Rl
open Go.Proofs
section
variable {H H1:AHeap} {s hd pt:ByteArray} {r i j:Nat} {e0:Int} {k:List AItem}
theorem err35 {v4 v5 v6 v91:AVal} (h4:∃ m,v4 = .int .i64 m) (hrl:r < H.next) (hn:H.next < H1.next) (hr:H1.get r=some (.cells 50 (scanCells s (i:Nat) e0))) (g1:H1.get H.next=some (.cells 35 tok0)) (f1:∀ j,j < H.next→H1.get j=H.get j) :
  DR Tryd.prog (kof k35) 135 (.code (.seq (.region false r35_9 [2,4]) (.seq (.region false r35_10 [2,3]) .ret))::k) [(0,.ptr r 0),(2,.ptr H.next 0),(4,v4),(5,v5),(6,v6),(91,v91)] H1 fun T' H'=>∃ a,aresult H' T' [.cell 2 (some 5),.tmp 3]=some a∧Told H H' r s i e0 a (.inl 22):=by
 obtain ⟨m,rfl⟩:=h4
 have sr:=astore_one hr (o:=2) (x:=.int .i64 22) (by simp [scanCells]) rfl
 obtain ⟨H2,hH2⟩:∃ H2,H2=H1.set r (.cells 50 ((scanCells s (i:Nat) e0).set 2 (.int .i64 22))):=⟨_,rfl⟩
 rw [← hH2] at sr
 have r2:H2.get r=some (.cells 50 (scanCells s (i:Nat) 22)):=by rw [hH2,AHeap.get_set,if_pos rfl,if_pos (AHeap.get_lt hr)]; rfl
 have f2:∀ j,j≠r→H2.get j=H1.get j:=fun j hj=>by rw [hH2,AHeap.get_set,if_neg hj]
 have hn2:H2.next=H1.next:=by rw [hH2]; rfl
 have g2:H2.get H.next=some (.cells 35 tok0):=(f2 _ (by omega)).trans g1
 have st:=store_all (n:=5) g2 (new:=tok0) rfl rfl rfl
 have ge:(H2.set H.next (.cells 35 tok0)).get H.next=some (.cells 35 tok0):=by rw [AHeap.get_set,if_pos rfl,if_pos (AHeap.get_lt g2)]
 have hld:=load_all (n:=5) ge rfl
 unfold tok0 at st
 refine Dg rfl ?_
 simp -dsimp only [SE,astep,seval,rowq,sr]
 refine Dg rfl ?_
 simp -dsimp only [SE,astep,seval,rowq,Env.parts,afill,st]
 refine Dm rfl ?_
 refine DR.ret ?_
 refine ⟨.tup [.agg tok0,.int .i64 m],?_,⟨⟨_,_,rfl,rfl,rfl⟩,?_⟩,?_,fun j hj hne=> ?_⟩
 ·have hld':aload (H2.set H.next (.cells 35 [.int .i64 0,.str ⟨#[]⟩,.int .i64 0,.flt .f64 0,.int .i64 0])) (some 5) (.ptr H.next 0)=_:=hld
  simp [aresult,ares,Env.get,hld']
 ·rw [AHeap.get_set,if_neg (by omega)]; exact r2
 ·show H.next≤H2.next; omega
 ·rw [AHeap.get_set,if_neg (by omega),f2 j hne,f1 j hj]
end
theorem app_empty (s:ByteArray):s++(⟨#[]⟩:ByteArray)=s:=ByteArray.append_empty
theorem cat_small {a b:ByteArray} (h:a.size+b.size < 1000000):abin .add (.str a) (.str b)=some (.str (a++b)):=by
 have hm:IntKind.i64.max=9223372036854775807:=by decide
 simp only [abin]
 rw [hm,if_neg (by omega)]
theorem dotted_next {s:ByteArray} {j:Nat} (h:dotted s j=true):∃ d,s[j+1]? = some d∧isDig d.toNat=true:=by
 cases h1:s[j+1]? with
 | none=>rw [dotted_none h1] at h; cases h
 | some d=>
  cases h0:s[j]? with
  | none=>unfold dotted at h; rw [h0] at h; cases h
  | some c=>
   rw [dotted_at h0 h1,Bool.and_eq_true] at h
   exact ⟨d,rfl,h.2⟩
theorem ext_at {s:ByteArray} {a b k:Nat} (hb:b≤s.size) (hk:k < b - a):(s.extract a b)[k]? = s[a+k]? :=by
 have hsz:(s.extract a b).size=b - a:=size_ext hb
 rw [getElem?_pos (s.extract a b) k (by omega),getElem?_pos s (a+k) (by omega),ByteArray.getElem_extract]
theorem g35 {H:AHeap} {r:Nat} {s:ByteArray} {i:Nat} {e0:Int} (hr:H.get r=some (.cells 50 (scanCells s (i:Nat) e0))) (hsz:s.size < 1000000) (hi:i≤s.size) :
  DCall Tryd.prog 35 [.ptr r 0] H fun a H'=>Told H H' r s i e0 a (numTok s i 0):=by
 refine DCall.of_body (fn:=Tryd.f35) (by kernel_rfl) c35 (by kernel_rfl) (by simp [f35]) ?_
 unfold f35
 simp only []
 obtain ⟨H1,hH1⟩:∃ H1,H1=H.push (.cells 35 [.int .i64 0,.str ⟨#[]⟩,.int .i64 0,.flt .f64 0,.int .i64 0]):=⟨_,rfl⟩
 have hrl:=AHeap.get_lt hr
 have n1:H1.next=H.next+1:=by rw [hH1]; rfl
 have g1:H1.get H.next=some (.cells 35 tok0):=by rw [hH1,AHeap.get_push,if_pos rfl]; rfl
 have f1:∀ j,j < H.next→H1.get j=H.get j:=fun j hj=>by rw [hH1,AHeap.get_push,if_neg (by omega)]
 have r1:H1.get r=some (.cells 50 (scanCells s (i:Nat) e0)):=(f1 r hrl).trans hr
 have l0:=load_cell r1 (o:=0) (v:=.str s) rfl
 have l1:=load_cell r1 (o:=1) (v:=.int .i64 (i:Nat)) rfl
 refine Dg rfl ?_
 simp -dsimp only [SE,astep,seval,rowq,← hH1]
 clear hH1
 obtain ⟨j,hj⟩:∃ j,j=skip isDig s i:=⟨_,rfl⟩
 have hjle:i≤j∧j≤s.size:=by rw [hj]; exact skip_le hi
 have hsl:∀ T:Env,T.get 25=some (.int .i64 (i:Nat))→T.get 26=some (.int .i64 (j:Nat))→aslcS T (.str s) (some (.t 25)) (some (.t 26))=some (.str (s.extract i j)):=fun T e1 e2=>slc_both e1 e2 (by omega) hjle.2
 obtain ⟨hd,hhd⟩:∃ hd,hd=s.extract i j:=⟨_,rfl⟩
 have hds:hd.size=j - i:=by rw [hhd,size_ext hjle.2]
 have hnum:numTok s i 0=numAt s hd j 0:=by unfold numTok; rw [← hj,hhd]
 rw [hnum]
 unfold numAt
 refine Dg rfl ?_
 simp -dsimp only [SE,astep,seval,rowq,l1]
 refine (g21 r1 (fun b H=>of_chk t34 b H) (by omega) i).mono ?_
 rintro a H1 ⟨rfl,rfl⟩
 simp -dsimp only [SE,astep,seval,rowq]
 rw [← hj]
 refine Dm rfl ?_
 refine DR.draw (by kernel_rfl) d35_2 ?_
 simp -dsimp only [m35_2,SE,astep,seval,rowq,DS_nil,DS_cons,seesAll,staysAll,abit,List.getD_cons_zero,List.getD_cons_succ,AOp.quiet,AOp.reads,true_and,and_true,decide_true,decide_false,and_self,l0,l1]
 rw [hsl _ rfl rfl,← hhd]
 simp -dsimp only [SE,astep,seval,rowq]
 refine Dg rfl ?_
 simp -dsimp only [SE,astep,seval,rowq]
 refine Dm rfl ?_
 refine reg35_4 r1 hsz hjle.2 ?_
 rintro H1 rfl
 cases h7:dotted s j with
 | false=>
  rw [if_neg (show ¬ false=true by simp)]
  refine Dn rfl rfl ?_
  refine Dm rfl ?_
  refine DR.only [0,2,4,5,6] ?_
  refine reg35_8 (pt:=⟨#[]⟩) (by omega) (show 0 < 1000000 by omega) ?_
  have he:(⟨#[]⟩:ByteArray).size=0:=rfl
  rw [he,show (!decide (0=0))=false by rfl,Bool.false_and,Bool.or_false]
  cases h5:(decide ((hd.size:Int) > 1)&&lead0 hd 0) with
  | true=>
   rw [if_pos rfl,Bool.true_or]
   refine Dy rfl rfl ?_
   exact err35 ⟨_,rfl⟩ hrl (by omega) r1 g1 f1
  | false=>
   rw [if_neg (by simp),Bool.false_or]
   unfold numI
   cases h18:decide ((hd.size:Int) > 18) with
   | true=>
    rw [Bool.true_or,if_pos rfl]
    refine Dy rfl rfl ?_
    exact err35 ⟨_,rfl⟩ hrl (by omega) r1 g1 f1
   | false=>
    rw [Bool.false_or]
    obtain ⟨H2,hH2⟩:∃ H2,H2=H1.push (.cells 5 (hd.data.toList.map fun b=>AVal.int .u8 b.toNat)):=⟨_,rfl⟩
    have hrow:Row H2 5 (.sl H1.next 0 hd.size none) (byteCells hd):=byteCells_row (by rw [hH2,AHeap.get_push,if_pos rfl]; rfl)
    have f2:∀ j,j < H1.next→H2.get j=H1.get j:=fun j hj=>by rw [hH2,AHeap.get_push,if_neg (by omega)]
    have n2:H2.next=H1.next+1:=by rw [hH2]; rfl
    have hcat:=cat_small (a:=hd) (b:=⟨#[]⟩) (by rw [he]; omega)
    rw [app_empty] at hcat
    have h63:hd.size < 9223372036854775808:=by omega
    have hlh:∀ H b,alenT H 1 (.sl b 0 hd.size none)=some hd.size:=fun _ _=>rfl
    have r2:=(f2 r (by omega)).trans r1
    have g2:=(f2 H.next (by omega)).trans g1
    refine Dn rfl rfl ?_
    refine Dg rfl ?_
    simp -dsimp only [SE,astep,seval,rowq]
    refine Dg rfl ?_
    simp -dsimp only [SE,astep,seval,rowq,hcat,if_pos h63,← hH2,hlh]
    clear hH2
    refine Dm rfl ?_
    refine DR.loop ?_
    refine loop35a hrow (by omega) rfl hd.size 0 0 (by omega) ?_
    intro y hy
    have hyw:y=whole hd:=hy
    rw [← hyw]
    refine Dg rfl ?_
    simp -dsimp only [SE,astep,seval,rowq,abin,emp,he]
    refine Dy rfl rfl ?_
    refine Dg rfl ?_
    simp -dsimp only [SE,astep,seval,rowq,abin]
    cases hmax:decide (y > 576460752303423487) with
    | true=>
     rw [if_pos rfl]
     have sr:=astore_one r2 (o:=2) (x:=.int .i64 22) (by simp [scanCells]) rfl
     obtain ⟨H3,hH3⟩:∃ H3,H3=H2.set r (.cells 50 ((scanCells s (i:Nat) e0).set 2 (.int .i64 22))):=⟨_,rfl⟩
     rw [← hH3] at sr
     have r3:H3.get r=some (.cells 50 (scanCells s (i:Nat) 22)):=by rw [hH3,AHeap.get_set,if_pos rfl,if_pos (AHeap.get_lt r2)]; rfl
     have f3:∀ j,j≠r→H3.get j=H2.get j:=fun j hj=>by rw [hH3,AHeap.get_set,if_neg hj]
     have hn3:H3.next=H2.next:=by rw [hH3]; rfl
     have g3:H3.get H.next=some (.cells 35 tok0):=(f3 _ (by omega)).trans g2
     have st:=store_all (n:=5) g3 (new:=tokC 3 ⟨#[]⟩ y 0 0) rfl rfl rfl
     have ge:(H3.set H.next (.cells 35 (tokC 3 ⟨#[]⟩ y 0 0))).get H.next=some (.cells 35 (tokC 3 ⟨#[]⟩ y 0 0)):=by rw [AHeap.get_set,if_pos rfl,if_pos (AHeap.get_lt g3)]
     have hld:=load_all (n:=5) ge rfl
     unfold tokC at st
     refine Dy rfl rfl ?_
     refine Dg rfl ?_
     simp -dsimp only [SE,astep,seval,rowq,sr]
     refine Dg rfl ?_
     simp -dsimp only [SE,astep,seval,rowq,Env.parts,afill,AVal.cells,LZ,st]
     refine Dm rfl ?_
     refine DR.ret ?_
     refine ⟨.tup [.agg (tokC 3 ⟨#[]⟩ y 0 0),.int .i64 (j:Nat)],?_,⟨⟨_,_,rfl,rfl,rfl⟩,?_⟩,?_,fun q hq hne=> ?_⟩
     ·have hld':aload (H3.set H.next (.cells 35 [.int .i64 3,.str ⟨#[]⟩,.int .i64 y,.flt .f64 0,.int .i64 0])) (some 5) (.ptr H.next 0)=_:=hld
      simp [aresult,ares,Env.get,hld']
     ·rw [AHeap.get_set,if_neg (by omega)]; exact r3
     ·show H.next≤H3.next; omega
     ·rw [AHeap.get_set,if_neg (by omega),f3 q hne,f2 q (by omega),f1 q hq]
    | false=>
     rw [if_neg (by simp)]
     have st:=store_all (n:=5) g2 (new:=tokC 3 ⟨#[]⟩ y 0 0) rfl rfl rfl
     have ge:(H2.set H.next (.cells 35 (tokC 3 ⟨#[]⟩ y 0 0))).get H.next=some (.cells 35 (tokC 3 ⟨#[]⟩ y 0 0)):=by rw [AHeap.get_set,if_pos rfl,if_pos (AHeap.get_lt g2)]
     have hld:=load_all (n:=5) ge rfl
     unfold tokC at st
     refine Dn rfl rfl ?_
     refine Dg rfl ?_
     simp -dsimp only [SE,astep,seval,rowq,Env.parts,afill,AVal.cells,LZ,st]
     refine Dm rfl ?_
     refine DR.ret ?_
     refine ⟨.tup [.agg (tokC 3 ⟨#[]⟩ y 0 0),.int .i64 (j:Nat)],?_,⟨rfl,?_⟩,?_,fun q hq hne=> ?_⟩
     ·have hld':aload (H2.set H.next (.cells 35 [.int .i64 3,.str ⟨#[]⟩,.int .i64 y,.flt .f64 0,.int .i64 0])) (some 5) (.ptr H.next 0)=_:=hld
      simp [aresult,ares,Env.get,hld']
     ·rw [AHeap.get_set,if_neg (by omega)]; exact r2
     ·show H.next≤H2.next; omega
     ·rw [AHeap.get_set,if_neg (by omega),f2 q (by omega),f1 q hq]
 | true=>
  rw [if_pos (show true=true by rfl)]
  obtain ⟨d,hdt,hdd⟩:=dotted_next h7
  have hjlt:=size_of_some hdt
  have hw:IntKind.i64.wrap ((j:Int)+1)=((j+1:Nat):Int):=wrap64 (n:=j+1) (by omega)
  obtain ⟨e,he⟩:∃ e,e=skip isDig s (j+1):=⟨_,rfl⟩
  have hele:j+1≤e∧e≤s.size:=by rw [he]; exact skip_le (by omega)
  have helt:j+1+1≤e:=by rw [he]; exact skip_next hdt hdd
  have hsl2:∀ T:Env,T.get 64=some (.int .i64 ((j+1:Nat):Int))→T.get 65=some (.int .i64 (e:Nat))→aslcS T (.str s) (some (.t 64)) (some (.t 65))=some (.str (s.extract (j+1) e)):=fun T e1 e2=>slc_both e1 e2 (by omega) hele.2
  obtain ⟨pt,hpt⟩:∃ pt,pt=s.extract (j+1) e:=⟨_,rfl⟩
  have hps:pt.size=e - (j+1):=by rw [hpt,size_ext hele.2]
  have hdig:∀ q,q < pt.size→∃ c,pt[q]? = some c∧isDig c.toNat=true:=by
   intro q hq
   rw [hpt,ext_at hele.2 (by omega)]
   refine skipW_all (n:=s.size - (j+1)) (i:=j+1) (by omega) ?_
   have:skipW isDig s (s.size - (j+1)) (j+1)=e:=he.symm
   rw [this]; omega
  rw [← he,← hpt]
  refine Dy rfl rfl ?_
  refine Dg rfl ?_
  simp -dsimp only [SE,astep,seval,rowq,abin_addI,hw]
  refine Dg rfl ?_
  simp -dsimp only [SE,astep,seval,rowq]
  refine (g21 r1 (fun b H=>of_chk t34 b H) (by omega) (j+1)).mono ?_
  rintro a H1 ⟨rfl,rfl⟩
  simp -dsimp only [SE,astep,seval,rowq]
  rw [← he]
  refine Dg rfl ?_
  simp -dsimp only [SE,astep,seval,rowq,l0]
  rw [hsl2 _ rfl rfl,← hpt]
  simp -dsimp only [SE,astep,seval,rowq]
  refine Dm rfl ?_
  refine reg35_8 (by omega) (by omega) ?_
  have hp0:decide (pt.size=0)=false:=decide_eq_false (by omega)
  rw [hp0,Bool.not_false,Bool.true_and]
  cases h5:(decide ((hd.size:Int) > 1)&&lead0 hd 0) with
  | true=>
   rw [if_pos rfl,Bool.true_or,Bool.true_or]
   refine Dy rfl rfl ?_
   exact err35 ⟨_,rfl⟩ hrl (by omega) r1 g1 f1
  | false=>
   rw [if_neg (by simp),Bool.false_or]
   unfold numF
   cases h15:decide ((hd.size:Int)+(pt.size:Int) > 15) with
   | true=>
    rw [Bool.true_or,if_pos rfl]
    refine Dy rfl rfl ?_
    exact err35 ⟨_,rfl⟩ hrl (by omega) r1 g1 f1
   | false=>
    have h16:hd.size+pt.size < 16:=by have:=of_decide_eq_false h15; omega
    have h18:decide ((hd.size:Int) > 18)=false:=by simp; omega
    rw [h18,Bool.false_or,if_neg (by simp)]
    obtain ⟨w,hwd⟩:∃ w,w=hd++pt:=⟨_,rfl⟩
    have hws:w.size=hd.size+pt.size:=by rw [hwd,ByteArray.size_append]
    obtain ⟨H2,hH2⟩:∃ H2,H2=H1.push (.cells 5 (w.data.toList.map fun b=>AVal.int .u8 b.toNat)):=⟨_,rfl⟩
    have hrow:Row H2 5 (.sl H1.next 0 w.size none) (byteCells w):=byteCells_row (by rw [hH2,AHeap.get_push,if_pos rfl]; rfl)
    have f2:∀ j,j < H1.next→H2.get j=H1.get j:=fun j hj=>by rw [hH2,AHeap.get_push,if_neg (by omega)]
    have n2:H2.next=H1.next+1:=by rw [hH2]; rfl
    have hcat:=cat_small (a:=hd) (b:=pt) (by omega)
    rw [← hwd] at hcat
    have h63:w.size < 9223372036854775808:=by omega
    have hlh:∀ H b,alenT H 1 (.sl b 0 w.size none)=some w.size:=fun _ _=>rfl
    obtain ⟨H3,hH3⟩:∃ H3,H3=H2.push (.siter pt 0):=⟨_,rfl⟩
    have f3:∀ j,j < H2.next→H3.get j=H2.get j:=fun j hj=>by rw [hH3,AHeap.get_push,if_neg (by omega)]
    have n3:H3.next=H2.next+1:=by rw [hH3]; rfl
    have i3:H3.get H2.next=some (.siter pt 0):=by rw [hH3,AHeap.get_push,if_pos rfl]
    refine Dn rfl rfl ?_
    refine Dg rfl ?_
    simp -dsimp only [SE,astep,seval,rowq]
    refine Dg rfl ?_
    simp -dsimp only [SE,astep,seval,rowq,hcat,if_pos h63,← hH2,hlh]
    refine Dm rfl ?_
    refine DR.loop ?_
    refine loop35a hrow (by omega) rfl w.size 0 0 (by omega) ?_
    intro y hy
    have hyw:y=whole w:=hy
    rw [← hwd,← hyw]
    refine Dg rfl ?_
    simp -dsimp only [SE,astep,seval,rowq,abin,emp,hp0]
    refine Dn rfl rfl ?_
    refine Dg rfl ?_
    simp -dsimp only [SE,astep,seval,rowq]
    refine Dg rfl ?_
    simp -dsimp only [SE,astep,seval,rowq,← hH3]
    refine Dm rfl ?_
    refine DR.loop ?_
    refine loop35b (H0:=H3) hdig (by omega) rfl pt.size 0 H3 (by omega) i3 rfl (fun _ _=>rfl) ?_
    intro H4 hn4 f4
    have g4:H4.get H.next=some (.cells 35 tok0):=by rw [f4 _ (by omega),f3 _ (by omega),f2 _ (by omega),g1]
    have r4:H4.get r=some (.cells 50 (scanCells s (i:Nat) e0)):=by rw [f4 _ (by omega),f3 _ (by omega),f2 _ (by omega),r1]
    have hq:=abin_quo y (n:=pt.size) (by omega)
    have st:=store_all (n:=5) g4 (new:=tokC 4 ⟨#[]⟩ 0 (quoW y pt.size) 0) rfl rfl rfl
    have ge:(H4.set H.next (.cells 35 (tokC 4 ⟨#[]⟩ 0 (quoW y pt.size) 0))).get H.next=some (.cells 35 (tokC 4 ⟨#[]⟩ 0 (quoW y pt.size) 0)):=by rw [AHeap.get_set,if_pos rfl,if_pos (AHeap.get_lt g4)]
    have hld:=load_all (n:=5) ge rfl
    unfold tokC at st
    refine Dg rfl ?_
    simp -dsimp only [SE,astep,seval,rowq,hq,Env.parts,afill,AVal.cells,LZ,st]
    refine Dm rfl ?_
    refine DR.ret ?_
    refine ⟨.tup [.agg (tokC 4 ⟨#[]⟩ 0 (quoW y pt.size) 0),.int .i64 (e:Nat)],?_,⟨rfl,?_⟩,?_,fun q hq hne=> ?_⟩
    ·have hld':aload (H4.set H.next (.cells 35 [.int .i64 4,.str ⟨#[]⟩,.int .i64 0,.flt .f64 (quoW y pt.size),.int .i64 0])) (some 5) (.ptr H.next 0)=_:=hld
     simp [aresult,ares,Env.get,hld']
    ·rw [AHeap.get_set,if_neg (by omega)]; exact r4
    ·show H.next≤H4.next; omega
    ·rw [AHeap.get_set,if_neg (by omega),f4 q (by omega),f3 q (by omega),f2 q (by omega),f1 q hq]
end Go.Am.Rl
namespace Go.Am.Rl
open Go.Proofs
def kept (s:ByteArray):Bool:=(s.toList==(⟨#[97,102,116,101,114]⟩:ByteArray).toList) || (s.toList==(⟨#[97,110,100,97,108,115,111]⟩:ByteArray).toList) || (s.toList==(⟨#[98,101,103,105,110]⟩:ByteArray).toList) || (s.toList==(⟨#[99,97,115,101]⟩:ByteArray).toList) || (s.toList==(⟨#[99,97,116,99,104]⟩:ByteArray).toList) || (s.toList==(⟨#[100,105,118]⟩:ByteArray).toList) || (s.toList==(⟨#[101,110,100]⟩:ByteArray).toList) || (s.toList==(⟨#[102,117,110]⟩:ByteArray).toList) || (s.toList==(⟨#[110,111,116]⟩:ByteArray).toList) || (s.toList==(⟨#[111,102]⟩:ByteArray).toList) || (s.toList==(⟨#[111,114,101,108,115,101]⟩:ByteArray).toList) || (s.toList==(⟨#[114,101,99,101,105,118,101]⟩:ByteArray).toList) || (s.toList==(⟨#[114,101,109]⟩:ByteArray).toList) || (s.toList==(⟨#[116,114,121]⟩:ByteArray).toList) || (s.toList==(⟨#[119,104,101,110]⟩:ByteArray).toList)
theorem g13 {H:AHeap} (s:ByteArray):DCall Tryd.prog 13 [.str s] H fun a H'=>H'=H∧a = .bool (kept s):=by
 refine DCall.of_body (fn:=Tryd.f13) (by kernel_rfl) c13 (by kernel_rfl) (by simp [f13]) ?_
 unfold f13
 simp only []
 refine Dm rfl ?_
 refine DR.ops ?_
 simp -dsimp only [r13_0,SE,astep,seval,rowq]
 refine Dm rfl ?_
 refine DR.ops ?_
 simp -dsimp only [r13_1,SE,astep,seval,rowq]
 refine Dm rfl ?_
 refine DR.ops ?_
 simp -dsimp only [r13_2,SE,astep,seval,rowq,abin]
 by_cases h0:(s.toList==(⟨#[97,102,116,101,114]⟩:ByteArray).toList)=true
 ·rw [h0]
  refine DR.yes rfl ?_
  refine Dm rfl ?_
  refine DR.yes rfl ?_
  refine Dm rfl ?_
  refine DR.ops ?_
  simp -dsimp only [r13_17,SE,astep,seval,rowq]
  refine Dm rfl ?_
  exact DR.ret ⟨_,by simp [aresult,ares,Env.get] <;> rfl,rfl,by simp only [kept,h0,Bool.or_true,Bool.true_or,Bool.or_false,Bool.false_or]⟩
 rw [Bool.not_eq_true] at h0
 rw [h0]
 refine DR.no rfl ?_
 refine Dm rfl ?_
 refine DR.ops ?_
 simp -dsimp only [r13_3,SE,astep,seval,rowq,abin]
 by_cases h1:(s.toList==(⟨#[97,110,100,97,108,115,111]⟩:ByteArray).toList)=true
 ·rw [h1]
  refine DR.yes rfl ?_
  refine Dm rfl ?_
  refine DR.yes rfl ?_
  refine Dm rfl ?_
  refine DR.ops ?_
  simp -dsimp only [r13_17,SE,astep,seval,rowq]
  refine Dm rfl ?_
  exact DR.ret ⟨_,by simp [aresult,ares,Env.get] <;> rfl,rfl,by simp only [kept,h0,h1,Bool.or_true,Bool.true_or,Bool.or_false,Bool.false_or]⟩
 rw [Bool.not_eq_true] at h1
 rw [h1]
 refine DR.no rfl ?_
 refine Dm rfl ?_
 refine DR.ops ?_
 simp -dsimp only [r13_4,SE,astep,seval,rowq,abin]
 by_cases h2:(s.toList==(⟨#[98,101,103,105,110]⟩:ByteArray).toList)=true
 ·rw [h2]
  refine DR.yes rfl ?_
  refine Dm rfl ?_
  refine DR.yes rfl ?_
  refine Dm rfl ?_
  refine DR.ops ?_
  simp -dsimp only [r13_17,SE,astep,seval,rowq]
  refine Dm rfl ?_
  exact DR.ret ⟨_,by simp [aresult,ares,Env.get] <;> rfl,rfl,by simp only [kept,h0,h1,h2,Bool.or_true,Bool.true_or,Bool.or_false,Bool.false_or]⟩
 rw [Bool.not_eq_true] at h2
 rw [h2]
 refine DR.no rfl ?_
 refine Dm rfl ?_
 refine DR.ops ?_
 simp -dsimp only [r13_5,SE,astep,seval,rowq,abin]
 by_cases h3:(s.toList==(⟨#[99,97,115,101]⟩:ByteArray).toList)=true
 ·rw [h3]
  refine DR.yes rfl ?_
  refine Dm rfl ?_
  refine DR.yes rfl ?_
  refine Dm rfl ?_
  refine DR.ops ?_
  simp -dsimp only [r13_17,SE,astep,seval,rowq]
  refine Dm rfl ?_
  exact DR.ret ⟨_,by simp [aresult,ares,Env.get] <;> rfl,rfl,by simp only [kept,h0,h1,h2,h3,Bool.or_true,Bool.true_or,Bool.or_false,Bool.false_or]⟩
 rw [Bool.not_eq_true] at h3
 rw [h3]
 refine DR.no rfl ?_
 refine Dm rfl ?_
 refine DR.ops ?_
 simp -dsimp only [r13_6,SE,astep,seval,rowq,abin]
 by_cases h4:(s.toList==(⟨#[99,97,116,99,104]⟩:ByteArray).toList)=true
 ·rw [h4]
  refine DR.yes rfl ?_
  refine Dm rfl ?_
  refine DR.yes rfl ?_
  refine Dm rfl ?_
  refine DR.ops ?_
  simp -dsimp only [r13_17,SE,astep,seval,rowq]
  refine Dm rfl ?_
  exact DR.ret ⟨_,by simp [aresult,ares,Env.get] <;> rfl,rfl,by simp only [kept,h0,h1,h2,h3,h4,Bool.or_true,Bool.true_or,Bool.or_false,Bool.false_or]⟩
 rw [Bool.not_eq_true] at h4
 rw [h4]
 refine DR.no rfl ?_
 refine Dm rfl ?_
 refine DR.ops ?_
 simp -dsimp only [r13_7,SE,astep,seval,rowq,abin]
 by_cases h5:(s.toList==(⟨#[100,105,118]⟩:ByteArray).toList)=true
 ·rw [h5]
  refine DR.yes rfl ?_
  refine Dm rfl ?_
  refine DR.yes rfl ?_
  refine Dm rfl ?_
  refine DR.ops ?_
  simp -dsimp only [r13_17,SE,astep,seval,rowq]
  refine Dm rfl ?_
  exact DR.ret ⟨_,by simp [aresult,ares,Env.get] <;> rfl,rfl,by simp only [kept,h0,h1,h2,h3,h4,h5,Bool.or_true,Bool.true_or,Bool.or_false,Bool.false_or]⟩
 rw [Bool.not_eq_true] at h5
 rw [h5]
 refine DR.no rfl ?_
 refine Dm rfl ?_
 refine DR.ops ?_
 simp -dsimp only [r13_8,SE,astep,seval,rowq,abin]
 by_cases h6:(s.toList==(⟨#[101,110,100]⟩:ByteArray).toList)=true
 ·rw [h6]
  refine DR.yes rfl ?_
  refine Dm rfl ?_
  refine DR.yes rfl ?_
  refine Dm rfl ?_
  refine DR.ops ?_
  simp -dsimp only [r13_17,SE,astep,seval,rowq]
  refine Dm rfl ?_
  exact DR.ret ⟨_,by simp [aresult,ares,Env.get] <;> rfl,rfl,by simp only [kept,h0,h1,h2,h3,h4,h5,h6,Bool.or_true,Bool.true_or,Bool.or_false,Bool.false_or]⟩
 rw [Bool.not_eq_true] at h6
 rw [h6]
 refine DR.no rfl ?_
 refine Dm rfl ?_
 refine DR.ops ?_
 simp -dsimp only [r13_9,SE,astep,seval,rowq,abin]
 by_cases h7:(s.toList==(⟨#[102,117,110]⟩:ByteArray).toList)=true
 ·rw [h7]
  refine DR.yes rfl ?_
  refine Dm rfl ?_
  refine DR.yes rfl ?_
  refine Dm rfl ?_
  refine DR.ops ?_
  simp -dsimp only [r13_17,SE,astep,seval,rowq]
  refine Dm rfl ?_
  exact DR.ret ⟨_,by simp [aresult,ares,Env.get] <;> rfl,rfl,by simp only [kept,h0,h1,h2,h3,h4,h5,h6,h7,Bool.or_true,Bool.true_or,Bool.or_false,Bool.false_or]⟩
 rw [Bool.not_eq_true] at h7
 rw [h7]
 refine DR.no rfl ?_
 refine Dm rfl ?_
 refine DR.ops ?_
 simp -dsimp only [r13_10,SE,astep,seval,rowq,abin]
 by_cases h8:(s.toList==(⟨#[110,111,116]⟩:ByteArray).toList)=true
 ·rw [h8]
  refine DR.yes rfl ?_
  refine Dm rfl ?_
  refine DR.yes rfl ?_
  refine Dm rfl ?_
  refine DR.ops ?_
  simp -dsimp only [r13_17,SE,astep,seval,rowq]
  refine Dm rfl ?_
  exact DR.ret ⟨_,by simp [aresult,ares,Env.get] <;> rfl,rfl,by simp only [kept,h0,h1,h2,h3,h4,h5,h6,h7,h8,Bool.or_true,Bool.true_or,Bool.or_false,Bool.false_or]⟩
 rw [Bool.not_eq_true] at h8
 rw [h8]
 refine DR.no rfl ?_
 refine Dm rfl ?_
 refine DR.ops ?_
 simp -dsimp only [r13_11,SE,astep,seval,rowq,abin]
 by_cases h9:(s.toList==(⟨#[111,102]⟩:ByteArray).toList)=true
 ·rw [h9]
  refine DR.yes rfl ?_
  refine Dm rfl ?_
  refine DR.yes rfl ?_
  refine Dm rfl ?_
  refine DR.ops ?_
  simp -dsimp only [r13_17,SE,astep,seval,rowq]
  refine Dm rfl ?_
  exact DR.ret ⟨_,by simp [aresult,ares,Env.get] <;> rfl,rfl,by simp only [kept,h0,h1,h2,h3,h4,h5,h6,h7,h8,h9,Bool.or_true,Bool.true_or,Bool.or_false,Bool.false_or]⟩
 rw [Bool.not_eq_true] at h9
 rw [h9]
 refine DR.no rfl ?_
 refine Dm rfl ?_
 refine DR.ops ?_
 simp -dsimp only [r13_12,SE,astep,seval,rowq,abin]
 by_cases h10:(s.toList==(⟨#[111,114,101,108,115,101]⟩:ByteArray).toList)=true
 ·rw [h10]
  refine DR.yes rfl ?_
  refine Dm rfl ?_
  refine DR.yes rfl ?_
  refine Dm rfl ?_
  refine DR.ops ?_
  simp -dsimp only [r13_17,SE,astep,seval,rowq]
  refine Dm rfl ?_
  exact DR.ret ⟨_,by simp [aresult,ares,Env.get] <;> rfl,rfl,by simp only [kept,h0,h1,h2,h3,h4,h5,h6,h7,h8,h9,h10,Bool.or_true,Bool.true_or,Bool.or_false,Bool.false_or]⟩
 rw [Bool.not_eq_true] at h10
 rw [h10]
 refine DR.no rfl ?_
 refine Dm rfl ?_
 refine DR.ops ?_
 simp -dsimp only [r13_13,SE,astep,seval,rowq,abin]
 by_cases h11:(s.toList==(⟨#[114,101,99,101,105,118,101]⟩:ByteArray).toList)=true
 ·rw [h11]
  refine DR.yes rfl ?_
  refine Dm rfl ?_
  refine DR.yes rfl ?_
  refine Dm rfl ?_
  refine DR.ops ?_
  simp -dsimp only [r13_17,SE,astep,seval,rowq]
  refine Dm rfl ?_
  exact DR.ret ⟨_,by simp [aresult,ares,Env.get] <;> rfl,rfl,by simp only [kept,h0,h1,h2,h3,h4,h5,h6,h7,h8,h9,h10,h11,Bool.or_true,Bool.true_or,Bool.or_false,Bool.false_or]⟩
 rw [Bool.not_eq_true] at h11
 rw [h11]
 refine DR.no rfl ?_
 refine Dm rfl ?_
 refine DR.ops ?_
 simp -dsimp only [r13_14,SE,astep,seval,rowq,abin]
 by_cases h12:(s.toList==(⟨#[114,101,109]⟩:ByteArray).toList)=true
 ·rw [h12]
  refine DR.yes rfl ?_
  refine Dm rfl ?_
  refine DR.yes rfl ?_
  refine Dm rfl ?_
  refine DR.ops ?_
  simp -dsimp only [r13_17,SE,astep,seval,rowq]
  refine Dm rfl ?_
  exact DR.ret ⟨_,by simp [aresult,ares,Env.get] <;> rfl,rfl,by simp only [kept,h0,h1,h2,h3,h4,h5,h6,h7,h8,h9,h10,h11,h12,Bool.or_true,Bool.true_or,Bool.or_false,Bool.false_or]⟩
 rw [Bool.not_eq_true] at h12
 rw [h12]
 refine DR.no rfl ?_
 refine Dm rfl ?_
 refine DR.ops ?_
 simp -dsimp only [r13_15,SE,astep,seval,rowq,abin]
 by_cases h13:(s.toList==(⟨#[116,114,121]⟩:ByteArray).toList)=true
 ·rw [h13]
  refine DR.yes rfl ?_
  refine Dm rfl ?_
  refine DR.yes rfl ?_
  refine Dm rfl ?_
  refine DR.ops ?_
  simp -dsimp only [r13_17,SE,astep,seval,rowq]
  refine Dm rfl ?_
  exact DR.ret ⟨_,by simp [aresult,ares,Env.get] <;> rfl,rfl,by simp only [kept,h0,h1,h2,h3,h4,h5,h6,h7,h8,h9,h10,h11,h12,h13,Bool.or_true,Bool.true_or,Bool.or_false,Bool.false_or]⟩
 rw [Bool.not_eq_true] at h13
 rw [h13]
 refine DR.no rfl ?_
 refine Dm rfl ?_
 refine DR.ops ?_
 simp -dsimp only [r13_16,SE,astep,seval,rowq,abin]
 by_cases h14:(s.toList==(⟨#[119,104,101,110]⟩:ByteArray).toList)=true
 ·rw [h14]
  refine Dm rfl ?_
  refine DR.yes rfl ?_
  refine Dm rfl ?_
  refine DR.ops ?_
  simp -dsimp only [r13_17,SE,astep,seval,rowq]
  refine Dm rfl ?_
  exact DR.ret ⟨_,by simp [aresult,ares,Env.get] <;> rfl,rfl,by simp only [kept,h0,h1,h2,h3,h4,h5,h6,h7,h8,h9,h10,h11,h12,h13,h14,Bool.or_true,Bool.true_or,Bool.or_false,Bool.false_or]⟩
 rw [Bool.not_eq_true] at h14
 rw [h14]
 refine Dm rfl ?_
 refine DR.no rfl ?_
 refine Dm rfl ?_
 refine DR.ops ?_
 simp -dsimp only [r13_18,SE,astep,seval,rowq]
 refine Dm rfl ?_
 exact DR.ret ⟨_,by simp [aresult,ares,Env.get] <;> rfl,rfl,by simp only [kept,h0,h1,h2,h3,h4,h5,h6,h7,h8,h9,h10,h11,h12,h13,h14,Bool.or_true,Bool.true_or,Bool.or_false,Bool.false_or]⟩
theorem g26 {H:AHeap} (s:ByteArray):DCall Tryd.prog 26 [.str s] H fun a H'=>H'=H∧a = .bool (kept s):=by
 refine DCall.of_body (fn:=Tryd.f26) (by kernel_rfl) c26 (by kernel_rfl) (by simp [f26]) ?_
 unfold f26
 simp only []
 refine Dm rfl ?_
 refine DR.ops ?_
 simp -dsimp only [r26_0,SE,astep,seval,rowq]
 refine Dm rfl ?_
 refine DR.ops ?_
 simp -dsimp only [r26_1,SE,astep,seval,rowq]
 refine Dm rfl ?_
 refine DR.ops ?_
 simp -dsimp only [r26_2,SE,astep,seval,rowq,abin]
 by_cases h0:(s.toList==(⟨#[97,102,116,101,114]⟩:ByteArray).toList)=true
 ·rw [h0]
  refine DR.yes rfl ?_
  refine Dm rfl ?_
  refine DR.yes rfl ?_
  refine Dm rfl ?_
  refine DR.ops ?_
  simp -dsimp only [r26_17,SE,astep,seval,rowq]
  refine Dm rfl ?_
  exact DR.ret ⟨_,by simp [aresult,ares,Env.get] <;> rfl,rfl,by simp only [kept,h0,Bool.or_true,Bool.true_or,Bool.or_false,Bool.false_or]⟩
 rw [Bool.not_eq_true] at h0
 rw [h0]
 refine DR.no rfl ?_
 refine Dm rfl ?_
 refine DR.ops ?_
 simp -dsimp only [r26_3,SE,astep,seval,rowq,abin]
 by_cases h1:(s.toList==(⟨#[97,110,100,97,108,115,111]⟩:ByteArray).toList)=true
 ·rw [h1]
  refine DR.yes rfl ?_
  refine Dm rfl ?_
  refine DR.yes rfl ?_
  refine Dm rfl ?_
  refine DR.ops ?_
  simp -dsimp only [r26_17,SE,astep,seval,rowq]
  refine Dm rfl ?_
  exact DR.ret ⟨_,by simp [aresult,ares,Env.get] <;> rfl,rfl,by simp only [kept,h0,h1,Bool.or_true,Bool.true_or,Bool.or_false,Bool.false_or]⟩
 rw [Bool.not_eq_true] at h1
 rw [h1]
 refine DR.no rfl ?_
 refine Dm rfl ?_
 refine DR.ops ?_
 simp -dsimp only [r26_4,SE,astep,seval,rowq,abin]
 by_cases h2:(s.toList==(⟨#[98,101,103,105,110]⟩:ByteArray).toList)=true
 ·rw [h2]
  refine DR.yes rfl ?_
  refine Dm rfl ?_
  refine DR.yes rfl ?_
  refine Dm rfl ?_
  refine DR.ops ?_
  simp -dsimp only [r26_17,SE,astep,seval,rowq]
  refine Dm rfl ?_
  exact DR.ret ⟨_,by simp [aresult,ares,Env.get] <;> rfl,rfl,by simp only [kept,h0,h1,h2,Bool.or_true,Bool.true_or,Bool.or_false,Bool.false_or]⟩
 rw [Bool.not_eq_true] at h2
 rw [h2]
 refine DR.no rfl ?_
 refine Dm rfl ?_
 refine DR.ops ?_
 simp -dsimp only [r26_5,SE,astep,seval,rowq,abin]
 by_cases h3:(s.toList==(⟨#[99,97,115,101]⟩:ByteArray).toList)=true
 ·rw [h3]
  refine DR.yes rfl ?_
  refine Dm rfl ?_
  refine DR.yes rfl ?_
  refine Dm rfl ?_
  refine DR.ops ?_
  simp -dsimp only [r26_17,SE,astep,seval,rowq]
  refine Dm rfl ?_
  exact DR.ret ⟨_,by simp [aresult,ares,Env.get] <;> rfl,rfl,by simp only [kept,h0,h1,h2,h3,Bool.or_true,Bool.true_or,Bool.or_false,Bool.false_or]⟩
 rw [Bool.not_eq_true] at h3
 rw [h3]
 refine DR.no rfl ?_
 refine Dm rfl ?_
 refine DR.ops ?_
 simp -dsimp only [r26_6,SE,astep,seval,rowq,abin]
 by_cases h4:(s.toList==(⟨#[99,97,116,99,104]⟩:ByteArray).toList)=true
 ·rw [h4]
  refine DR.yes rfl ?_
  refine Dm rfl ?_
  refine DR.yes rfl ?_
  refine Dm rfl ?_
  refine DR.ops ?_
  simp -dsimp only [r26_17,SE,astep,seval,rowq]
  refine Dm rfl ?_
  exact DR.ret ⟨_,by simp [aresult,ares,Env.get] <;> rfl,rfl,by simp only [kept,h0,h1,h2,h3,h4,Bool.or_true,Bool.true_or,Bool.or_false,Bool.false_or]⟩
 rw [Bool.not_eq_true] at h4
 rw [h4]
 refine DR.no rfl ?_
 refine Dm rfl ?_
 refine DR.ops ?_
 simp -dsimp only [r26_7,SE,astep,seval,rowq,abin]
 by_cases h5:(s.toList==(⟨#[100,105,118]⟩:ByteArray).toList)=true
 ·rw [h5]
  refine DR.yes rfl ?_
  refine Dm rfl ?_
  refine DR.yes rfl ?_
  refine Dm rfl ?_
  refine DR.ops ?_
  simp -dsimp only [r26_17,SE,astep,seval,rowq]
  refine Dm rfl ?_
  exact DR.ret ⟨_,by simp [aresult,ares,Env.get] <;> rfl,rfl,by simp only [kept,h0,h1,h2,h3,h4,h5,Bool.or_true,Bool.true_or,Bool.or_false,Bool.false_or]⟩
 rw [Bool.not_eq_true] at h5
 rw [h5]
 refine DR.no rfl ?_
 refine Dm rfl ?_
 refine DR.ops ?_
 simp -dsimp only [r26_8,SE,astep,seval,rowq,abin]
 by_cases h6:(s.toList==(⟨#[101,110,100]⟩:ByteArray).toList)=true
 ·rw [h6]
  refine DR.yes rfl ?_
  refine Dm rfl ?_
  refine DR.yes rfl ?_
  refine Dm rfl ?_
  refine DR.ops ?_
  simp -dsimp only [r26_17,SE,astep,seval,rowq]
  refine Dm rfl ?_
  exact DR.ret ⟨_,by simp [aresult,ares,Env.get] <;> rfl,rfl,by simp only [kept,h0,h1,h2,h3,h4,h5,h6,Bool.or_true,Bool.true_or,Bool.or_false,Bool.false_or]⟩
 rw [Bool.not_eq_true] at h6
 rw [h6]
 refine DR.no rfl ?_
 refine Dm rfl ?_
 refine DR.ops ?_
 simp -dsimp only [r26_9,SE,astep,seval,rowq,abin]
 by_cases h7:(s.toList==(⟨#[102,117,110]⟩:ByteArray).toList)=true
 ·rw [h7]
  refine DR.yes rfl ?_
  refine Dm rfl ?_
  refine DR.yes rfl ?_
  refine Dm rfl ?_
  refine DR.ops ?_
  simp -dsimp only [r26_17,SE,astep,seval,rowq]
  refine Dm rfl ?_
  exact DR.ret ⟨_,by simp [aresult,ares,Env.get] <;> rfl,rfl,by simp only [kept,h0,h1,h2,h3,h4,h5,h6,h7,Bool.or_true,Bool.true_or,Bool.or_false,Bool.false_or]⟩
 rw [Bool.not_eq_true] at h7
 rw [h7]
 refine DR.no rfl ?_
 refine Dm rfl ?_
 refine DR.ops ?_
 simp -dsimp only [r26_10,SE,astep,seval,rowq,abin]
 by_cases h8:(s.toList==(⟨#[110,111,116]⟩:ByteArray).toList)=true
 ·rw [h8]
  refine DR.yes rfl ?_
  refine Dm rfl ?_
  refine DR.yes rfl ?_
  refine Dm rfl ?_
  refine DR.ops ?_
  simp -dsimp only [r26_17,SE,astep,seval,rowq]
  refine Dm rfl ?_
  exact DR.ret ⟨_,by simp [aresult,ares,Env.get] <;> rfl,rfl,by simp only [kept,h0,h1,h2,h3,h4,h5,h6,h7,h8,Bool.or_true,Bool.true_or,Bool.or_false,Bool.false_or]⟩
 rw [Bool.not_eq_true] at h8
 rw [h8]
 refine DR.no rfl ?_
 refine Dm rfl ?_
 refine DR.ops ?_
 simp -dsimp only [r26_11,SE,astep,seval,rowq,abin]
 by_cases h9:(s.toList==(⟨#[111,102]⟩:ByteArray).toList)=true
 ·rw [h9]
  refine DR.yes rfl ?_
  refine Dm rfl ?_
  refine DR.yes rfl ?_
  refine Dm rfl ?_
  refine DR.ops ?_
  simp -dsimp only [r26_17,SE,astep,seval,rowq]
  refine Dm rfl ?_
  exact DR.ret ⟨_,by simp [aresult,ares,Env.get] <;> rfl,rfl,by simp only [kept,h0,h1,h2,h3,h4,h5,h6,h7,h8,h9,Bool.or_true,Bool.true_or,Bool.or_false,Bool.false_or]⟩
 rw [Bool.not_eq_true] at h9
 rw [h9]
 refine DR.no rfl ?_
 refine Dm rfl ?_
 refine DR.ops ?_
 simp -dsimp only [r26_12,SE,astep,seval,rowq,abin]
 by_cases h10:(s.toList==(⟨#[111,114,101,108,115,101]⟩:ByteArray).toList)=true
 ·rw [h10]
  refine DR.yes rfl ?_
  refine Dm rfl ?_
  refine DR.yes rfl ?_
  refine Dm rfl ?_
  refine DR.ops ?_
  simp -dsimp only [r26_17,SE,astep,seval,rowq]
  refine Dm rfl ?_
  exact DR.ret ⟨_,by simp [aresult,ares,Env.get] <;> rfl,rfl,by simp only [kept,h0,h1,h2,h3,h4,h5,h6,h7,h8,h9,h10,Bool.or_true,Bool.true_or,Bool.or_false,Bool.false_or]⟩
 rw [Bool.not_eq_true] at h10
 rw [h10]
 refine DR.no rfl ?_
 refine Dm rfl ?_
 refine DR.ops ?_
 simp -dsimp only [r26_13,SE,astep,seval,rowq,abin]
 by_cases h11:(s.toList==(⟨#[114,101,99,101,105,118,101]⟩:ByteArray).toList)=true
 ·rw [h11]
  refine DR.yes rfl ?_
  refine Dm rfl ?_
  refine DR.yes rfl ?_
  refine Dm rfl ?_
  refine DR.ops ?_
  simp -dsimp only [r26_17,SE,astep,seval,rowq]
  refine Dm rfl ?_
  exact DR.ret ⟨_,by simp [aresult,ares,Env.get] <;> rfl,rfl,by simp only [kept,h0,h1,h2,h3,h4,h5,h6,h7,h8,h9,h10,h11,Bool.or_true,Bool.true_or,Bool.or_false,Bool.false_or]⟩
 rw [Bool.not_eq_true] at h11
 rw [h11]
 refine DR.no rfl ?_
 refine Dm rfl ?_
 refine DR.ops ?_
 simp -dsimp only [r26_14,SE,astep,seval,rowq,abin]
 by_cases h12:(s.toList==(⟨#[114,101,109]⟩:ByteArray).toList)=true
 ·rw [h12]
  refine DR.yes rfl ?_
  refine Dm rfl ?_
  refine DR.yes rfl ?_
  refine Dm rfl ?_
  refine DR.ops ?_
  simp -dsimp only [r26_17,SE,astep,seval,rowq]
  refine Dm rfl ?_
  exact DR.ret ⟨_,by simp [aresult,ares,Env.get] <;> rfl,rfl,by simp only [kept,h0,h1,h2,h3,h4,h5,h6,h7,h8,h9,h10,h11,h12,Bool.or_true,Bool.true_or,Bool.or_false,Bool.false_or]⟩
 rw [Bool.not_eq_true] at h12
 rw [h12]
 refine DR.no rfl ?_
 refine Dm rfl ?_
 refine DR.ops ?_
 simp -dsimp only [r26_15,SE,astep,seval,rowq,abin]
 by_cases h13:(s.toList==(⟨#[116,114,121]⟩:ByteArray).toList)=true
 ·rw [h13]
  refine DR.yes rfl ?_
  refine Dm rfl ?_
  refine DR.yes rfl ?_
  refine Dm rfl ?_
  refine DR.ops ?_
  simp -dsimp only [r26_17,SE,astep,seval,rowq]
  refine Dm rfl ?_
  exact DR.ret ⟨_,by simp [aresult,ares,Env.get] <;> rfl,rfl,by simp only [kept,h0,h1,h2,h3,h4,h5,h6,h7,h8,h9,h10,h11,h12,h13,Bool.or_true,Bool.true_or,Bool.or_false,Bool.false_or]⟩
 rw [Bool.not_eq_true] at h13
 rw [h13]
 refine DR.no rfl ?_
 refine Dm rfl ?_
 refine DR.ops ?_
 simp -dsimp only [r26_16,SE,astep,seval,rowq,abin]
 by_cases h14:(s.toList==(⟨#[119,104,101,110]⟩:ByteArray).toList)=true
 ·rw [h14]
  refine Dm rfl ?_
  refine DR.yes rfl ?_
  refine Dm rfl ?_
  refine DR.ops ?_
  simp -dsimp only [r26_17,SE,astep,seval,rowq]
  refine Dm rfl ?_
  exact DR.ret ⟨_,by simp [aresult,ares,Env.get] <;> rfl,rfl,by simp only [kept,h0,h1,h2,h3,h4,h5,h6,h7,h8,h9,h10,h11,h12,h13,h14,Bool.or_true,Bool.true_or,Bool.or_false,Bool.false_or]⟩
 rw [Bool.not_eq_true] at h14
 rw [h14]
 refine Dm rfl ?_
 refine DR.no rfl ?_
 refine Dm rfl ?_
 refine DR.ops ?_
 simp -dsimp only [r26_18,SE,astep,seval,rowq]
 refine Dm rfl ?_
 exact DR.ret ⟨_,by simp [aresult,ares,Env.get] <;> rfl,rfl,by simp only [kept,h0,h1,h2,h3,h4,h5,h6,h7,h8,h9,h10,h11,h12,h13,h14,Bool.or_true,Bool.true_or,Bool.or_false,Bool.false_or]⟩
end Go.Am.Rl
namespace Go.Am.Rl
open Go.Proofs
theorem upd {H:AHeap} {id:Nat} {b0:ABlk} (g:H.get id=some b0) (b:ABlk):∃ H',H'=H.set id b∧H'.get id=some b∧H'.next=H.next∧∀ j,j≠id→H'.get j=H.get j:=
 ⟨_,rfl,by rw [AHeap.get_set,if_pos rfl,if_pos (AHeap.get_lt g)],rfl,fun j hj=>by rw [AHeap.get_set,if_neg hj]⟩
theorem psh (H:AHeap) (b:ABlk):∃ H',H'=H.push b∧H'.get H.next=some b∧H'.next=H.next+1∧∀ j,j < H.next→H'.get j=H.get j:=
 ⟨_,rfl,by rw [AHeap.get_push,if_pos rfl],rfl,fun j hj=>by rw [AHeap.get_push,if_neg (by omega)]⟩
abbrev Tok:=Int ⊕ (List AVal × Nat)
def isName (c:Nat):Bool:=isLow c || isUp c || ((c:Int)==95)
def lowTok (w:ByteArray) (e:Nat) (pl:Int):Tok:=
 if kept w=true then .inr (tokC 7 w 0 0 pl,e)
 else if decide ((w.size:Int) > 64)=true then .inl 23
 else .inr (tokC 1 w 0 0 pl,e)
def nameTok (s:ByteArray) (i c:Nat) (pl:Int):Tok:=
 if isLow c=true then lowTok (s.extract i (skip isNam s i)) (skip isNam s i) pl else .inr (tokC 2 (s.extract i (skip isNam s i)) 0 0 pl,skip isNam s i)
def bitTok (s:ByteArray) (i:Nat) (pl:Int):Tok:=match bits s i with
 | some f=>.inr (tokC 4 ⟨#[]⟩ 0 f pl,i+17)
 | none=>.inl 22
def quoTok (s:ByteArray) (i c:Nat) (pl:Int):Tok:=match quote s (c:Int) i with
 | none=>.inl 23
 | some p=>if ((c:Int)==39)=true then (if decide ((p.1.size:Int) > 64)=true then .inl 23 else .inr (tokC 1 p.1 0 0 pl,p.2)) else .inr (tokC 5 p.1 0 0 pl,p.2)
def signTok (s:ByteArray) (i:Nat) (pl:Int):Tok:=if decide ((signAt s i).size=0)=true then .inl 21 else .inr (tokC 6 (signAt s i) 0 0 pl,i+(signAt s i).size)
def token (s:ByteArray) (i c:Nat) (pl:Int):Tok:=
 if isName c=true then nameTok s i c pl
 else if isDig c=true then numTok s i pl
 else if ((c:Int)==35)=true then bitTok s i pl
 else if (((c:Int)==39) || ((c:Int)==34))=true then quoTok s i c pl
 else signTok s i pl
def withPl (pl:Int):Tok→Tok
 | .inl e=>.inl e
 | .inr p=>.inr (p.1.set 4 (.int .i64 pl),p.2)
theorem numTok_pl (s:ByteArray) (i:Nat) (pl:Int):withPl pl (numTok s i 0)=numTok s i pl:=by
 unfold numTok numAt numF numI
 repeat' split
 all_goals rfl
theorem nameTok_pl (s:ByteArray) (i c:Nat) (pl:Int):withPl pl (nameTok s i c 0)=nameTok s i c pl:=by
 unfold nameTok lowTok
 repeat' split
 all_goals rfl
theorem bitTok_pl (s:ByteArray) (i:Nat) (pl:Int):withPl pl (bitTok s i 0)=bitTok s i pl:=by
 unfold bitTok
 split
 all_goals rfl
theorem quoTok_pl (s:ByteArray) (i c:Nat) (pl:Int):withPl pl (quoTok s i c 0)=quoTok s i c pl:=by
 unfold quoTok
 repeat' split
 all_goals rfl
theorem signTok_pl (s:ByteArray) (i:Nat) (pl:Int):withPl pl (signTok s i 0)=signTok s i pl:=by
 unfold signTok
 repeat' split
 all_goals rfl
theorem token_pl (s:ByteArray) (i c:Nat) (pl:Int):withPl pl (token s i c 0)=token s i c pl:=by
 unfold token
 rw [← numTok_pl s i pl,← nameTok_pl s i c pl,← bitTok_pl s i pl,← quoTok_pl s i c pl,← signTok_pl s i pl]
 repeat' split
 all_goals rfl
def Made (i n:Nat) (t:Tok) (pl:Int):Prop:=∀ p,t = .inr p→(∃ k s m f,p.1=tokC k s m f pl)∧i < p.2∧p.2≤n
theorem Made.one {i n:Nat} {k:Int} {s:ByteArray} {m:Int} {f:Nat} {pl:Int} {e:Nat} (h1:i < e) (h2:e≤n):Made i n (.inr (tokC k s m f pl,e)) pl:=by
 intro p hp; injection hp with hp; subst hp; exact ⟨⟨_,_,_,_,rfl⟩,h1,h2⟩
theorem Made.err {i n:Nat} {e pl:Int}:Made i n (.inl e) pl:=fun p hp=>by cases hp
theorem signIn_le {s:ByteArray} {i:Nat} (hi:i≤s.size):∀ l:List ByteArray,i+(signIn s i l).size≤s.size
 | []=>by show i+0≤s.size; omega
 | g::r=>by
  unfold signIn
  split
  ·rename_i h
   unfold stands at h
   rw [Bool.and_eq_true] at h
   exact of_decide_eq_true h.1
  ·exact signIn_le hi r
theorem signAt_le {s:ByteArray} {i:Nat} (hi:i≤s.size):i+(signAt s i).size≤s.size:=signIn_le hi signs
theorem name_nam {c:Nat} (h:isName c=true):isNam c=true:=by
 unfold isName at h
 unfold isNam
 cases h1:isLow c with
 | true=>rfl
 | false=>
  cases h2:isUp c with
  | true=>rfl
  | false=>
   rw [h1,h2] at h
   have:(c:Int)=95:=eq_of_beq h
   have:c=95:=by omega
   subst this; rfl
theorem token_made {s:ByteArray} {i:Nat} {c:UInt8} (hc:s[i]? = some c) (pl:Int):Made i s.size (token s i c.toNat pl) pl:=by
 have hi:=size_of_some hc
 unfold token
 split
 ·rename_i h
  have h1:=skip_next hc (name_nam h)
  have h2:=(skip_le (p:=isNam) (s:=s) (i:=i) (by omega)).2
  unfold nameTok lowTok
  repeat' split
  all_goals first | exact Made.err | exact Made.one (by omega) h2
 ·split
  ·rename_i h
   have h1:=skip_next hc h
   have h2:=(skip_le (p:=isDig) (s:=s) (i:=i) (by omega)).2
   unfold numTok numAt
   split
   ·exact Made.err
   ·split
    ·rename_i hd
     obtain ⟨d,hdt,_⟩:=dotted_next hd
     have h3:=size_of_some hdt
     have h4:=skip_le (p:=isDig) (s:=s) (i:=skip isDig s i+1) (by omega)
     unfold numF
     split
     ·exact Made.err
     ·exact Made.one (by omega) (by omega)
    ·unfold numI
     split
     ·exact Made.err
     ·exact Made.one (by omega) (by omega)
  ·split
   ·unfold bitTok
    cases hb:bits s i with
    | none=>exact Made.err
    | some f=>
     refine Made.one (by omega) ?_
     rcases Nat.lt_or_ge s.size (i+17) with h | h
     ·rw [bits_small h] at hb; cases hb
     ·exact h
   ·split
    ·unfold quoTok
     cases hq:quote s (c.toNat:Int) i with
     | none=>exact Made.err
     | some p=>
      have:=quoteW_le hq
      dsimp only
      repeat' split
      all_goals first | exact Made.err | exact Made.one (by omega) (by omega)
    ·unfold signTok
     split
     ·exact Made.err
     ·rename_i h
      have h:¬ (signAt s i).size=0:=fun e=>h (decide_eq_true e)
      have hle:=signAt_le (s:=s) (i:=i) (by omega)
      exact Made.one (by omega) hle
end Go.Am.Rl
namespace Go.Am.Rl
open Go.Proofs
theorem res35 {H:AHeap} {b:Nat} {cs:List AVal} (g:H.get b=some (.cells 35 cs)) (hl:cs.length=5) (X:List AVal) (h1:X.length=5) (h2:ones X=true) :
  astore H 5 (.ptr b 0) (.agg X)=some (H.set b (.cells 35 X))∧aload (H.set b (.cells 35 X)) (some 5) (.ptr b 0)=some (.agg X):=
 ⟨store_all (n:=5) g (by omega) h2 hl,load_all (n:=5) (by rw [AHeap.get_set,if_pos rfl,if_pos (AHeap.get_lt g)]) h1⟩
theorem Made.cells {i n:Nat} {pl:Int} {p:List AVal × Nat} (h:Made i n (.inr p) pl):p.1.length=5∧ones p.1=true:=by
 obtain ⟨⟨k,s,m,f,hp⟩,_⟩:=h p rfl
 rw [hp]; exact ⟨rfl,rfl⟩
section
variable {H:AHeap} {s:ByteArray} {i b c:Nat} {k:List AItem} {Q:Env→AHeap→Prop}
end
end Go.Am.Rl
namespace Go.Am.Rl
open Go.Proofs
end Go.Am.Rl
namespace Go.Am.Rl
open Go.Proofs
theorem Told.end {H Hk:AHeap} {r b:Nat} {s:ByteArray} {i:Nat} {X:List AVal} {j:Nat} (hrl:r < H.next) (hb:b=H.next) (g:Hk.get b=some (.cells 35 tok0)) (hr:Hk.get r=some (.cells 50 (scanCells s (i:Nat) 0))) (hn:H.next≤Hk.next) (hf:∀ q,q < H.next→q≠r→Hk.get q=H.get q) :
  Told H (Hk.set b (.cells 35 X)) r s i 0 (.tup [.agg X,.int .i64 (j:Nat)]) (.inr (X,j)):=by
 subst hb
 refine ⟨⟨rfl,?_⟩,hn,fun q hq hne=> ?_⟩
 ·rw [AHeap.get_set,if_neg (by omega)]; exact hr
 ·rw [AHeap.get_set,if_neg (by omega),hf q hq hne]
theorem Told.bad {H Hk:AHeap} {r b:Nat} {s:ByteArray} {i:Nat} {X:List AVal} {j e:Int} (hX:X.length=5∧ones X=true) (hrl:r < H.next) (hb:b=H.next) (g:Hk.get b=some (.cells 35 tok0)) (hr:Hk.get r=some (.cells 50 (scanCells s (i:Nat) e))) (hn:H.next≤Hk.next) (hf:∀ q,q < H.next→q≠r→Hk.get q=H.get q) :
  Told H (Hk.set b (.cells 35 X)) r s i 0 (.tup [.agg X,.int .i64 j]) (.inl e):=by
 subst hb
 refine ⟨⟨⟨_,_,rfl,hX.1,hX.2⟩,?_⟩,hn,fun q hq hne=> ?_⟩
 ·rw [AHeap.get_set,if_neg (by omega)]; exact hr
 ·rw [AHeap.get_set,if_neg (by omega),hf q hq hne]
section
variable {H Hk:AHeap} {r b:Nat} {s w:ByteArray} {i:Nat} {k:List AItem}
theorem tail23 {j e:Int} (hrl:r < H.next) (hb:b=H.next) (g:Hk.get b=some (.cells 35 tok0)) (hr:Hk.get r=some (.cells 50 (scanCells s (i:Nat) e))) (hn:H.next < Hk.next) (hf:∀ q,q < H.next→q≠r→Hk.get q=H.get q) (he:e=0∨e=23) (X:Tok) (hX:e=0→∃ j':Nat,j=j'∧X=if decide ((w.size:Int) > 64)=true then .inl 23 else .inr (tokC 1 w 0 0 0,j')) (hX2:e=23→X = .inl 23) :
  DR Tryd.prog (kof k23) 131 (.code (.region false r23_23 [0,2,3,4,124])::.code (.cond (.t 124) (.region false r23_24 [2,3,4]) .skip)::.code (.seq (.region false r23_25 [2,3]) .ret)::k)
   [(0,.ptr r 0),(2,.ptr b 0),(3,.int .i64 j),(4,.str w)] Hk fun T' H'=>∃ a,aresult H' T' [.cell 2 (some 5),.tmp 3]=some a∧Told H H' r s i 0 a X:=by
 have hl:∀ H,alenT H 0 (.str w)=some w.size:=fun _=>rfl
 have le:=load_cell hr (o:=2) (v:=.int .i64 e) rfl
 rcases he with rfl | rfl
 ·obtain ⟨j',rfl,rfl⟩:=hX rfl
  cases h64:decide ((w.size:Int) > 64) with
  | true=>
   rw [if_pos rfl]
   have sr:=astore_one hr (o:=2) (x:=.int .i64 23) (by simp [scanCells]) rfl
   obtain ⟨H2,hH2,r2,n2,f2⟩:=upd hr (.cells 50 ((scanCells s (i:Nat) 0).set 2 (.int .i64 23)))
   rw [← hH2] at sr
   have g2:=(f2 b (by omega)).trans g
   obtain ⟨st,ld⟩:=res35 g2 rfl (tokC 1 w 0 0 0) rfl rfl
   unfold tokC at st
   refine Dg rfl ?_
   simp -dsimp only [SE,astep,seval,rowq,le,abin,beq_self_eq_true,hl,h64]
   refine Dy rfl rfl ?_
   refine Dg rfl ?_
   simp -dsimp only [SE,astep,seval,rowq,sr]
   refine Dg rfl ?_
   simp -dsimp only [SE,astep,seval,rowq,Env.parts,afill,AVal.cells,LZ,st]
   refine Dm rfl ?_
   refine DR.ret ⟨.tup [.agg (tokC 1 w 0 0 0),.int .i64 (j':Nat)],?_,Told.bad ⟨rfl,rfl⟩ hrl hb g2 r2 (by omega) fun q hq hne=>by rw [f2 q hne,hf q hq hne]⟩
   have ld':aload (H2.set b (.cells 35 [.int .i64 1,.str w,.int .i64 0,.flt .f64 0,.int .i64 0])) (some 5) (.ptr b 0)=_:=ld
   simp [aresult,ares,Env.get,ld']
  | false=>
   rw [if_neg (by simp)]
   obtain ⟨st,ld⟩:=res35 g rfl (tokC 1 w 0 0 0) rfl rfl
   unfold tokC at st
   refine Dg rfl ?_
   simp -dsimp only [SE,astep,seval,rowq,le,abin,beq_self_eq_true,hl,h64]
   refine Dn rfl rfl ?_
   refine Dg rfl ?_
   simp -dsimp only [SE,astep,seval,rowq,Env.parts,afill,AVal.cells,LZ,st]
   refine Dm rfl ?_
   refine DR.ret ⟨.tup [.agg (tokC 1 w 0 0 0),.int .i64 (j':Nat)],?_,Told.end hrl hb g hr (by omega) hf⟩
   have ld':aload (Hk.set b (.cells 35 [.int .i64 1,.str w,.int .i64 0,.flt .f64 0,.int .i64 0])) (some 5) (.ptr b 0)=_:=ld
   simp [aresult,ares,Env.get,ld']
 ·rw [hX2 rfl]
  obtain ⟨st,ld⟩:=res35 g rfl (tokC 1 w 0 0 0) rfl rfl
  unfold tokC at st
  have h230:((23:Int)==0)=false:=by decide
  refine Dg rfl ?_
  simp -dsimp only [SE,astep,seval,rowq,le,abin,h230]
  refine Dn rfl rfl ?_
  refine Dg rfl ?_
  simp -dsimp only [SE,astep,seval,rowq,Env.parts,afill,AVal.cells,LZ,st]
  refine Dm rfl ?_
  refine DR.ret ⟨.tup [.agg (tokC 1 w 0 0 0),.int .i64 j],?_,Told.bad ⟨rfl,rfl⟩ hrl hb g hr (by omega) hf⟩
  have ld':aload (Hk.set b (.cells 35 [.int .i64 1,.str w,.int .i64 0,.flt .f64 0,.int .i64 0])) (some 5) (.ptr b 0)=_:=ld
  simp [aresult,ares,Env.get,ld']
end
end Go.Am.Rl
namespace Go.Am.Rl
open Go.Proofs
theorem bits_tok (s:ByteArray) (i:Nat):bitsTok s i=bitTok s i 0:=by
 unfold bitTok bitsTok
 cases bits s i <;> rfl
theorem reg23_3 {H:AHeap} {c:UInt8} {v0 v2:AVal} {k:List AItem} {Q:Env→AHeap→Prop} (h:∀ H1,H1=H→DR Tryd.prog (kof k23) 131 k [(0,v0),(2,v2),(5,.int .u8 c.toNat),(18,.bool (isUp c.toNat || ((c.toNat:Int)==95)))] H1 Q) :
  DR Tryd.prog (kof k23) 131 (.code (.region false r23_3 [0,2,5,18])::k) [(0,v0),(2,v2),(5,.int .u8 c.toNat)] H Q:=by
 refine Dg rfl ?_
 simp -dsimp only [SE,astep,seval,rowq]
 refine (of_chk t33 c H).mono ?_
 rintro a H1 ⟨rfl,rfl⟩
 simp -dsimp only [SE,astep,seval,rowq]
 cases hup:isUp c.toNat with
 | true=>
  rw [hup,Bool.true_or] at h
  simp -dsimp only [SE,astep,seval,rowq,hup]
  exact h _ rfl
 | false=>
  rw [hup,Bool.false_or] at h
  simp -dsimp only [SE,astep,seval,rowq,hup,abin]
  exact h _ rfl
theorem g23 {H:AHeap} {r:Nat} {s:ByteArray} {i:Nat} {c:UInt8} (hct:s[i]? = some c) (hr:H.get r=some (.cells 50 (scanCells s (i:Nat) 0))) (hsz:s.size < 1000000) :
  DCall Tryd.prog 23 [.ptr r 0] H fun a H'=>Told H H' r s i 0 a (token s i c.toNat 0):=by
 refine DCall.of_body (fn:=Tryd.f23) (by kernel_rfl) c23 (by kernel_rfl) (by simp [f23]) ?_
 unfold f23
 simp only []
 have hi:=size_of_some hct
 have hx:=idx_at hct
 have hmade:=token_made hct 0
 have hrl:=AHeap.get_lt hr
 obtain ⟨H1,hH1,g1,n1,f1⟩:=psh H (.cells 35 [.int .i64 0,.str ⟨#[]⟩,.int .i64 0,.flt .f64 0,.int .i64 0])
 have g1:H1.get H.next=some (.cells 35 tok0):=g1
 have r1:H1.get r=some (.cells 50 (scanCells s (i:Nat) 0)):=(f1 r hrl).trans hr
 have l0:=load_cell r1 (o:=0) (v:=.str s) rfl
 have l1:=load_cell r1 (o:=1) (v:=.int .i64 (i:Nat)) rfl
 refine Dg rfl ?_
 simp -dsimp only [SE,astep,seval,rowq,← hH1]
 clear hH1
 refine Dm rfl ?_
 refine Dm rfl ?_
 refine DR.draw (by kernel_rfl) d23_1 ?_
 simp -dsimp only [m23_1,SE,astep,seval,rowq,DS_nil,DS_cons,seesAll,staysAll,abit,List.getD_cons_zero,List.getD_cons_succ,AOp.quiet,AOp.reads,true_and,and_true,decide_true,decide_false,and_self,l0,l1,hx]
 refine Dg rfl ?_
 simp -dsimp only [SE,astep,seval,rowq]
 refine (of_chk t32 c H1).mono ?_
 rintro a H1 ⟨rfl,rfl⟩
 simp -dsimp only [SE,astep,seval,rowq]
 cases hlow:isLow c.toNat with
 | true=>
  have hnm:isName c.toNat=true:=by unfold isName; rw [hlow]; rfl
  have htok:token s i c.toNat 0=lowTok (s.extract i (skip isNam s i)) (skip isNam s i) 0:=by unfold token nameTok; rw [if_pos hnm,if_pos hlow]
  rw [htok]
  obtain ⟨e,he⟩:∃ e,e=skip isNam s i:=⟨_,rfl⟩
  have hele:i≤e∧e≤s.size:=by rw [he]; exact skip_le (by omega)
  obtain ⟨w,hw⟩:∃ w,w=s.extract i e:=⟨_,rfl⟩
  rw [← he,← hw]
  have hsl:∀ T:Env,T.get 83=some (.int .i64 (i:Nat))→T.get 84=some (.int .i64 (e:Nat))→aslcS T (.str s) (some (.t 83)) (some (.t 84))=some (.str (s.extract i e)):=fun T e1 e2=>slc_both e1 e2 (by omega) hele.2
  refine Dy rfl rfl ?_
  refine DR.goto rfl ?_
  refine Dg rfl ?_
  simp -dsimp only [SE,astep,seval,rowq,l1]
  refine (g21 r1 (fun b H=>of_chk t39 b H) (by omega) i).mono ?_
  rintro a H1 ⟨rfl,rfl⟩
  simp -dsimp only [SE,astep,seval,rowq]
  rw [← he]
  refine Dm rfl ?_
  refine DR.draw (by kernel_rfl) d23_17 ?_
  simp -dsimp only [m23_17,SE,astep,seval,rowq,DS_nil,DS_cons,seesAll,staysAll,abit,List.getD_cons_zero,List.getD_cons_succ,AOp.quiet,AOp.reads,true_and,and_true,decide_true,decide_false,and_self,l0,l1]
  rw [hsl _ rfl rfl,← hw]
  simp -dsimp only [SE,astep,seval,rowq]
  refine Dg rfl ?_
  simp -dsimp only [SE,astep,seval,rowq]
  refine (g13 (H:=H1) w).mono ?_
  rintro a H1 ⟨rfl,rfl⟩
  simp -dsimp only [SE,astep,seval,rowq]
  cases hk:kept w with
  | true=>
   have hlt:lowTok w e 0 = .inr (tokC 7 w 0 0 0,e):=by unfold lowTok; rw [if_pos hk]
   rw [hlt]
   obtain ⟨st,ld⟩:=res35 g1 rfl (tokC 7 w 0 0 0) rfl rfl
   unfold tokC at st
   refine Dy rfl rfl ?_
   refine Dg rfl ?_
   simp -dsimp only [SE,astep,seval,rowq,Env.parts,afill,AVal.cells,LZ,st]
   refine Dm rfl ?_
   refine DR.ret ⟨.tup [.agg (tokC 7 w 0 0 0),.int .i64 (e:Nat)],?_,Told.end hrl rfl g1 r1 (by omega) (fun q hq _=>f1 q hq)⟩
   have ld':aload (H1.set H.next (.cells 35 [.int .i64 7,.str w,.int .i64 0,.flt .f64 0,.int .i64 0])) (some 5) (.ptr H.next 0)=_:=ld
   simp [aresult,ares,Env.get,ld']
  | false=>
   refine Dn rfl rfl ?_
   refine Dm rfl ?_
   refine DR.goto rfl ?_
   refine Dm rfl ?_
   refine DR.only [0,2,3,4] ?_
   refine tail23 hrl rfl g1 r1 (by omega) (fun q hq _=>f1 q hq) (.inl rfl) _ (fun _=>⟨e,rfl,?_⟩) (fun h=>absurd h (by decide))
   unfold lowTok
   rw [hk,if_neg (by simp)]
 | false=>
  refine Dn rfl rfl ?_
  have hnm0:isName c.toNat=(isUp c.toNat || ((c.toNat:Int)==95)):=by unfold isName; rw [hlow,Bool.false_or]
  refine Dm rfl ?_
  refine DR.only [0,2,5] ?_
  refine reg23_3 ?_
  rintro H1 rfl
  rw [← hnm0]
  cases hnm:isName c.toNat with
  | true=>
   have htok:token s i c.toNat 0 = .inr (tokC 2 (s.extract i (skip isNam s i)) 0 0 0,skip isNam s i):=by unfold token nameTok; rw [if_pos hnm,hlow,if_neg (by simp)]
   rw [htok]
   obtain ⟨e,he⟩:∃ e,e=skip isNam s i:=⟨_,rfl⟩
   have hele:i≤e∧e≤s.size:=by rw [he]; exact skip_le (by omega)
   obtain ⟨w,hw⟩:∃ w,w=s.extract i e:=⟨_,rfl⟩
   rw [← he,← hw]
   have hsl:∀ T:Env,T.get 104=some (.int .i64 (i:Nat))→T.get 105=some (.int .i64 (e:Nat))→aslcS T (.str s) (some (.t 104)) (some (.t 105))=some (.str (s.extract i e)):=fun T e1 e2=>slc_both e1 e2 (by omega) hele.2
   obtain ⟨st,ld⟩:=res35 g1 rfl (tokC 2 w 0 0 0) rfl rfl
   unfold tokC at st
   refine Dy rfl rfl ?_
   refine DR.goto rfl ?_
   refine Dg rfl ?_
   simp -dsimp only [SE,astep,seval,rowq,l1]
   refine (g21 r1 (fun b H=>of_chk t39 b H) (by omega) i).mono ?_
   rintro a H1 ⟨rfl,rfl⟩
   simp -dsimp only [SE,astep,seval,rowq]
   rw [← he]
   refine Dm rfl ?_
   refine DR.draw (by kernel_rfl) d23_21 ?_
   simp -dsimp only [m23_21,SE,astep,seval,rowq,DS_nil,DS_cons,seesAll,staysAll,abit,List.getD_cons_zero,List.getD_cons_succ,AOp.quiet,AOp.reads,true_and,and_true,decide_true,decide_false,and_self,l0,l1]
   rw [hsl _ rfl rfl,← hw]
   simp -dsimp only [DS_nil,DS_cons,seesAll,staysAll,abit,List.getD_cons_zero,List.getD_cons_succ,AOp.quiet,AOp.reads,true_and,and_true,decide_true,decide_false,and_self,SE,astep,seval,rowq,Env.parts,afill,AVal.cells,LZ,st]
   refine Dm rfl ?_
   refine DR.ret ⟨.tup [.agg (tokC 2 w 0 0 0),.int .i64 (e:Nat)],?_,Told.end hrl rfl g1 r1 (by omega) (fun q hq _=>f1 q hq)⟩
   have ld':aload (H1.set H.next (.cells 35 [.int .i64 2,.str w,.int .i64 0,.flt .f64 0,.int .i64 0])) (some 5) (.ptr H.next 0)=_:=ld
   simp [aresult,ares,Env.get,ld']
  | false=>
   refine Dn rfl rfl ?_
   refine Dg rfl ?_
   simp -dsimp only [SE,astep,seval,rowq]
   refine (of_chk t34 c H1).mono ?_
   rintro a H1 ⟨rfl,rfl⟩
   simp -dsimp only [SE,astep,seval,rowq]
   cases hdg:isDig c.toNat with
   | true=>
    have htok:token s i c.toNat 0=numTok s i 0:=by unfold token; rw [if_neg (by simp [hnm]),if_pos hdg]
    rw [htok] at hmade ⊢
    refine Dy rfl rfl ?_
    refine Dg rfl ?_
    simp -dsimp only [SE,astep,seval,rowq]
    refine (g35 r1 hsz (by omega)).mono ?_
    intro a H2 hT
    cases hn:numTok s i 0 with
    | inl er=>
     rw [hn] at hT
     obtain ⟨⟨⟨cs,j,rfl,hl5,ho⟩,r2⟩,n2,f2⟩:=hT
     have g2:=(f2 H.next (by omega) (by omega)).trans g1
     obtain ⟨st,ld⟩:=res35 g2 rfl cs hl5 ho
     simp -dsimp only [SE,astep,seval,rowq,st]
     refine Dm rfl ?_
     exact DR.ret ⟨.tup [.agg cs,.int .i64 j],by simp [aresult,ares,Env.get,ld],Told.bad ⟨hl5,ho⟩ hrl rfl g2 r2 (by omega) (fun q hq hne=>by rw [f2 q (by omega) hne,f1 q hq])⟩
    | inr p=>
     rw [hn] at hT hmade
     obtain ⟨⟨rfl,r2⟩,n2,f2⟩:=hT
     have g2:=(f2 H.next (by omega) (by omega)).trans g1
     obtain ⟨st,ld⟩:=res35 g2 rfl p.1 hmade.cells.1 hmade.cells.2
     simp -dsimp only [SE,astep,seval,rowq,st]
     refine Dm rfl ?_
     exact DR.ret ⟨.tup [.agg p.1,.int .i64 (p.2:Nat)],by simp [aresult,ares,Env.get,ld],Told.end hrl rfl g2 r2 (by omega) (fun q hq hne=>by rw [f2 q (by omega) hne,f1 q hq])⟩
   | false=>
    refine Dn rfl rfl ?_
    refine Dg rfl ?_
    simp -dsimp only [SE,astep,seval,rowq,abin]
    cases h35:((c.toNat:Int)==35) with
    | true=>
     have htok:token s i c.toNat 0=bitsTok s i:=by rw [bits_tok]; unfold token; rw [if_neg (by simp [hnm]),if_neg (by simp [hdg]),if_pos h35]
     rw [htok] at hmade ⊢
     refine Dy rfl rfl ?_
     refine Dg rfl ?_
     simp -dsimp only [SE,astep,seval,rowq]
     refine (g36 r1 hsz hi).mono ?_
     intro a H2 hT
     cases hn:bitsTok s i with
     | inl er=>
      rw [hn] at hT
      obtain ⟨⟨⟨cs,j,rfl,hl5,ho⟩,r2⟩,n2,f2⟩:=hT
      have g2:=(f2 H.next (by omega) (by omega)).trans g1
      obtain ⟨st,ld⟩:=res35 g2 rfl cs hl5 ho
      simp -dsimp only [SE,astep,seval,rowq,st]
      refine Dm rfl ?_
      exact DR.ret ⟨.tup [.agg cs,.int .i64 j],by simp [aresult,ares,Env.get,ld],Told.bad ⟨hl5,ho⟩ hrl rfl g2 r2 (by omega) (fun q hq hne=>by rw [f2 q (by omega) hne,f1 q hq])⟩
     | inr p=>
      rw [hn] at hT hmade
      obtain ⟨⟨rfl,r2⟩,n2,f2⟩:=hT
      have g2:=(f2 H.next (by omega) (by omega)).trans g1
      obtain ⟨st,ld⟩:=res35 g2 rfl p.1 hmade.cells.1 hmade.cells.2
      simp -dsimp only [SE,astep,seval,rowq,st]
      refine Dm rfl ?_
      exact DR.ret ⟨.tup [.agg p.1,.int .i64 (p.2:Nat)],by simp [aresult,ares,Env.get,ld],Told.end hrl rfl g2 r2 (by omega) (fun q hq hne=>by rw [f2 q (by omega) hne,f1 q hq])⟩
    | false=>
     have htok0:token s i c.toNat 0=if (((c.toNat:Int)==39) || ((c.toNat:Int)==34))=true then quoTok s i c.toNat 0 else signTok s i 0:=by unfold token; rw [if_neg (by simp [hnm]),if_neg (by simp [hdg]),if_neg (by simp [h35])]
     refine Dn rfl rfl ?_
     refine Dg rfl ?_
     simp -dsimp only [SE,astep,seval,rowq,abin]
     cases h39:((c.toNat:Int)==39) with
     | true=>
      have htok:token s i c.toNat 0=quoTok s i c.toNat 0:=by rw [htok0,h39]; rfl
      rw [htok]
      unfold quoTok
      rw [h39]
      refine Dy rfl rfl ?_
      refine DR.goto rfl ?_
      refine Dg rfl ?_
      simp -dsimp only [SE,astep,seval,rowq]
      refine (g37 (m:=(c.toNat:Int)) r1 hsz (by omega)).mono ?_
      intro a H2 hT
      cases hq:quote s (c.toNat:Int) i with
      | none=>
       rw [hq] at hT
       obtain ⟨⟨⟨j,rfl⟩,r2⟩,n2,f2⟩:=hT
       have g2:=(f2 H.next (by omega) (by omega)).trans g1
       simp -dsimp only [SE,astep,seval,rowq]
       refine Dm rfl ?_
       refine DR.only [0,2,3,4] ?_
       exact tail23 hrl rfl g2 r2 (by omega) (fun q hq hne=>by rw [f2 q (by omega) hne,f1 q hq]) (.inr rfl) _ (fun h=>absurd h (by decide)) (fun _=>rfl)
      | some p=>
       rw [hq] at hT
       obtain ⟨⟨rfl,r2⟩,n2,f2⟩:=hT
       have g2:=(f2 H.next (by omega) (by omega)).trans g1
       simp -dsimp only [SE,astep,seval,rowq]
       refine Dm rfl ?_
       refine DR.only [0,2,3,4] ?_
       exact tail23 hrl rfl g2 r2 (by omega) (fun q hq hne=>by rw [f2 q (by omega) hne,f1 q hq]) (.inl rfl) _ (fun _=>⟨p.2,rfl,if_pos rfl⟩) (fun h=>absurd h (by decide))
     | false=>
      rw [h39,Bool.false_or] at htok0
      refine Dn rfl rfl ?_
      refine Dg rfl ?_
      simp -dsimp only [SE,astep,seval,rowq,abin]
      cases h34:((c.toNat:Int)==34) with
      | true=>
       rw [h34,if_pos rfl] at htok0
       rw [htok0]
       unfold quoTok
       rw [h39]
       refine Dy rfl rfl ?_
       refine Dg rfl ?_
       simp -dsimp only [SE,astep,seval,rowq]
       refine (g37 (m:=(c.toNat:Int)) r1 hsz (by omega)).mono ?_
       intro a H2 hT
       cases hq:quote s (c.toNat:Int) i with
       | none=>
        rw [hq] at hT
        obtain ⟨⟨⟨j,rfl⟩,r2⟩,n2,f2⟩:=hT
        have g2:=(f2 H.next (by omega) (by omega)).trans g1
        obtain ⟨st,ld⟩:=res35 g2 rfl (tokC 5 ⟨#[]⟩ 0 0 0) rfl rfl
        unfold tokC at st
        simp -dsimp only [SE,astep,seval,rowq]
        refine Dg rfl ?_
        simp -dsimp only [SE,astep,seval,rowq,Env.parts,afill,AVal.cells,LZ,st]
        refine Dm rfl ?_
        refine DR.ret ⟨.tup [.agg (tokC 5 ⟨#[]⟩ 0 0 0),.int .i64 j],?_,Told.bad ⟨rfl,rfl⟩ hrl rfl g2 r2 (by omega) (fun q hq hne=>by rw [f2 q (by omega) hne,f1 q hq])⟩
        have ld':aload (H2.set H.next (.cells 35 [.int .i64 5,.str ⟨#[]⟩,.int .i64 0,.flt .f64 0,.int .i64 0])) (some 5) (.ptr H.next 0)=_:=ld
        simp [aresult,ares,Env.get,ld']
       | some p=>
        rw [hq] at hT
        obtain ⟨⟨rfl,r2⟩,n2,f2⟩:=hT
        have g2:=(f2 H.next (by omega) (by omega)).trans g1
        obtain ⟨st,ld⟩:=res35 g2 rfl (tokC 5 p.1 0 0 0) rfl rfl
        unfold tokC at st
        simp -dsimp only [SE,astep,seval,rowq]
        refine Dg rfl ?_
        simp -dsimp only [SE,astep,seval,rowq,Env.parts,afill,AVal.cells,LZ,st]
        refine Dm rfl ?_
        refine DR.ret ⟨.tup [.agg (tokC 5 p.1 0 0 0),.int .i64 (p.2:Nat)],?_,Told.end hrl rfl g2 r2 (by omega) (fun q hq hne=>by rw [f2 q (by omega) hne,f1 q hq])⟩
        have ld':aload (H2.set H.next (.cells 35 [.int .i64 5,.str p.1,.int .i64 0,.flt .f64 0,.int .i64 0])) (some 5) (.ptr H.next 0)=_:=ld
        simp [aresult,ares,Env.get,ld']
      | false=>
       rw [h34,if_neg (by simp)] at htok0
       rw [htok0]
       refine Dn rfl rfl ?_
       refine Dg rfl ?_
       simp -dsimp only [SE,astep,seval,rowq]
       refine (g38 r1 (by omega)).mono ?_
       rintro a H1 ⟨rfl,rfl⟩
       simp -dsimp only [SE,astep,seval,rowq]
       unfold signTok
       obtain ⟨g,hg⟩:∃ g,g=signAt s i:=⟨_,rfl⟩
       have hle:=signAt_le (s:=s) (i:=i) (by omega)
       rw [← hg] at hle ⊢
       have hl:∀ H,alenT H 0 (.str g)=some g.size:=fun _=>rfl
       have hw:IntKind.i64.wrap ((i:Int)+(g.size:Int))=((i+g.size:Nat):Int):=by
        have:=wrap64 (n:=i+g.size) (by omega)
        rw [Int.natCast_add] at this ⊢; exact this
       cases h0:decide (g.size=0) with
       | true=>
        rw [if_pos rfl]
        have sr:=astore_one r1 (o:=2) (x:=.int .i64 21) (by simp [scanCells]) rfl
        obtain ⟨H2,hH2,r2,n2,f2⟩:=upd r1 (.cells 50 ((scanCells s (i:Nat) 0).set 2 (.int .i64 21)))
        rw [← hH2] at sr
        have r2:H2.get r=some (.cells 50 (scanCells s (i:Nat) 21)):=r2
        have l12:=load_cell r2 (o:=1) (v:=.int .i64 (i:Nat)) rfl
        have g2:=(f2 H.next (by omega)).trans g1
        obtain ⟨st,ld⟩:=res35 g2 rfl (tokC 6 g 0 0 0) rfl rfl
        unfold tokC at st
        have lz:∀ X,aload (H2.set H.next (.cells 35 X)) none (.ptr r 1)=some (.int .i64 (i:Nat)):=fun X=>load_cell (by rw [AHeap.get_set,if_neg (by omega)]; exact r2) rfl
        refine Dg rfl ?_
        simp -dsimp only [SE,astep,seval,rowq,abin,emp,h0]
        refine Dy rfl rfl ?_
        refine Dg rfl ?_
        simp -dsimp only [SE,astep,seval,rowq,sr]
        refine Dm rfl ?_
        refine DR.draw (by kernel_rfl) d23_15 ?_
        simp -dsimp only [m23_15,SE,astep,seval,rowq,DS_nil,DS_cons,seesAll,staysAll,abit,List.getD_cons_zero,List.getD_cons_succ,AOp.quiet,AOp.reads,true_and,and_true,decide_true,decide_false,and_self,Bool.true_beq,Bool.false_beq,l12,lz,hl,abin_addI,hw,Env.parts,afill,AVal.cells,LZ,st]
        refine Dm rfl ?_
        refine DR.ret ⟨.tup [.agg (tokC 6 g 0 0 0),.int .i64 ((i+g.size:Nat):Int)],?_,Told.bad ⟨rfl,rfl⟩ hrl rfl g2 r2 (by omega) (fun q hq hne=>by rw [f2 q hne,f1 q hq])⟩
        have ld':aload (H2.set H.next (.cells 35 [.int .i64 6,.str g,.int .i64 0,.flt .f64 0,.int .i64 0])) (some 5) (.ptr H.next 0)=_:=ld
        simp [aresult,ares,Env.get,ld']
       | false=>
        rw [if_neg (by simp)]
        obtain ⟨st,ld⟩:=res35 g1 rfl (tokC 6 g 0 0 0) rfl rfl
        unfold tokC at st
        have lz:∀ X,aload (H1.set H.next (.cells 35 X)) none (.ptr r 1)=some (.int .i64 (i:Nat)):=fun X=>load_cell (by rw [AHeap.get_set,if_neg (by omega)]; exact r1) rfl
        refine Dg rfl ?_
        simp -dsimp only [SE,astep,seval,rowq,abin,emp,h0]
        refine Dn rfl rfl ?_
        refine Dm rfl ?_
        refine DR.draw (by kernel_rfl) d23_15 ?_
        simp -dsimp only [m23_15,SE,astep,seval,rowq,DS_nil,DS_cons,seesAll,staysAll,abit,List.getD_cons_zero,List.getD_cons_succ,AOp.quiet,AOp.reads,true_and,and_true,decide_true,decide_false,and_self,Bool.true_beq,Bool.false_beq,l1,lz,hl,abin_addI,hw,Env.parts,afill,AVal.cells,LZ,st]
        refine Dm rfl ?_
        refine DR.ret ⟨.tup [.agg (tokC 6 g 0 0 0),.int .i64 ((i+g.size:Nat):Int)],?_,Told.end hrl rfl g1 r1 (by omega) (fun q hq _=>f1 q hq)⟩
        have ld':aload (H1.set H.next (.cells 35 [.int .i64 6,.str g,.int .i64 0,.flt .f64 0,.int .i64 0])) (some 5) (.ptr H.next 0)=_:=ld
        simp [aresult,ares,Env.get,ld']
end Go.Am.Rl
namespace Go.Am.Rl
open Go.Proofs
theorem pass_more {s:ByteArray} {n i:Nat} (h:s.size - i≤n):passW s n i=pass s i:=passW_more s _ _ _ h (Nat.le_refl _)
theorem pass_end {s:ByteArray} {i:Nat} (h:s[i]? = none):pass s i=i:=by
 rw [← pass_more (n:=s.size - i+1) (by omega)]
 simp only [passW,h]
theorem pass_line {s:ByteArray} {i:Nat} {b:UInt8} (h:s[i]? = some b) (hb:((b.toNat:Int)==37)=true):pass s i=pass s (skip noLine s i):=by
 have hs:=skip_next h (p:=noLine) (by
  have:=eq_of_beq hb
  unfold noLine; simp; omega)
 rw [← pass_more (n:=s.size - i+1) (by omega)]
 simp only [passW,h,hb,if_true]
 exact pass_more (by omega)
theorem pass_blank {s:ByteArray} {i:Nat} {b:UInt8} (h:s[i]? = some b) (hl:((b.toNat:Int)==37)=false) (hb:blank b.toNat=true):pass s i=pass s (i+1):=by
 rw [← pass_more (n:=s.size - i+1) (by omega)]
 simp only [passW,h,hb,hl,if_true,Bool.false_eq_true,if_false]
 exact pass_more (by omega)
theorem pass_stop {s:ByteArray} {i:Nat} {b:UInt8} (h:s[i]? = some b) (hl:((b.toNat:Int)==37)=false) (hb:blank b.toNat=false):pass s i=i:=by
 rw [← pass_more (n:=s.size - i+1) (by omega)]
 simp only [passW,h,hb,hl,Bool.false_eq_true,if_false]
abbrev Res:=(Int × Int) ⊕ List (List AVal)
def toksW (s:ByteArray):Nat→Nat→List (List AVal)→Res
 | 0,_,acc=>.inr acc
 | n+1,i,acc=>match s[i]? with
  | none=>.inr acc
  | some c=>match token s i c.toNat (i:Nat) with
   | .inl e=>.inl (e,(i:Nat))
   | .inr p=>toksW s n (pass s p.2) (acc++[p.1])
theorem toksW_more (s:ByteArray):∀ n m i acc,s.size - i≤n→s.size - i≤m→toksW s n i acc=toksW s m i acc
 | 0,0,i,acc,_,_=>rfl
 | 0,m+1,i,acc,h,_=>by simp only [toksW,byte_none (show ¬ i < s.size by omega)]
 | n+1,0,i,acc,_,h=>by simp only [toksW,byte_none (show ¬ i < s.size by omega)]
 | n+1,m+1,i,acc,h1,h2=>by
  simp only [toksW]
  split
  ·rfl
  ·rename_i c hc
   have hm:=token_made hc (i:Nat)
   split
   ·rfl
   ·rename_i p hp
    rw [hp] at hm
    obtain ⟨_,h3,h4⟩:=hm p rfl
    have h5:=(pass_le (s:=s) h4).1
    exact toksW_more s n m _ _ (by omega) (by omega)
def toks (s:ByteArray) (i:Nat) (acc:List (List AVal)):Res:=toksW s (s.size - i) i acc
theorem toks_end {s:ByteArray} {i:Nat} {acc:List (List AVal)} (h:s[i]? = none):toks s i acc = .inr acc:=by
 unfold toks
 rw [toksW_more s _ (s.size - i+1) i acc (by omega) (by omega)]
 simp only [toksW,h]
theorem toks_bad {s:ByteArray} {i:Nat} {acc:List (List AVal)} {c:UInt8} {e:Int} (h:s[i]? = some c) (ht:token s i c.toNat (i:Nat) = .inl e):toks s i acc = .inl (e,(i:Nat)):=by
 unfold toks
 rw [toksW_more s _ (s.size - i+1) i acc (by omega) (by omega)]
 simp only [toksW,h,ht]
theorem toks_more {s:ByteArray} {i:Nat} {acc:List (List AVal)} {c:UInt8} {p:List AVal × Nat} (h:s[i]? = some c) (ht:token s i c.toNat (i:Nat) = .inr p):toks s i acc=toks s (pass s p.2) (acc++[p.1]):=by
 have hm:=token_made h (i:Nat)
 rw [ht] at hm
 obtain ⟨_,h3,h4⟩:=hm p rfl
 have h5:=(pass_le (s:=s) h4).1
 unfold toks
 rw [toksW_more s _ (s.size - i+1) i acc (by omega) (by omega)]
 simp only [toksW,h,ht]
 exact toksW_more s _ _ _ _ (by omega) (by omega)
def endTok (s:ByteArray):List AVal:=tokC 8 ⟨#[]⟩ 0 0 (s.size:Nat)
def tokens (s:ByteArray):Res:=if decide ((s.size:Int) > 65536)=true then .inl (3,0) else match toks s (pass s 0) [] with
 | .inl e=>.inl e
 | .inr l=>.inr (l++[endTok s])
structure OutT (B:Nat) (H:AHeap) (x:AVal) (l:List (List AVal)):Prop where
 gr:Grow H 35 5 x l.length l.flatten
 own:∀ j,rid x=some j→B≤j
 nx:B≤H.next
theorem OutT.new {B:Nat} {H:AHeap} (h:B≤H.next):OutT B H .nils []:=⟨Grow.nils _ _ _,fun j h=>(by cases h),h⟩
theorem OutT.frame {B:Nat} {H H':AHeap} {x:AVal} {l:List (List AVal)} (h:OutT B H x l) (hn:H.next≤H'.next) (hf:∀ j,B≤j→j < H.next→H'.get j=H.get j):OutT B H' x l:=
 ⟨h.gr.frame fun id hid=>hf id (h.own id hid) (h.gr.lt hid),h.own,Nat.le_trans h.nx hn⟩
theorem OutT.push {B:Nat} {H:AHeap} {x:AVal} {l:List (List AVal)} (h:OutT B H x l) (c:List AVal) (hc:c.length=5∧ones c=true) (hl:l.length < 1000000) :
  ∃ x' H',aapp 35 5 48 (H.push (.cells 35 c)) x (.sl H.next 0 1 (some 1))=some (x',H')∧OutT B H' x' (l++[c])∧∀ j,j < B→H'.get j=H.get j:=by
 have hg:(H.push (.cells 35 c)).get H.next=some (.cells 35 c):=by rw [AHeap.get_push,if_pos rfl]
 have hgr:Grow (H.push (.cells 35 c)) 35 5 x l.length l.flatten:=h.gr.frame fun id hid=>by
  have:=h.gr.lt hid
  rw [AHeap.get_push,if_neg (by omega)]
 obtain ⟨x',H',h1,h2,h3,h4,h5⟩:=hgr.one hg hc.1 hc.2 (by omega) (b:=48) (by omega) (by omega)
 have hn:(H.push (.cells 35 c)).next=H.next+1:=rfl
 have hnx:=h.nx
 refine ⟨x',H',h1,⟨?_,fun j hj=> ?_,?_⟩,fun j hj=> ?_⟩
 ·have e1:(l++[c]).flatten=l.flatten++c:=by simp
  have e2:(l++[c]).length=l.length+1:=by simp
  rw [e1,e2]; exact h2
 ·have:=h5 j hj; omega
 ·omega
 ·rw [h4 j (by omega) (fun e=>by have:=h.own j e; omega),AHeap.get_push,if_neg (by omega)]
def TokOut (H H':AHeap) (a:AVal) (res:Res):Prop:=
 (match res with
  | .inl e=>a = .tup [.nils,.agg [.int .i64 e.1,.int .i64 e.2]]
  | .inr l=>∃ x,a = .tup [x,.agg [.int .i64 0,.int .i64 0]]∧OutT H.next H' x l)∧H.next≤H'.next∧∀ j,j < H.next→H'.get j=H.get j
end Go.Am.Rl
namespace Go.Am.Rl
open Go.Proofs
def Numbered (t:Tok):Prop:=∀ e,t = .inl e→(e != 0)=true
theorem Numbered.ok {p:List AVal × Nat}:Numbered (.inr p):=fun e h=>by cases h
theorem Numbered.no {e:Int} (h:(e != 0)=true):Numbered (.inl e):=fun e' h'=>by injection h' with h'; subst h'; exact h
theorem token_numbered (s:ByteArray) (i c:Nat) (pl:Int):Numbered (token s i c pl):=by
 unfold token nameTok lowTok numTok numAt numF numI bitTok quoTok signTok
 cases bits s i <;> cases quote s (c:Int) i
 all_goals
  repeat' split
  all_goals first | exact Numbered.ok | exact Numbered.no (by decide) | (rename_i h; cases h; first | exact Numbered.ok | exact Numbered.no (by decide))
section
variable {H0:AHeap} {s:ByteArray} {b B:Nat} {k k':List AItem} {Q:Env→AHeap→Prop}
end
end Go.Am.Rl
namespace Go.Am.Rl
open Go.Proofs
theorem reg10_7 {c:Nat} {v0 v3 v4 v5:AVal} {H:AHeap} {k:List AItem} {Q:Env→AHeap→Prop} (h:DR Tryd.prog (kof k10) 102 k [(0,v0),(3,v3),(4,v4),(5,v5),(6,.int .u8 (c:Nat)),(29,.bool (blank c))] H Q) :
  DR Tryd.prog (kof k10) 102 (.code (.region false r10_7 [0,3,4,5,6,29])::k) [(0,v0),(3,v3),(4,v4),(5,v5),(6,.int .u8 (c:Nat))] H Q:=by
 have hb:blank c=(((((c:Int)==32) || ((c:Int)==9)) || ((c:Int)==10)) || ((c:Int)==13)):=by
  unfold blank
  cases ((c:Int)==9) <;> cases ((c:Int)==10) <;> cases ((c:Int)==13) <;> cases ((c:Int)==32) <;> rfl
 rw [hb] at h
 cases h1:((c:Int)==32) with
 | true=>
  rw [h1] at h
  refine Dg rfl ?_
  simp -dsimp only [SE,astep,seval,rowq,abin,h1]
  exact h
 | false=>
  cases h2:((c:Int)==9) with
  | true=>
   rw [h1,h2] at h
   refine Dg rfl ?_
   simp -dsimp only [SE,astep,seval,rowq,abin,h1,h2]
   exact h
  | false=>
   cases h3:((c:Int)==10) with
   | true=>
    rw [h1,h2,h3] at h
    refine Dg rfl ?_
    simp -dsimp only [SE,astep,seval,rowq,abin,h1,h2,h3]
    exact h
   | false=>
    rw [h1,h2,h3] at h
    refine Dg rfl ?_
    simp -dsimp only [SE,astep,seval,rowq,abin,h1,h2,h3]
    exact h
theorem blank_line {c:Nat} (h:blank c=true):((c:Int)==37)=false:=by
 rw [beq_eq_false_iff_ne]
 unfold blank at h
 simp only [Bool.or_eq_true] at h
 rcases h with ((h | h) | h) | h
 all_goals
  have:=eq_of_beq h
  omega
section
variable {H0:AHeap} {s:ByteArray} {b r B:Nat} {k k':List AItem} {Q:Env→AHeap→Prop}
theorem loop10 (hsz:s.size < 1000000) (hbB:b < B) (hrB:r < B) (hbr:b≠r) (hk:aexitTo 0 k=some k') :
  ∀ (d i:Nat) (acc:List (List AVal)) (x:AVal) (H:AHeap),s.size - i≤d→i≤s.size→acc.length≤i→H.get b=some (.cells 26 [.int .i64 0,.int .i64 0])→H.get r=some (.cells 50 (scanCells s (i:Nat) 0))→OutT B H x acc→(∀ j,j < B→j≠r→H.get j=H0.get j)→
   (∀ x' H' l,toks s (pass s i) acc = .inr l→l.length≤s.size→H'.get b=some (.cells 26 [.int .i64 0,.int .i64 0])→OutT B H' x' l→(∀ j,j < B→j≠r→H'.get j=H0.get j)→DR Tryd.prog (kof k10) 102 k' [(0,.str s),(3,.ptr b 0),(5,x')] H' Q)→
   (∀ e H',toks s (pass s i) acc = .inl e→aload H' (some 2) (.ptr b 0)=some (.agg [.int .i64 e.1,.int .i64 e.2])→B≤H'.next→(∀ j,j < B→j≠b→j≠r→H'.get j=H0.get j)→Q [(2,.nils),(3,.ptr b 0)] H')→
   DR Tryd.prog (kof k10) 102 (.code l10_0::.inLoop l10_0::k) [(0,.str s),(3,.ptr b 0),(4,.ptr r 0),(5,x)] H Q:=by
 have hl:∀ H,alenT H 0 (.str s)=some s.size:=fun _=>rfl
 intro d
 induction d with
 | zero=>
  intro i acc x H hi his hacc hb hr hO hf hend hbad
  have l1:=load_cell hr (o:=1) (v:=.int .i64 (i:Nat)) rfl
  have hc:decide ((i:Int) < (s.size:Int))=false:=by simp; omega
  have hpe:pass s i=i:=pass_end (byte_none (by omega))
  refine Dg rfl ?_
  simp -dsimp only [SE,astep,seval,rowq,l1,hl,hc,abin]
  refine Dn rfl rfl ?_
  refine DR.exit (k':=k') (by simpa [aexitTo] using hk) ?_
  exact DR.only [0,3,5] (hend x H acc (by rw [hpe]; exact toks_end (byte_none (by omega))) (by omega) hb hO hf)
 | succ d ih=>
  intro i acc x H hi his hacc hb hr hO hf hend hbad
  have l1:=load_cell hr (o:=1) (v:=.int .i64 (i:Nat)) rfl
  rcases Nat.lt_or_ge i s.size with hlt | hge
  ·have hc:decide ((i:Int) < (s.size:Int))=true:=by simp; omega
   obtain ⟨c,hct⟩:=byte_at hlt
   have hx:=idx_at hct
   have hnx:=hO.nx
   have hw:IntKind.i64.wrap ((i:Int)+1)=((i+1:Nat):Int):=wrap64 (n:=i+1) (by omega)
   refine Dg rfl ?_
   simp -dsimp only [SE,astep,seval,rowq,l1,hl,hc,abin]
   refine Dy rfl rfl ?_
   refine Dg rfl ?_
   simp -dsimp only [SE,astep,seval,rowq,l1,hx]
   refine Dm rfl ?_
   refine DR.only [0,3,4,5,6] ?_
   refine reg10_7 ?_
   cases hbl:blank c.toNat with
   | true=>
    have hps:=pass_blank hct (blank_line hbl) hbl
    rw [hps] at hend hbad
    have sr:=astore_one hr (o:=1) (x:=.int .i64 ((i+1:Nat):Int)) (by simp [scanCells]) rfl
    obtain ⟨H2,hH2,r2,n2,f2⟩:=upd hr (.cells 50 ((scanCells s (i:Nat) 0).set 1 (.int .i64 ((i+1:Nat):Int))))
    rw [← hH2] at sr
    refine Dy rfl rfl ?_
    refine Dg rfl ?_
    simp -dsimp only [SE,astep,seval,rowq,l1,abin_addI,hw,sr]
    refine DR.exit rfl ?_
    refine Dm rfl ?_
    refine DR.inLoop ?_
    refine ih (i+1) acc x H2 (by omega) (by omega) (by omega) ?_ r2 ?_ ?_ hend hbad
    ·rw [f2 b hbr]; exact hb
    ·exact hO.frame (by omega) fun j h1 h2=>f2 j (by omega)
    ·intro j h1 h2; rw [f2 j h2,hf j h1 h2]
   | false=>
    refine Dn rfl rfl ?_
    refine Dg rfl ?_
    simp -dsimp only [SE,astep,seval,rowq,abin]
    cases h37:((c.toNat:Int)==37) with
    | true=>
     have hps:=pass_line hct h37
     rw [hps] at hend hbad
     have hs1:=skip_next hct (p:=noLine) (by
      have:=eq_of_beq h37
      unfold noLine; simp; omega)
     have hs2:=(skip_le (p:=noLine) (s:=s) (i:=i) his).2
     obtain ⟨j,hj⟩:∃ j,j=skip noLine s i:=⟨_,rfl⟩
     rw [← hj] at hend hbad hs1 hs2
     have sr:=astore_one hr (o:=1) (x:=.int .i64 (j:Nat)) (by simp [scanCells]) rfl
     obtain ⟨H2,hH2,r2,n2,f2⟩:=upd hr (.cells 50 ((scanCells s (i:Nat) 0).set 1 (.int .i64 (j:Nat))))
     rw [← hH2] at sr
     refine Dy rfl rfl ?_
     refine Dg rfl ?_
     simp -dsimp only [SE,astep,seval,rowq,l1]
     refine (g21 (p:=noLine) hr (fun b H=>of_chk t22 b H) (by omega) i).mono ?_
     rintro a H' ⟨rfl,rfl⟩
     rw [← hj]
     simp -dsimp only [SE,astep,seval,rowq,sr]
     refine DR.exit rfl ?_
     refine Dm rfl ?_
     refine DR.inLoop ?_
     refine ih j acc x H2 (by omega) hs2 (by omega) ?_ r2 ?_ ?_ hend hbad
     ·rw [f2 b hbr]; exact hb
     ·exact hO.frame (by omega) fun j h1 h2=>f2 j (by omega)
     ·intro j h1 h2; rw [f2 j h2,hf j h1 h2]
    | false=>
     have hps:=pass_stop hct h37 hbl
     rw [hps] at hend hbad
     refine Dn rfl rfl ?_
     refine Dg rfl ?_
     simp -dsimp only [SE,astep,seval,rowq]
     refine (g23 hct hr hsz).mono ?_
     intro a H1 hT
     have hpl:=token_pl s i c.toNat (i:Nat)
     have hm:=token_made hct 0
     obtain ⟨H2,hH2,g2,n2,f2⟩:=psh H1 (.cells 35 [.int .i64 0,.str ⟨#[]⟩,.int .i64 0,.flt .f64 0,.int .i64 0])
     have g2:H2.get H1.next=some (.cells 35 tok0):=g2
     cases ht:token s i c.toNat 0 with
     | inl e=>
      rw [ht] at hT hpl
      have hne:=token_numbered s i c.toNat 0 e ht
      obtain ⟨⟨⟨cs,j,rfl,hl5,ho⟩,r1⟩,n1,f1⟩:=hT
      have st2:=(res35 g2 rfl cs hl5 ho).1
      obtain ⟨H3,hH3,g3,n3,f3⟩:=upd g2 (.cells 35 cs)
      have r3:H3.get r=some (.cells 50 (scanCells s (i:Nat) e)):=(f3 r (by omega)).trans ((f2 r (by omega)).trans r1)
      have le:=load_cell r3 (o:=2) (v:=.int .i64 e) rfl
      have lp:=load_cell r3 (o:=1) (v:=.int .i64 (i:Nat)) rfl
      have gb:=(f3 b (by omega)).trans ((f2 b (by omega)).trans ((f1 b (by omega) hbr).trans hb))
      have st:=store_all (n:=2) gb (new:=[.int .i64 e,.int .i64 (i:Nat)]) rfl rfl rfl
      simp -dsimp only [SE,astep,seval,rowq,← hH2,st2,← hH3]
      refine Dg rfl ?_
      simp -dsimp only [SE,astep,seval,rowq,le,abin,hne]
      refine Dy rfl rfl ?_
      refine Dm rfl ?_
      refine DR.draw (by kernel_rfl) d10_13 ?_
      simp -dsimp only [m10_13,SE,astep,seval,rowq,DS_nil,DS_cons,seesAll,staysAll,abit,List.getD_cons_zero,List.getD_cons_succ,AOp.quiet,AOp.reads,true_and,and_true,decide_true,decide_false,and_self,le,lp,Env.parts,afill,AVal.cells,LZ,st]
      refine DR.ret (hbad (e,(i:Nat)) _ (toks_bad hct hpl.symm) (load_all (n:=2) (by rw [AHeap.get_set,if_pos rfl,if_pos (AHeap.get_lt gb)]) rfl) ?_ ?_)
      ·show B≤H3.next; omega
      ·intro j hj hne hnr; rw [AHeap.get_set,if_neg hne,f3 j (by omega),f2 j (by omega),f1 j (by omega) hnr,hf j hj hnr]
     | inr p=>
      rw [ht] at hT hpl hm
      obtain ⟨⟨rfl,r1⟩,n1,f1⟩:=hT
      obtain ⟨hc5,ho⟩:=hm.cells
      obtain ⟨⟨tk,ts,tn,tf,htk⟩,hp1,hp2⟩:=hm p rfl
      have hple:=pass_le (s:=s) hp2
      have hpl:token s i c.toNat (i:Nat) = .inr (tokC tk ts tn tf (i:Nat),p.2):=by rw [← hpl]; show (Sum.inr (p.1.set 4 (.int .i64 (i:Nat)),p.2):Tok)=_; rw [htk]; rfl
      have st2:=(res35 g2 rfl p.1 hc5 ho).1
      obtain ⟨H3,hH3,g3,n3,f3⟩:=upd g2 (.cells 35 p.1)
      have r3:H3.get r=some (.cells 50 (scanCells s (i:Nat) 0)):=(f3 r (by omega)).trans ((f2 r (by omega)).trans r1)
      have le:=load_cell r3 (o:=2) (v:=.int .i64 0) rfl
      have lp:=load_cell r3 (o:=1) (v:=.int .i64 (i:Nat)) rfl
      have st4:=astore_one g3 (o:=4) (x:=.int .i64 (i:Nat)) (by omega) rfl
      obtain ⟨H4,hH4,g4,n4,f4⟩:=upd g3 (.cells 35 (p.1.set 4 (.int .i64 (i:Nat))))
      rw [← hH4] at st4
      have hset:p.1.set 4 (.int .i64 (i:Nat))=tokC tk ts tn tf (i:Nat):=by rw [htk]; rfl
      rw [hset] at g4
      have ld4:=load_all (n:=5) g4 rfl
      have hO4:OutT B H4 x acc:=hO.frame (by omega) fun j h1 h2=>by rw [f4 j (by omega),f3 j (by omega),f2 j (by omega),f1 j h2 (by omega)]
      obtain ⟨x',H5,ha,hO5,f5⟩:=hO4.push (tokC tk ts tn tf (i:Nat)) ⟨rfl,rfl⟩ (by omega)
      have r5:H5.get r=some (.cells 50 (scanCells s (i:Nat) 0)):=by rw [f5 r hrB,f4 r (by omega)]; exact r3
      have sr:=astore_one r5 (o:=1) (x:=.int .i64 (p.2:Nat)) (by simp [scanCells]) rfl
      obtain ⟨H6,hH6,r6,n6,f6⟩:=upd r5 (.cells 50 ((scanCells s (i:Nat) 0).set 1 (.int .i64 (p.2:Nat))))
      rw [← hH6] at sr
      unfold tokC at ld4 ha
      simp -dsimp only [SE,astep,seval,rowq,← hH2,st2,← hH3]
      refine Dg rfl ?_
      simp -dsimp only [SE,astep,seval,rowq,le,abin,bne_self_eq_false]
      refine Dn rfl rfl ?_
      refine Dg rfl ?_
      simp -dsimp only [SE,astep,seval,rowq,lp,st4]
      refine Dg rfl ?_
      simp -dsimp only [SE,astep,seval,rowq,ld4,Env.parts,afill,AVal.cells,LZ,ha]
      refine Dg rfl ?_
      simp -dsimp only [SE,astep,seval,rowq,sr]
      refine Dm rfl ?_
      refine DR.inLoop ?_
      refine ih p.2 (acc++[tokC tk ts tn tf (i:Nat)]) x' H6 (by omega) hp2 (by simp; omega) ?_ r6 ?_ ?_ ?_ ?_
      ·rw [f6 b hbr,f5 b hbB,f4 b (by omega),f3 b (by omega),f2 b (by omega),f1 b (by omega) hbr]; exact hb
      ·exact hO5.frame (by omega) fun j h1 h2=>f6 j (by omega)
      ·intro j h1 h2; rw [f6 j h2,f5 j h1,f4 j (by omega),f3 j (by omega),f2 j (by omega),f1 j (by omega) h2,hf j h1 h2]
      ·intro y Hy l h; exact hend y Hy l (by rw [toks_more hct hpl]; exact h)
      ·intro e Hy h; exact hbad e Hy (by rw [toks_more hct hpl]; exact h)
  ·have hc:decide ((i:Int) < (s.size:Int))=false:=by simp; omega
   have hpe:pass s i=i:=pass_end (byte_none (by omega))
   refine Dg rfl ?_
   simp -dsimp only [SE,astep,seval,rowq,l1,hl,hc,abin]
   refine Dn rfl rfl ?_
   refine DR.exit (k':=k') (by simpa [aexitTo] using hk) ?_
   exact DR.only [0,3,5] (hend x H acc (by rw [hpe]; exact toks_end (byte_none (by omega))) (by omega) hb hO hf)
end
theorem g10 {H:AHeap} {s:ByteArray} (hsz:s.size < 1000000):DCall Tryd.prog 10 [.str s] H fun a H'=>TokOut H H' a (tokens s):=by
 refine DCall.of_body (fn:=Tryd.f10) (by kernel_rfl) c10 (by kernel_rfl) (by simp [f10]) ?_
 unfold f10
 simp only []
 have hl:∀ H,alenT H 0 (.str s)=some s.size:=fun _=>rfl
 obtain ⟨H1,hH1,g1,n1,f1⟩:=psh H (.cells 26 [.int .i64 0,.int .i64 0])
 refine Dg rfl ?_
 simp -dsimp only [SE,astep,seval,rowq,← hH1]
 refine Dm rfl ?_
 refine Dg rfl ?_
 simp -dsimp only [SE,astep,seval,rowq,hl,abin]
 unfold tokens
 cases hbig:decide ((s.size:Int) > 65536) with
 | true=>
  rw [if_pos rfl]
  have st:=store_all (n:=2) g1 (new:=[.int .i64 3,.int .i64 0]) rfl rfl rfl
  have ld:=load_all (n:=2) (H:=H1.set H.next (.cells 26 [.int .i64 3,.int .i64 0])) (by rw [AHeap.get_set,if_pos rfl,if_pos (AHeap.get_lt g1)]) rfl
  refine Dy rfl rfl ?_
  refine Dg rfl ?_
  simp -dsimp only [SE,astep,seval,rowq,Env.parts,afill,AVal.cells,LZ,st]
  refine Dm rfl ?_
  refine DR.ret ⟨.tup [.nils,.agg [.int .i64 3,.int .i64 0]],by simp [aresult,ares,Env.get,ld],rfl,?_,fun j hj=> ?_⟩
  ·show H.next≤H1.next; omega
  ·rw [AHeap.get_set,if_neg (by omega),f1 j hj]
 | false=>
  rw [if_neg (by simp)]
  obtain ⟨H2,hH2,g2,n2,f2⟩:=psh H1 (.cells 50 [.str s,.int .i64 0,.int .i64 0])
  have gb:=(f2 H.next (by omega)).trans g1
  refine Dn rfl rfl ?_
  refine Dg rfl ?_
  simp -dsimp only [SE,astep,seval,rowq,Env.parts,afill,AVal.cells,LZ,List.drop_succ_cons,List.drop_zero,← hH2]
  refine Dg rfl ?_
  simp -dsimp only [SE,astep,seval,rowq]
  refine Dm rfl ?_
  refine DR.loop ?_
  refine loop10 (H0:=H2) (B:=H2.next) (b:=H.next) (r:=H1.next) hsz (by omega) (by omega) (by omega) rfl s.size 0 [] .nils H2 (by omega) (by omega) (by simp) gb g2 (OutT.new (Nat.le_refl _)) (fun _ _ _=>rfl) ?_ ?_
  ·intro x H3 l ht hll g3 hO f3
   rw [ht]
   obtain ⟨y,H4,ha,hO4,f4⟩:=hO.push (endTok s) ⟨rfl,rfl⟩ (by omega)
   have g4:=(f4 H.next (by omega)).trans g3
   have st:=store_all (n:=2) g4 (new:=[.int .i64 0,.int .i64 0]) rfl rfl rfl
   have ld:=load_all (n:=2) (H:=H4.set H.next (.cells 26 [.int .i64 0,.int .i64 0])) (by rw [AHeap.get_set,if_pos rfl,if_pos (AHeap.get_lt g4)]) rfl
   have hnx:=hO4.nx
   unfold endTok tokC at ha
   refine Dg rfl ?_
   simp -dsimp only [SE,astep,seval,rowq,hl,Env.parts,afill,AVal.cells,LZ,ha,st]
   refine Dm rfl ?_
   refine DR.ret ⟨.tup [y,.agg [.int .i64 0,.int .i64 0]],by simp [aresult,ares,Env.get,ld],⟨y,rfl,?_⟩,?_,fun j hj=> ?_⟩
   ·have hO5:OutT H2.next (H4.set H.next (.cells 26 [.int .i64 0,.int .i64 0])) y (l++[endTok s]):=hO4.frame (Nat.le_refl _) fun j h1 _=>by rw [AHeap.get_set,if_neg (by omega)]
    exact ⟨hO5.gr,fun j hj=>by have:=hO5.own j hj; omega,by have:=hO5.nx; omega⟩
   ·show H.next≤H4.next; omega
   ·rw [AHeap.get_set,if_neg (by omega),f4 j (by omega),f3 j (by omega) (by omega),f2 j (by omega),f1 j hj]
  ·intro e H3 ht ld hn f3
   rw [ht]
   exact ⟨.tup [.nils,.agg [.int .i64 e.1,.int .i64 e.2]],by simp [aresult,ares,Env.get,ld],rfl,by omega,fun j hj=>by rw [f3 j (by omega) (by omega) (by omega),f2 j (by omega),f1 j hj]⟩
end Go.Am.Rl
namespace Go.Am.Rl
open Go.Proofs
def IsTok (c:List AVal):Prop:=∃ k s n f i,c=tokC k s n f i
def RowT (H:AHeap) (x:AVal) (l:List (List AVal)):Prop:=
 (x = .nils∧l=[])∨∃ id c r,x = .sl id 0 l.length c∧H.get id=some (.cells 35 (l.flatten++r))
theorem OutT.row {B:Nat} {H:AHeap} {x:AVal} {l:List (List AVal)} (h:OutT B H x l) (hl:∀ c ∈ l,IsTok c):RowT H x l:=by
 obtain ⟨h1,⟨rfl,h2⟩ | ⟨id,rfl,h2⟩⟩:=h.gr
 ·exact .inl ⟨rfl,List.eq_nil_of_length_eq_zero h2⟩
 ·exact .inr ⟨id,none,[],rfl,by rw [List.append_nil]; exact h2⟩
theorem RowT.frame {H H':AHeap} {x:AVal} {l:List (List AVal)} (h:RowT H x l) (hf:∀ j,rid x=some j→H'.get j=H.get j):RowT H' x l:=by
 rcases h with h | ⟨id,c,r,rfl,h⟩
 ·exact .inl h
 ·exact .inr ⟨id,c,r,rfl,(hf id rfl).trans h⟩
theorem RowT.lt {H:AHeap} {x:AVal} {l:List (List AVal)} (h:RowT H x l) {j:Nat} (hj:rid x=some j):j < H.next:=by
 rcases h with ⟨rfl,_⟩ | ⟨id,c,r,rfl,h⟩
 ·cases hj
 ·simp only [rid,Option.some.injEq] at hj; subst hj; exact AHeap.get_lt h
theorem RowT.len {H:AHeap} {x:AVal} {l:List (List AVal)} (h:RowT H x l) (H':AHeap):alenT H' 1 x=some l.length:=by
 rcases h with ⟨rfl,rfl⟩ | ⟨id,c,r,rfl,h⟩ <;> rfl
theorem drop_flat {l:List (List AVal)} (hl:∀ c ∈ l,c.length=5):∀ i,l.flatten.drop (i * 5)=(l.drop i).flatten:=by
 induction l with
 | nil=>intro i; simp
 | cons c l ih=>
  intro i
  cases i with
  | zero=>simp
  | succ i=>
   have hc:=hl c (List.mem_cons_self ..)
   rw [List.flatten_cons,List.drop_succ_cons,← ih (fun c h=>hl c (List.mem_cons_of_mem _ h)) i,Nat.succ_mul,List.drop_append,hc]
   have e1:List.drop (i * 5+5) c=[]:=List.drop_eq_nil_of_le (by omega)
   rw [e1,List.nil_append,Nat.add_sub_cancel]
theorem RowT.at {H:AHeap} {x:AVal} {l:List (List AVal)} (h:RowT H x l) (hl:∀ c ∈ l,IsTok c) {i:Nat} {c:List AVal} (hi:l[i]? = some c) (H':AHeap) :
  ∃ id,aiaddr H' 5 x (.int .i64 (i:Nat))=some (.ptr id (i * 5))∧rid x=some id∧∃ t,H.get id=some (.cells 35 t)∧i * 5+5≤t.length∧t.drop (i * 5)=c++t.drop (i * 5+5)∧c.length=5:=by
 have hlt:i < l.length:=(List.getElem?_eq_some_iff.mp hi).1
 have h5:∀ c ∈ l,c.length=5:=fun c hc=>by obtain ⟨_,_,_,_,_,rfl⟩:=hl c hc; rfl
 rcases h with ⟨rfl,rfl⟩ | ⟨id,cp,r,rfl,h⟩
 ·simp at hlt
 ·have hc5:=h5 c (List.mem_of_getElem? hi)
  have hfl:l.flatten.length=l.length * 5:=by
   clear hi hlt h hl
   induction l with
   | nil=>rfl
   | cons a l ih=>rw [List.flatten_cons,List.length_append,ih (fun c h=>h5 c (List.mem_cons_of_mem _ h)),h5 a (List.mem_cons_self ..),List.length_cons]; omega
  have hd:l.drop i=c::l.drop (i+1):=by
   rw [List.drop_eq_getElem_cons hlt]
   rw [List.getElem?_eq_getElem hlt] at hi; injection hi with hi; rw [hi]
  have e1:(l.flatten++r).drop (i * 5)=c++((l.drop (i+1)).flatten++r):=by
   rw [List.drop_append_of_le_length (by omega),drop_flat h5,hd,List.flatten_cons,List.append_assoc]
  refine ⟨id,?_,rfl,_,h,?_,?_,hc5⟩
  ·simp only [aiaddr]
   rw [if_pos (by omega)]; simp
  ·rw [List.length_append]; omega
  ·rw [← List.drop_drop,e1]
   congr 1
   rw [List.drop_append,hc5,(List.drop_eq_nil_of_le (by omega):List.drop 5 c=[])]; simp
theorem load_at {H:AHeap} {id o:Nat} {t c:List AVal} (h:H.get id=some (.cells 35 t)) (hle:o+5≤t.length) (hd:t.drop o=c++t.drop (o+5)) (hc:c.length=5):aload H (some 5) (.ptr id o)=some (.agg c):=by
 have hl:(t.drop o).length=t.length - o:=List.length_drop
 simp only [aload,cellsAt,h]
 rw [if_pos (by omega)]
 obtain ⟨a,z,hz⟩:∃ a z,t.drop o=a::z:=by
  cases hz:t.drop o with
  | nil=>rw [hz] at hl; simp at hl; omega
  | cons a z=>exact ⟨a,z,rfl⟩
 have hlen:5≤(a::z).length:=by rw [← hz]; omega
 rw [hz]
 show (if 5≤(a::z).length then some (AVal.agg (List.take 5 (a::z))) else none)=_
 rw [if_pos hlen,← hz,hd,List.take_append_of_le_length (by omega),List.take_of_length_le (by omega)]
end Go.Am.Rl
namespace Go.Am.Rl
open Go.Proofs
theorem known0:aclosed tab Orc.none 1000000 100 sz1 9 []=some (.bool true):=by kernel_rfl
theorem g9 (H:AHeap):DCall Tryd.prog 9 [] H fun a H'=>a = .bool true∧H'=H:=(aclosed_sound mixed tab_ok (Orc.none_ok _) known0 H).dcall
end Go.Am.Rl
namespace Go.Am.Rl
open Go.Proofs
theorem toks_all {s:ByteArray}:∀ (d i:Nat) (acc l:List (List AVal)),s.size - i≤d→i≤s.size→acc.length≤i→(∀ c ∈ acc,IsTok c)→toks s i acc = .inr l→(∀ c ∈ l,IsTok c)∧l.length≤s.size:=by
 intro d
 induction d with
 | zero=>
  intro i acc l hi his ha hacc ht
  rw [toks_end (byte_none (by omega))] at ht
  injection ht with ht; subst ht
  exact ⟨hacc,by omega⟩
 | succ d ih=>
  intro i acc l hi his ha hacc ht
  cases hc:s[i]? with
  | none=>
   rw [toks_end hc] at ht
   injection ht with ht; subst ht
   exact ⟨hacc,by omega⟩
  | some c=>
   have hm:=token_made hc (i:Nat)
   cases hk:token s i c.toNat (i:Nat) with
   | inl e=>rw [toks_bad hc hk] at ht; cases ht
   | inr p=>
    rw [hk] at hm
    obtain ⟨htok,h1,h2⟩:=hm p rfl
    have hp:=pass_le (s:=s) h2
    rw [toks_more hc hk] at ht
    refine ih (pass s p.2) (acc++[p.1]) l (by omega) hp.2 (by simp; omega) ?_ ht
    intro c hc
    rcases List.mem_append.mp hc with hc | hc
    ·exact hacc c hc
    ·rw [List.mem_singleton.mp hc]
     obtain ⟨k,s',m,f,h⟩:=htok
     exact ⟨k,s',m,f,_,h⟩
theorem tokens_all {s:ByteArray} {l:List (List AVal)} (h:tokens s = .inr l):(∀ c ∈ l,IsTok c)∧l.length≤s.size+1:=by
 unfold tokens at h
 split at h
 ·cases h
 ·cases ht:toks s (pass s 0) [] with
  | inl e=>rw [ht] at h; cases h
  | inr l'=>
   rw [ht] at h
   injection h with h; subst h
   have hp:=pass_le (s:=s) (i:=0) (by omega)
   obtain ⟨h1,h2⟩:=toks_all _ _ _ _ (Nat.le_refl _) hp.2 (by simp) (by simp) ht
   refine ⟨fun c hc=> ?_,by simp; omega⟩
   rcases List.mem_append.mp hc with hc | hc
   ·exact h1 c hc
   ·rw [List.mem_singleton.mp hc]; exact ⟨_,_,_,_,_,rfl⟩
def resErr:Res→Int × Int
 | .inl e=>e
 | .inr _=>(0,0)
def resRow:Res→List (List AVal)
 | .inl _=>[]
 | .inr l=>l
theorem res_all (s:ByteArray):(∀ c ∈ resRow (tokens s),IsTok c)∧(resRow (tokens s)).length≤s.size+1:=by
 cases h:tokens s with
 | inl e=>exact ⟨fun c hc=>(by cases hc),by simp [resRow]⟩
 | inr l=>exact tokens_all h
theorem TokOut.row {H H':AHeap} {a:AVal} {s:ByteArray} (h:TokOut H H' a (tokens s)) :
  ∃ x,a = .tup [x,.agg [.int .i64 (resErr (tokens s)).1,.int .i64 (resErr (tokens s)).2]]∧RowT H' x (resRow (tokens s))∧(∀ j,rid x=some j→H.next≤j)∧H.next≤H'.next∧∀ j,j < H.next→H'.get j=H.get j:=by
 have hall:=res_all s
 obtain ⟨h,hn,hf⟩:=h
 cases ht:tokens s with
 | inl e=>
  rw [ht] at h
  exact ⟨.nils,h,.inl ⟨rfl,rfl⟩,fun j hj=>(by cases hj),hn,hf⟩
 | inr l=>
  rw [ht] at h hall
  obtain ⟨x,h,hO⟩:=h
  exact ⟨x,h,hO.row hall.1,hO.own,hn,hf⟩
end Go.Am.Rl
namespace Go.Am.Rl
open Go.Proofs
def bytesI (s:ByteArray):List Int:=s.data.toList.map fun b=>(b.toNat:Int)
theorem bytesI_cells (s:ByteArray) (H:AHeap):sliceCells H 1 (.str s)=some (u8s (bytesI s)):=by
 simp only [sliceCells,u8s,bytesI,List.map_map]; rfl
theorem bytesI_len (s:ByteArray):(bytesI s).length=s.size:=by
 unfold bytesI; rw [List.length_map,Array.length_toList]; rfl
theorem strOf_size (l:List Int):(strOf l).size=l.length:=by
 unfold strOf
 show (l.map fun n=>UInt8.ofNat n.toNat).toArray.size=_
 simp
section
variable {s:ByteArray} {n:Nat} {k k':List AItem} {Q:Env→AHeap→Prop}
end
end Go.Am.Rl
