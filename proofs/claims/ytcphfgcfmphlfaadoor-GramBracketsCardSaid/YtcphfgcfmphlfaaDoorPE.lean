/- Parts: PS3, FnK, P31. -/
import Derived.Test.YtcphfgcfmphlfaaDoorPD
import Derived.Test.YtcphfgcfmphlfaaDoorFB
import Derived.Test.YtcphfgcfmphlfaaDoorProg
set_option linter.unusedVariables false
set_option linter.unusedSimpArgs false
set_option maxRecDepth 20000
namespace Go.Am.Rl
open Go.Proofs
def t1:ByteArray:=⟨#[45,109,111,100,117,108,101,40,109,41,46,32,102,40,88,41,32,119,104,101,110,32,88,32,62,32,48,32,45,62,32,88,32,45,32,49,46]⟩
def t2:ByteArray:=⟨#[45,109,111,100,117,108,101,40,109,41,46,32,102,40,41,32,45,62,32,49,32,43,46]⟩
def isR:Res→Bool
 | .inl _=>false
 | .inr _=>true
theorem t1_toks:isR (tokens t1)=true:=by kernel_rfl
theorem t2_toks:isR (tokens t2)=true:=by kernel_rfl
def sum1:Option Out1→Option (Nat × Nat × Int × List UInt8 × Int × List UInt8)
 | some (.ok (.n i) st)=>some (i,st.nodes.length,(st.nodes.getD 3 (node 0 [] 0)).k,(st.nodes.getD 3 (node 0 [] 0)).s.toList,(st.nodes.getD 12 (node 0 [] 0)).k,(st.nodes.getD 12 (node 0 [] 0)).s.toList)
 | _=>none
theorem t1_run:sum1 (run (lexT t1) 100 (rule (lexT t1) .module ⟨0,0,[]⟩))=some (12,13,9,[62],24,[109]):=by kernel_rfl
def sum2:Option Out1→Option (Int × Int)
 | some (.err e p)=>some (e,p)
 | _=>none
theorem t2_run:sum2 (run (lexT t2) 100 (rule (lexT t2) .module ⟨0,0,[]⟩))=some (24,22):=by kernel_rfl
end Go.Am.Rl
namespace Go.Am.Rl
open Go.Proofs
abbrev r8_0:List AOper:=[
 oo 0 (.mv (.c (.bool false))) []]
abbrev r8_1:List AOper:=[
 oo 6 (.callF 10 [(.c (.str ⟨#[45,109,111,100,117,108,101,40,109,41,46,32,102,40,88,41,32,119,104,101,110,32,88,32,62,32,48,32,45,62,32,88,32,45,32,49,46]⟩))]) [],
 zm 5 6 [0],
 zx 7 5 0 [1],
 zx 8 5 1 [1],
 oo 1 (.alloc 34 (.agg [.nils,.int .i64 0])) [],
 oo 2 (.alloc 26 (.agg [.int .i64 0,.int .i64 0])) [],
 zs 2 1 7 [4,2,0,0,1,2,4,5],
 zs 2 2 8 [5,3,6,0,1,2,3,4,5,6]]
abbrev r8_2:List AOper:=[
 oo 10 (.callF 10 [(.c (.str ⟨#[45,109,111,100,117,108,101,40,109,41,46,32,102,40,41,32,45,62,32,49,32,43,46]⟩))]) [],
 zm 9 10 [0],
 zx 11 9 0 [1],
 zx 12 9 1 [1],
 oo 3 (.alloc 34 (.agg [.nils,.int .i64 0])) [],
 oo 4 (.alloc 26 (.agg [.int .i64 0,.int .i64 0])) [],
 zs 2 3 11 [4,2,0,0,1,2,4,5],
 zs 2 4 12 [5,3,6,0,1,2,3,4,5,6]]
abbrev r8_3:List AOper:=[
 zr 13 2 2 [],
 oo 14 (.build [.int .i64 0,.int .i64 0] []) [],
 oo 15 (.eqAgg [1,1] false (.t 13) (.t 14)) [0,1],
 zm 16 15 [2],
 yf 17 0 1 16 true [3],
 yl 18 17 16 true [4,3],
 og 19 (.len 1 (.t 18)) 16 true [5,3],
 og 20 (.bin .eql (.t 19) (.c (.int .i64 13))) 16 true [6,3],
 zp 21 16 20 [3,7],
 zm 22 21 [8,3],
 yf 23 1 1 22 true [9],
 yl 24 23 22 true [10,9],
 og 25 (.bin .eql (.t 24) (.c (.int .i64 12))) 22 true [11,9],
 zp 26 22 25 [9,12],
 zm 27 26 [13,9],
 yf 28 0 1 27 true [14],
 yl 29 28 27 true [15,14],
 og 30 (.iaddr 6 (.t 29) (.c (.int .i64 3))) 27 true [16,14],
 yf 31 0 30 27 true [17,14],
 yl 32 31 27 true [18,14],
 og 33 (.bin .eql (.t 32) (.c (.int .i64 9))) 27 true [19,14],
 zp 34 27 33 [14,20],
 zm 35 34 [21,14],
 yf 36 0 1 35 true [22],
 yl 37 36 35 true [23,22],
 og 38 (.iaddr 6 (.t 37) (.c (.int .i64 3))) 35 true [24,22],
 yf 39 1 38 35 true [25,22],
 yl 40 39 35 true [26,22],
 og 41 (.bin .eql (.t 40) (.c (.str ⟨#[62]⟩))) 35 true [27,22],
 zp 42 35 41 [22,28],
 zm 43 42 [29,22],
 yf 44 0 1 43 true [30],
 yl 45 44 43 true [31,30],
 og 46 (.iaddr 6 (.t 45) (.c (.int .i64 12))) 43 true [32,30],
 yf 47 0 46 43 true [33,30],
 yl 48 47 43 true [34,30],
 og 49 (.bin .eql (.t 48) (.c (.int .i64 24))) 43 true [35,30],
 zp 50 43 49 [30,36],
 zm 51 50 [37,30],
 yf 52 0 1 51 true [38],
 yl 53 52 51 true [39,38],
 og 54 (.iaddr 6 (.t 53) (.c (.int .i64 12))) 51 true [40,38],
 yf 55 1 54 51 true [41,38],
 yl 56 55 51 true [42,38],
 og 57 (.bin .eql (.t 56) (.c (.str ⟨#[109]⟩))) 51 true [43,38],
 zp 58 51 57 [38,44],
 zm 59 58 [45,38],
 og 60 (.load (some 2) (.t 4)) 59 true [46],
 og 61 (.build [.int .i64 0,.int .i64 0] [(0,1,(.c (.int .i64 24))),(1,1,(.c (.int .i64 22)))]) 59 true [46],
 og 62 (.eqAgg [1,1] false (.t 60) (.t 61)) 59 true [47,48,46],
 zp 63 59 62 [46,49],
 zm 0 63 [50,46,0,1,2,3,4,5,6,7,8,9,10,11,12,13,14,15,16,17,18,19,20,21,22,23,24,25,26,27,28,29,30,31,32,33,34,35,36,37,38,39,40,41,42,43,44,45,46,47,48,49,50]]
def k8:List (List Nat):=[[],[1,2],[1,2,4],[0]]
def f8:AFunc:={ ntmps:=64,results:=[.tmp 0],body:=(
 .seq (
 .g r8_0 []) (
 .seq (
 .g r8_1 [1,2]) (
 .seq (
 .g r8_2 [1,2,4]) (
 .seq (
 .g r8_3 [0]) (
 .ret))))) }
theorem c8:cfunc Tryd.prog (kof k8) Tryd.f8=some f8:=by kernel_rfl
end Go.Am.Rl
namespace Go.Am.Rl
open Go.Proofs
theorem TreeR.node {H:AHeap} {x:AVal} {nodes:List ND} (h:TreeR H x nodes) {i:Nat} {m:ND} (hm:nodes[i]? = some m):∃ id o w,(∀ H',aiaddr H' 6 x (.int .i64 (i:Nat))=some (.ptr id o))∧RowI H w m.l∧(∀ {H'},Gro H H'→aload H' (some 6) (.ptr id o)=some (.agg (ndC w m))∧aload H' none (.ptr id o)=some (.int .i64 m.k)∧aload H' none (.ptr id (o+0))=some (.int .i64 m.k)∧aload H' none (.ptr id (o+1))=some (.str m.s)∧aload H' none (.ptr id (o+2))=some (.int .i64 m.n)∧aload H' none (.ptr id (o+4))=some w∧aload H' none (.ptr id (o+5))=some (.int .i64 m.p)):=by
 obtain ⟨vs,hvs,hgr,hrow⟩:=h
 have hi:i < nodes.length:=(List.getElem?_eq_some_iff.mp hm).1
 obtain ⟨w,hw⟩:∃ w,vs[i]? = some w:=⟨_,List.getElem?_eq_getElem (by omega)⟩
 obtain ⟨hlen,⟨rfl,h0⟩ | ⟨id,rfl,hbk⟩⟩:=hgr
 ·omega
 ·have hk:∀ c ∈ List.zipWith ndC vs nodes,c.length=6:=by
   intro c hc
   obtain ⟨j,hj,rfl⟩:=List.mem_iff_getElem.mp hc
   rw [List.getElem_zipWith]; rfl
  have hz:(List.zipWith ndC vs nodes)[i]? = some (ndC w m):=by rw [List.getElem?_zipWith,hw,hm]
  have hzl:i < (List.zipWith ndC vs nodes).length:=(List.getElem?_eq_some_iff.mp hz).1
  have hd:(List.zipWith ndC vs nodes).drop i=ndC w m::(List.zipWith ndC vs nodes).drop (i+1):=by
   rw [List.drop_eq_getElem_cons hzl]
   rw [List.getElem?_eq_getElem hzl] at hz; injection hz with hz; rw [hz]
  have hdf:(List.zipWith ndC vs nodes).flatten.drop (i * 6)=ndC w m++((List.zipWith ndC vs nodes).drop (i+1)).flatten:=by
   rw [drop_flatn _ hk,hd,List.flatten_cons]
  have hat:∀ j,j < 6→(List.zipWith ndC vs nodes).flatten[i * 6+j]? = (ndC w m)[j]? :=by
   intro j hj
   rw [← List.getElem?_drop,hdf,List.getElem?_append_left hj]
  have h0:=hat 0 (by omega)
  rw [Nat.add_zero] at h0
  refine ⟨id,i * 6,w,fun H'=> ?_,hrow i m w hm hw,fun {H'} g=>⟨load_atn (r:=((List.zipWith ndC vs nodes).drop (i+1)).flatten) (by omega) (g.get hbk) hdf (by rfl),load_cell (g.get hbk) (by rw [h0]; rfl),load_cell (g.get hbk) (by rw [hat 0 (by omega)]; rfl),load_cell (g.get hbk) (by rw [hat 1 (by omega)]; rfl),load_cell (g.get hbk) (by rw [hat 2 (by omega)]; rfl),load_cell (g.get hbk) (by rw [hat 4 (by omega)]; rfl),load_cell (g.get hbk) (by rw [hat 5 (by omega)]; rfl)⟩⟩
  simp only [aiaddr]
  rw [if_pos (by omega)]; simp
theorem TreeR.len {H:AHeap} {x:AVal} {nodes:List ND} (h:TreeR H x nodes) (H':AHeap):alenT H' 1 x=some nodes.length:=by
 obtain ⟨vs,hvs,hgr,hrow⟩:=h
 exact hgr.alenT
theorem TreeR.one {H:AHeap} {x:AVal} {nodes:List ND} (h:TreeR H x nodes):x.cells=[x]∧∀ i:Nat,ones [x,.int .i64 (i:Nat)]=true:=by
 obtain ⟨vs,hvs,⟨_,⟨rfl,_⟩ | ⟨id,rfl,_⟩⟩,hrow⟩:=h
 ·exact ⟨rfl,fun _=>rfl⟩
 ·exact ⟨rfl,fun _=>rfl⟩
theorem pair34 {H1:AHeap} {x:AVal} {i:Nat} {e p:Int} (h1:ones [x,.int .i64 (i:Nat)]=true):∃ H2 H3 H4 H5,H1.push (.cells 34 [.nils,.int .i64 0])=H2∧H2.push (.cells 26 [.int .i64 0,.int .i64 0])=H3∧astore H3 2 (.ptr H1.next 0) (.agg [x,.int .i64 (i:Nat)])=some H4∧astore H4 2 (.ptr H2.next 0) (.agg [.int .i64 e,.int .i64 p])=some H5∧Gro H1 H5∧H5.get H1.next=some (.cells 34 [x,.int .i64 (i:Nat)])∧H5.get H2.next=some (.cells 26 [.int .i64 e,.int .i64 p])∧H2.next=H1.next+1:=by
 obtain ⟨H2,hH2,g2,n2,f2⟩:=psh H1 (.cells 34 [.nils,.int .i64 0])
 obtain ⟨H3,hH3,g3,n3,f3⟩:=psh H2 (.cells 26 [.int .i64 0,.int .i64 0])
 have g32:H3.get H1.next=some (.cells 34 [.nils,.int .i64 0]):=(f3 _ (by omega)).trans g2
 have s4:=store_all (n:=2) g32 (new:=[x,.int .i64 (i:Nat)]) rfl h1 rfl
 obtain ⟨H4,hH4,g4,n4,f4⟩:=upd g32 (.cells 34 [x,.int .i64 (i:Nat)])
 have g43:H4.get H2.next=some (.cells 26 [.int .i64 0,.int .i64 0]):=(f4 _ (by omega)).trans g3
 have s5:=store_all (n:=2) g43 (new:=[.int .i64 e,.int .i64 p]) rfl rfl rfl
 obtain ⟨H5,hH5,g5,n5,f5⟩:=upd g43 (.cells 26 [.int .i64 e,.int .i64 p])
 exact ⟨H2,H3,H4,H5,hH2.symm,hH3.symm,by rw [s4,hH4],by rw [s5,hH5],⟨by omega,fun j hj=>by rw [f5 j (by omega),f4 j (by omega),f3 j (by omega),f2 j hj]⟩,(f5 _ (by omega)).trans g4,g5,n2⟩
theorem Parses.tree {s:ByteArray} {r:Parsed} (h:Parses s r) {l:List (List AVal)} (hl:tokens s = .inr l) {i:Nat} {st:PS} (he:Ev (lexT s) (rule (lexT s) .module ⟨0,0,[]⟩) (.ok (.n i) st)):r = .tree st.nodes i:=by
 rcases h with ⟨e,h,_⟩ | ⟨_,⟨e,p,h,_⟩ | ⟨j,st',h,rfl,_⟩⟩
 ·rw [h] at hl; cases hl
 ·cases h.det he
 ·have:=h.det he
  injection this with h1 h2
  injection h1 with h1
  subst h1; subst h2; rfl
theorem Parses.flaw {s:ByteArray} {r:Parsed} (h:Parses s r) {l:List (List AVal)} (hl:tokens s = .inr l) {e p:Int} (he:Ev (lexT s) (rule (lexT s) .module ⟨0,0,[]⟩) (.err e p)):r = .flaw e p:=by
 rcases h with ⟨e,h,_⟩ | ⟨_,⟨e,p,h,rfl⟩ | ⟨j,st',h,rfl,_⟩⟩
 ·rw [h] at hl; cases hl
 ·have:=h.det he
  injection this with h1 h2
  subst h1; subst h2; rfl
 ·cases h.det he
theorem isR_some {r:Res} (h:isR r=true):∃ l,r = .inr l:=by
 cases r with
 | inl e=>cases h
 | inr l=>exact ⟨l,rfl⟩
theorem t1_tree:∃ st:PS,Ev (lexT t1) (rule (lexT t1) .module ⟨0,0,[]⟩) (.ok (.n 12) st)∧st.nodes.length=13∧(st.nodes.getD 3 (node 0 [] 0)).k=9∧(st.nodes.getD 3 (node 0 [] 0)).s.toList=[62]∧(st.nodes.getD 12 (node 0 [] 0)).k=24∧(st.nodes.getD 12 (node 0 [] 0)).s.toList=[109]:=by
 have h:=t1_run
 cases hr:run (lexT t1) 100 (rule (lexT t1) .module ⟨0,0,[]⟩) with
 | none=>rw [hr] at h; cases h
 | some o=>
  rw [hr] at h
  cases o with
  | err e p=>cases h
  | ok v st=>
   cases v with
   | n i=>
    simp only [sum1,Option.some.injEq,Prod.mk.injEq] at h
    obtain ⟨rfl,h1,h2,h3,h4,h5⟩:=h
    exact ⟨st,⟨100,hr⟩,h1,h2,h3,h4,h5⟩
   | l x=>cases h
   | d x=>cases h
   | e k x=>cases h
theorem t2_flaw:Ev (lexT t2) (rule (lexT t2) .module ⟨0,0,[]⟩) (.err 24 22):=by
 have h:=t2_run
 cases hr:run (lexT t2) 100 (rule (lexT t2) .module ⟨0,0,[]⟩) with
 | none=>rw [hr] at h; cases h
 | some o=>
  rw [hr] at h
  cases o with
  | ok v st=>cases h
  | err e p=>
   simp only [sum2,Option.some.injEq,Prod.mk.injEq] at h
   obtain ⟨rfl,rfl⟩:=h
   exact ⟨100,hr⟩
theorem g8 (H:AHeap):DCallX Tryd.prog 8 [] H fun o H'=>o = .ret (.bool true)∧Gro H H':=by
 refine DCallX.of_body (fn:=Tryd.f8) (by kernel_rfl) c8 (by kernel_rfl) (by simp [f8]) ?_
 unfold f8
 simp only []
 obtain ⟨l1,hl1⟩:=isR_some t1_toks
 obtain ⟨l2,hl2⟩:=isR_some t2_toks
 obtain ⟨st,ev1,hlen,k3,s3,k12,s12⟩:=t1_tree
 refine DRX.go rfl ?_
 simp -dsimp only [XZ,SZ,EZ,astep,aun,AVal.cells,reduceIte,Nat.reduceEqDiff,Nat.reduceAdd,Nat.reduceLeDiff]
 refine DRX.go rfl ?_
 simp -dsimp only [XZ,SZ,EZ,astep,aun,AVal.cells,reduceIte,Nat.reduceEqDiff,Nat.reduceAdd,Nat.reduceLeDiff]
 refine (g10 (s:=t1) (by decide)).mono ?_
 rintro o H1 ⟨r,x,hp,rfl,ht,k1⟩
 obtain rfl:=hp.tree hl1 ev1
 obtain ⟨H2,H3,H4,H5,e2,e3,e4,e5,k5,g51,g52,n2⟩:=pair34 (H1:=H1) (x:=x) (i:=12) (e:=0) (p:=0) (ht.one.2 12)
 have ix0:∀ a b:AVal,([a,b]:List AVal)[0]? = some a:=fun _ _=>rfl
 have ix1:∀ a b:AVal,([a,b]:List AVal)[1]? = some b:=fun _ _=>rfl
 simp -dsimp only [XZ,SZ,EZ,astep,aun,AVal.cells,reduceIte,Nat.reduceEqDiff,Nat.reduceAdd,Nat.reduceLeDiff,Parsed.root,Parsed.e,Parsed.p,ix0,ix1,e2,e3,e4,e5]
 refine DRX.go rfl ?_
 simp -dsimp only [XZ,SZ,EZ,astep,aun,AVal.cells,reduceIte,Nat.reduceEqDiff,Nat.reduceAdd,Nat.reduceLeDiff]
 refine (g10 (s:=t2) (by decide)).mono ?_
 rintro o H6 ⟨r,y,hp2,rfl,ht2,k6⟩
 obtain rfl:=hp2.flaw hl2 t2_flaw
 obtain ⟨H7,H8,H9,H10,e7,e8,e9,e10,k10,g101,g102,n7⟩:=pair34 (H1:=H6) (x:=y) (i:=0) (e:=24) (p:=22) (ht2.one.2 0)
 simp -dsimp only [XZ,SZ,EZ,astep,aun,AVal.cells,reduceIte,Nat.reduceEqDiff,Nat.reduceAdd,Nat.reduceLeDiff,Parsed.root,Parsed.e,Parsed.p,ix0,ix1,e7,e8,e9,e10]
 have kk:=(k5.trans k6).trans k10
 have g1:=(k6.trans k10).get g51
 have g2:=(k6.trans k10).get g52
 have la:=load_all (n:=2) g2 rfl
 have l0:=load_cell g1 (o:=0) (v:=x) rfl
 have l1':=load_cell g1 (o:=1) (v:=.int .i64 ((12:Nat):Int)) rfl
 have lb:=load_all (n:=2) g102 rfl
 have hn:∀ i,i < 13→st.nodes[i]? = some (st.nodes.getD i (node 0 [] 0)):=fun i hi=>by
  rw [List.getD_eq_getElem?_getD,List.getElem?_eq_getElem (by omega)]; rfl
 obtain ⟨id3,o3,w3,ix3,_,ld3⟩:=ht.node (hn 3 (by omega))
 obtain ⟨id4,o4,w4,ix4,_,ld4⟩:=ht.node (hn 12 (by omega))
 obtain ⟨_,d30,d30',d31,_⟩:=ld3 kk
 obtain ⟨_,d40,d40',d41,_⟩:=ld4 kk
 rw [k3] at d30 d30'
 rw [k12] at d40 d40'
 have hlen':=fun H'=>ht.len H'
 simp only [Parsed.nodes] at hlen'
 rw [hlen] at hlen'
 have hz:afill [.int .i64 0,.int .i64 0] []=some [.int .i64 0,.int .i64 0]:=rfl
 have hz2:afill [.int .i64 0,.int .i64 0] [(0,1,.int .i64 24),(1,1,.int .i64 22)]=some [.int .i64 24,.int .i64 22]:=rfl
 have c3:((st.nodes.getD 3 (node 0 [] 0)).s.toList==(⟨#[62]⟩:ByteArray).toList)=true:=by rw [s3]; kernel_rfl
 have c12:((st.nodes.getD 12 (node 0 [] 0)).s.toList==(⟨#[109]⟩:ByteArray).toList)=true:=by rw [s12]; kernel_rfl
 have q13:(((13:Nat):Int)==13)=true:=rfl
 have q12:(((12:Nat):Int)==12)=true:=rfl
 have q9:((9:Int)==9)=true:=rfl
 have q24:((24:Int)==24)=true:=rfl
 have i3:∀ H',aiaddr H' 6 x (.int .i64 3)=some (.ptr id3 o3):=ix3
 have i12:∀ H',aiaddr H' 6 x (.int .i64 12)=some (.ptr id4 o4):=ix4
 have n4:H2.next=H1.next+1:=n2
 have hq1:aeqs [1,1] [.int .i64 0,.int .i64 0] [.int .i64 0,.int .i64 0]=some true:=rfl
 have hq2:aeqs [1,1] [.int .i64 24,.int .i64 22] [.int .i64 24,.int .i64 22]=some true:=rfl
 have x1:(false ^^ true)=true:=rfl
 refine DRX.go rfl ?_
 simp -dsimp only [XZ,SZ,EZ,astep,aun,AVal.cells,reduceIte,Nat.reduceEqDiff,Nat.reduceAdd,Nat.reduceLeDiff,la,hq1,hq2,x1,Env.parts,hz,hz2,l0,hlen',abin,q13,l1',q12,i3,d30,q9,d31,c3,i12,d40,q24,d41,c12,lb]
 refine DRX.nm rfl ?_
 exact DRX.retv ⟨_,by simp [aresult,ares,Env.get] <;> rfl,rfl,k1.trans kk⟩
end Go.Am.Rl
