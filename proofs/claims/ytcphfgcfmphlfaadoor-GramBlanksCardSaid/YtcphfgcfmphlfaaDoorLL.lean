/- Parts: Fn3, LB, ZC. -/
import Derived.Test.YtcphfgcfmphlfaaDoorFB
import Derived.Test.YtcphfgcfmphlfaaDoorProg
import Derived.Test.YtcphfgcfmphlfaaDoorPT
import Derived.Test.YtcphfgcfmphlfaaDoorPX
import Derived.Test.YtcphfgcfmphlfaaDoorVE
import Derived.Test.YtcphfgcfmphlfaaDoorAmP
set_option linter.unusedVariables false
set_option maxRecDepth 20000
set_option linter.unusedSimpArgs false
namespace Go.Am.Rl
open Go.Proofs
abbrev r3_0:List AOper:=[
 oo 4 (.mv (.c (.bool false))) []]
abbrev r3_1:List AOper:=[
 oo 14 (.callF 8 []) [],
 oo 15 (.un .not (.t 14)) [0]]
abbrev r3_2:List AOper:=[
 oo 4 (.mv (.c (.bool false))) []]
abbrev r3_3:List AOper:=[
 zm 16 0 [],
 zL 17 0 16 [0],
 oo 18 (.bin .gtr (.t 17) (.c (.int .i64 4000))) [1],
 zm 19 18 [2],
 ym 20 1 19 false [3],
 og 21 (.len 0 (.t 20)) 19 false [4,3],
 og 22 (.bin .gtr (.t 21) (.c (.int .i64 12))) 19 false [5,3],
 zo 23 19 22 [3,6]]
abbrev r3_4:List AOper:=[
 oo 4 (.mv (.c (.bool true))) []]
abbrev r3_5:List AOper:=[
 zm 25 0 [],
 zk 26 9 25 [0],
 zm 24 26 [1],
 zx 27 24 0 [2],
 zx 28 24 1 [2],
 oo 6 (.alloc 26 (.agg [.int .i64 0,.int .i64 0])) [],
 zm 5 27 [3,1,0,1,2,3,5],
 zs 2 6 28 [5,4,6,0,1,2,3,4,5,6]]
abbrev r3_6:List AOper:=[
 zr 29 2 6 [],
 oo 30 (.build [.int .i64 0,.int .i64 0] []) [],
 oo 31 (.eqAgg [1,1] true (.t 29) (.t 30)) [0,1]]
abbrev r3_7:List AOper:=[
 oo 4 (.mv (.c (.bool true))) []]
abbrev r3_8:List AOper:=[
 zm 33 1 [],
 zk 34 9 33 [0],
 zm 32 34 [1],
 zx 35 32 0 [2],
 zx 36 32 1 [2],
 zm 7 35 [3,1,0,1,2,3],
 zs 2 6 36 [4,5,0,1,2,3,4,5]]
abbrev r3_9:List AOper:=[
 zr 37 2 6 [],
 oo 38 (.build [.int .i64 0,.int .i64 0] []) [],
 oo 39 (.eqAgg [1,1] true (.t 37) (.t 38)) [0,1],
 zm 40 39 [2],
 ym 41 7 40 false [3],
 og 42 (.len 1 (.t 41)) 40 false [4,3],
 og 43 (.bin .neq (.t 42) (.c (.int .i64 1))) 40 false [5,3],
 zo 44 40 43 [3,6]]
abbrev r3_10:List AOper:=[
 oo 4 (.mv (.c (.bool true))) []]
abbrev r3_11:List AOper:=[
 oo 8 (.mv (.c (.str ⟨#[]⟩))) []]
abbrev r3_12:List AOper:=[
 zi 9 0 []]
abbrev r3_13:List AOper:=[
 zm 45 9 [],
 za 46 45 1 [0],
 zm 47 5 [],
 zL 48 1 47 [2],
 oo 49 (.bin .lss (.t 46) (.t 48)) [1,3]]
abbrev r3_15:List AOper:=[
 zm 52 8 [],
 zm 53 0 [],
 zm 54 5 [],
 zm 55 9 [],
 zd 56 5 54 55 [2,3],
 zf 57 4 56 [4],
 zl 58 57 [5],
 zm 59 5 [],
 zm 60 9 [],
 za 61 60 1 [8],
 zd 62 5 59 61 [7,9],
 zf 63 4 62 [10],
 zl 64 63 [11],
 oo 65 (.slcS (.t 53) (some (.t 58)) (some (.t 64))) [1,6,12],
 oo 66 (.bin .add (.t 52) (.t 65)) [0,13],
 oo 67 (.bin .add (.t 66) (.c (.str ⟨#[10]⟩))) [14],
 zm 68 1 [],
 oo 69 (.bin .add (.t 67) (.t 68)) [15,16],
 oo 70 (.bin .add (.t 69) (.c (.str ⟨#[10]⟩))) [17],
 zm 8 70 [18,0,1,2,3,4,5,6,7,8,9,10,11,12,13,14,15,16,17,18]]
abbrev r3_14:List AOper:=[
 zm 50 9 [],
 za 51 50 1 [0],
 zm 9 51 [1,0,1]]
def l3_0:ACode:=
 .seq (
 .seq (
 .g r3_13 [0,1,5,6,8,9,49]) (
 .cond (.t 49) (
  .skip) (
  .exit 0))) (
 .seq (
 .block 1 (
  .region true r3_15 [0,1,5,6,8,9])) (
 .g r3_14 [0,1,5,6,8,9]))
abbrev r3_16:List AOper:=[
 zm 72 0 [],
 zk 73 10 72 [0],
 zm 71 73 [1],
 zx 74 71 0 [2],
 zx 75 71 1 [2],
 oo 10 (.alloc 34 (.agg [.nils,.int .i64 0])) [],
 zs 2 10 74 [5,3,1,0,1,2,3,5],
 zs 2 6 75 [4,6,0,1,2,3,4,5,6]]
abbrev r3_17:List AOper:=[
 zm 77 8 [],
 zk 78 10 77 [0],
 zm 76 78 [1],
 zx 79 76 0 [2],
 zx 80 76 1 [2],
 oo 11 (.alloc 34 (.agg [.nils,.int .i64 0])) [],
 oo 12 (.alloc 26 (.agg [.int .i64 0,.int .i64 0])) [],
 zs 2 11 79 [5,3,1,0,1,2,3,5,6],
 zs 2 12 80 [6,4,7,0,1,2,3,4,5,6,7]]
abbrev r3_18:List AOper:=[
 zf 81 0 6 [],
 zl 82 81 [0],
 zf 83 0 12 [],
 zl 84 83 [2],
 oo 85 (.bin .neq (.t 82) (.t 84)) [1,3],
 zm 86 85 [4],
 og 87 (.load (some 2) (.t 10)) 86 false [5],
 og 88 (.load (some 2) (.t 11)) 86 false [5],
 og 89 (.callF 11 [(.t 87),(.t 88),(.c (.bool false))]) 86 false [6,7,5,5],
 og 90 (.un .not (.t 89)) 86 false [8,5],
 zo 91 86 90 [5,9]]
abbrev r3_19:List AOper:=[
 oo 4 (.mv (.c (.bool false))) []]
abbrev r3_20:List AOper:=[
 zm 93 8 [],
 zk 94 9 93 [0],
 zm 92 94 [1],
 zx 95 92 0 [2],
 zx 96 92 1 [2],
 zm 13 95 [3,1,0,1,2,3],
 zs 2 6 96 [4,5,0,1,2,3,4,5]]
abbrev r3_21:List AOper:=[
 zr 97 2 6 [],
 oo 98 (.build [.int .i64 0,.int .i64 0] []) [],
 oo 99 (.eqAgg [1,1] false (.t 97) (.t 98)) [0,1],
 zm 100 99 [2],
 ym 101 5 100 true [3],
 ym 102 13 100 true [3],
 og 103 (.callF 12 [(.t 101),(.t 102),(.c (.bool false))]) 100 true [4,5,3,3],
 zp 104 100 103 [3,6],
 zm 4 104 [7,6,0,1,2,3,4,5,6,7]]
def m3_15:List Nat:=[0,0,0,0,12,28,60,0,0,256,896,1920,3968,8190,16383,32767,0,131071,262143,524287]
theorem d3_15:okDraw r3_15 m3_15=true:=by kernel_rfl
def k3:List (List Nat):=[[0,1],[0,1,15],[4],[0,1,23],[4],[0,1,5,6],[0,1,5,6,31],[4],[0,1,5,6,7],[0,1,5,6,44],[4],[0,1,5,6,8],[0,1,5,6,8,9],[0,1,5,6,8,9,49],[0,1,5,6,8,9],[0,1,5,6,8,9],[5,6,8,10],[5,6,8,10,11,12],[5,6,8,91],[4],[5,6,13],[4]]
def f3:AFunc:={ ntmps:=105,results:=[.tmp 4],body:=(
 .seq (
 .g r3_0 [0,1]) (
 .seq (
 .seq (
 .g r3_1 [0,1,15]) (
 .cond (.t 15) (
  .seq (
  .g r3_2 [4]) (
  .ret)) (
  .skip))) (
 .seq (
 .seq (
 .g r3_3 [0,1,23]) (
 .cond (.t 23) (
  .seq (
  .g r3_4 [4]) (
  .ret)) (
  .skip))) (
 .seq (
 .g r3_5 [0,1,5,6]) (
 .seq (
 .seq (
 .g r3_6 [0,1,5,6,31]) (
 .cond (.t 31) (
  .seq (
  .g r3_7 [4]) (
  .ret)) (
  .skip))) (
 .seq (
 .g r3_8 [0,1,5,6,7]) (
 .seq (
 .seq (
 .g r3_9 [0,1,5,6,44]) (
 .cond (.t 44) (
  .seq (
  .g r3_10 [4]) (
  .ret)) (
  .skip))) (
 .seq (
 .g r3_11 [0,1,5,6,8]) (
 .seq (
 .seq (
 .g r3_12 [0,1,5,6,8,9]) (
 .block 0 (
  .loop l3_0))) (
 .seq (
 .g r3_16 [5,6,8,10]) (
 .seq (
 .g r3_17 [5,6,8,10,11,12]) (
 .seq (
 .seq (
 .g r3_18 [5,6,8,91]) (
 .cond (.t 91) (
  .seq (
  .g r3_19 [4]) (
  .ret)) (
  .skip))) (
 .seq (
 .g r3_20 [5,6,13]) (
 .seq (
 .g r3_21 [4]) (
 .ret))))))))))))))) }
theorem c3:cfunc Tryd.prog (kof k3) Tryd.f3=some f3:=by kernel_rfl
end Go.Am.Rl
namespace Go.Am.Rl
open Go.Proofs
theorem sameL_er {s t:ByteArray} {l m:List (List AVal)} (hl:tokens s = .inr l) (hm:tokens t = .inr m) (h:SameL false m l):(lexT s).map TK.er=(lexT t).map TK.er:=by
 have e1:lexT s=l.map tkOf:=by unfold lexT; rw [hl]; rfl
 have e2:lexT t=m.map tkOf:=by unfold lexT; rw [hm]; rfl
 rw [e1,e2]
 apply List.ext_getElem?
 intro q
 rw [List.getElem?_map,List.getElem?_map,List.getElem?_map,List.getElem?_map]
 cases hq:m[q]? with
 | none=>
  have:l[q]? = none:=List.getElem?_eq_none (by have:=List.getElem?_eq_none_iff.mp hq; have:=h.1; omega)
  rw [this]
 | some c=>
  obtain ⟨k,w,n,f,i,i',rfl,h2,_⟩:=h.2 q c hq
  rw [h2]; rfl
theorem SameP.all {r r':Parsed} (h:SameP r r'):r.e=r'.e∧r.root=r'.root∧r.nodes.map ND.er=r'.nodes.map ND.er:=by
 cases r <;> cases r' <;> first | exact h.elim | exact ⟨rfl,h.2,h.1⟩ | exact ⟨h,rfl,rfl⟩
theorem field5 {H:AHeap} {id i:Nat} {t c:List AVal} (h:H.get id=some (.cells 31 t)) (hd:t.drop (i * 5)=c++t.drop (i * 5+5)) (hc:c.length=5) {v:AVal} (hv:c[4]? = some v):aload H none (.ptr id (i * 5+4))=some v:=by
 refine load_cell h ?_
 rw [← List.getElem?_drop,hd,List.getElem?_append_left (by omega)]
 exact hv
theorem TreeR.keep {H H':AHeap} {x:AVal} {nodes:List ND} (h:TreeR H x nodes) (hk:∀ id t cs,t=42∨t=3→H.get id=some (.cells t cs)→H'.get id=some (.cells t cs)):TreeR H' x nodes:=by
 obtain ⟨vs,h1,⟨h2,h3⟩,h4⟩:=h
 refine ⟨vs,h1,⟨h2,?_⟩,fun i n v hn hv=> ?_⟩
 ·rcases h3 with h3 | ⟨id,rfl,h3⟩
  ·exact .inl h3
  ·exact .inr ⟨id,rfl,hk _ _ _ (.inl rfl) h3⟩
 ·rcases h4 i n v hn hv with h5 | ⟨id,c,rfl,h5⟩
  ·exact .inl h5
  ·exact .inr ⟨id,c,rfl,hk _ _ _ (.inr rfl) h5⟩
section
variable {s b:ByteArray} {l:List (List AVal)} {x:AVal} {b6:Nat} {H:AHeap} {k k':List AItem} {Q:AEnd→List ADef→Env→AHeap→Prop} {tot:ByteArray}
theorem loop3 (hk:aexitTo 0 k=some k') (hs:s.size≤4000) (hll:l.length≤5000) (htot:tot.size≤65536) (hx:RowT H x l) (hall:∀ c ∈ l,IsTok c)
  (hend:DRX Tryd.prog (kof k3) 105 k' [] [(0,.str s),(1,.str b),(5,x),(6,.ptr b6 0),(8,.str tot)] H Q) {i0:Nat} {r:List (List AVal)} (h:Chain s i0 r) :
  ∀ (dn:List (List AVal)) (pre:ByteArray),l=dn++r→pre++pcs s (b++⟨#[10]⟩) r=tot→
   DRX Tryd.prog (kof k3) 105 (.code l3_0::.inLoop l3_0::k) [] [(0,.str s),(1,.str b),(5,x),(6,.ptr b6 0),(8,.str pre),(9,.int .i64 (dn.length:Nat))] H Q:=by
 have hlx:=fun H'=>hx.len H'
 induction h with
 | fin=>
  intro dn pre hl hpre
  have hlen:l.length=dn.length+1:=by rw [hl,List.length_append]; rfl
  have hw:IntKind.i64.wrap ((dn.length:Int)+1)=((dn.length+1:Nat):Int):=wrap64 (n:=dn.length+1) (by omega)
  have hc:decide (((dn.length+1:Nat):Int) < (l.length:Int))=false:=decide_eq_false (by omega)
  have e:pcs s (b++⟨#[10]⟩) [endTok s]=⟨#[]⟩:=rfl
  rw [e,app_empty] at hpre
  subst hpre
  refine DRX.go rfl ?_
  simp -dsimp only [XZ,SZ,EZ,astep,aun,AVal.cells,reduceIte,Nat.reduceEqDiff,Nat.reduceAdd,Nat.reduceLeDiff,abin_addI,hw,lss64,hlx,hc]
  refine DRX.ne rfl rfl ?_
  refine DRX.exit (k':=k') (by simpa [aexitTo] using hk) ?_
  exact DRX.only [0,1,5,6,8] hend
 | @more i c tk w tn tf e l' hc hs' htk h1 h2 r ih=>
  intro dn pre hl hpre
  obtain ⟨j,hj⟩:∃ j,j=pass s e:=⟨_,rfl⟩
  have hple:=pass_le (s:=s) h2
  rw [← hj] at r hple
  obtain ⟨tk2,w2,tn2,tf2,r2,hl'⟩:=r.head
  have hlen:l.length=dn.length+1+l'.length:=by rw [hl,List.length_append,List.length_cons]; omega
  have hl1:1≤l'.length:=by rw [hl']; simp
  have hi0:l[dn.length]? = some (tokC tk w tn tf (i:Nat)):=by rw [hl,List.getElem?_append_right (Nat.le_refl _),Nat.sub_self]; rfl
  have hi1:l[dn.length+1]? = some (tokC tk2 w2 tn2 tf2 (j:Nat)):=by
   rw [hl,List.getElem?_append_right (by omega)]
   have:dn.length+1 - dn.length=1:=by omega
   rw [this,hl']; rfl
  have hw:IntKind.i64.wrap ((dn.length:Int)+1)=((dn.length+1:Nat):Int):=wrap64 (n:=dn.length+1) (by omega)
  have hcl:decide (((dn.length+1:Nat):Int) < (l.length:Int))=true:=decide_eq_true (by omega)
  obtain ⟨ix,ax,rx,tx,gx,lx,dx,hc5⟩:=hx.at hall hi0 H
  obtain ⟨iy,ay,ry,ty,gy,ly,dy,hd5⟩:=hx.at hall hi1 H
  have p1:=field5 gx dx hc5 (v:=.int .i64 (i:Nat)) rfl
  have p2:=field5 gy dy hd5 (v:=.int .i64 (j:Nat)) rfl
  have hsl:∀ T:Env,T.get 58=some (.int .i64 (i:Nat))→T.get 64=some (.int .i64 (j:Nat))→aslcS T (.str s) (some (.t 58)) (some (.t 64))=some (.str (s.extract i j)):=fun T e1 e2=>slc_both e1 e2 (by omega) hple.2
  obtain ⟨part,hpart⟩:∃ part,part=s.extract i j:=⟨_,rfl⟩
  rw [pcs_cons r] at hpre
  have hpre2:((((pre++part)++⟨#[10]⟩)++b)++⟨#[10]⟩)++pcs s (b++⟨#[10]⟩) l'=tot:=by
   rw [← hpre,hpart]
   unfold piece
   simp only [ByteArray.append_assoc]
  have hsz:pre.size+part.size+1+b.size+1≤tot.size:=by
   rw [← hpre2]
   simp only [ByteArray.size_append]
   have:(⟨#[10]⟩:ByteArray).size=1:=rfl
   omega
  have n1:(⟨#[10]⟩:ByteArray).size=1:=rfl
  have c1:=cat_small (a:=pre) (b:=part) (by omega)
  have c2:=cat_small (a:=pre++part) (b:=⟨#[10]⟩) (by rw [ByteArray.size_append]; omega)
  have c3:=cat_small (a:=(pre++part)++⟨#[10]⟩) (b:=b) (by rw [ByteArray.size_append,ByteArray.size_append]; omega)
  have c4:=cat_small (a:=((pre++part)++⟨#[10]⟩)++b) (b:=⟨#[10]⟩) (by rw [ByteArray.size_append,ByteArray.size_append,ByteArray.size_append]; omega)
  refine DRX.go rfl ?_
  simp -dsimp only [XZ,SZ,EZ,astep,aun,AVal.cells,reduceIte,Nat.reduceEqDiff,Nat.reduceAdd,Nat.reduceLeDiff,abin_addI,hw,lss64,hlx,hcl]
  refine DRX.ye rfl rfl ?_
  refine DRX.nm rfl ?_
  refine DRX.draw (by kernel_rfl) d3_15 ?_
  simp -dsimp only [m3_15,YZ,XZ,SZ,EZ,astep,aun,AVal.cells,reduceIte,Nat.reduceEqDiff,Nat.reduceAdd,Nat.reduceLeDiff,DS_nil,DS_cons,seesAll,staysAll,abit,List.getD_cons_zero,List.getD_cons_succ,AOp.quiet,AOp.reads,true_and,and_true,Nat.reducePow,Nat.reduceDiv,Nat.reduceMod,decide_true,decide_false,Nat.reduceEqDiff,reduceCtorEq,and_self,Nat.reduceBEq,ax,ay,p1,p2,abin_addI,hw]
  rw [hsl _ rfl rfl,← hpart]
  simp -dsimp only [YZ,XZ,SZ,EZ,astep,aun,AVal.cells,reduceIte,Nat.reduceEqDiff,Nat.reduceAdd,Nat.reduceLeDiff,DS_nil,DS_cons,seesAll,staysAll,abit,List.getD_cons_zero,List.getD_cons_succ,AOp.quiet,AOp.reads,true_and,and_true,Nat.reducePow,Nat.reduceDiv,Nat.reduceMod,decide_true,decide_false,Nat.reduceEqDiff,reduceCtorEq,and_self,Nat.reduceBEq,c1,c2,c3,c4]
  refine DRX.go rfl ?_
  simp -dsimp only [XZ,SZ,EZ,astep,aun,AVal.cells,reduceIte,Nat.reduceEqDiff,Nat.reduceAdd,Nat.reduceLeDiff,abin_addI,hw]
  refine DRX.nm rfl ?_
  refine DRX.inLoop ?_
  have hdl:(dn++[tokC tk w tn tf (i:Nat)]).length=dn.length+1:=by simp
  have:=ih (dn++[tokC tk w tn tf (i:Nat)]) _ (by rw [hl,List.append_assoc]; rfl) hpre2
  rw [hdl] at this
  exact this
end
abbrev t3b:ACode:=.seq (.g r3_20 [5,6,13]) (.seq (.g r3_21 [4]) .ret)
abbrev t3a:ACode:=.seq (.g r3_16 [5,6,8,10]) (.seq (.g r3_17 [5,6,8,10,11,12]) (.seq (.seq (.g r3_18 [5,6,8,91]) (.cond (.t 91) (.seq (.g r3_19 [4]) .ret) .skip)) t3b))
theorem ix0 (a b:AVal):([a,b]:List AVal)[0]? = some a:=rfl
theorem ix1 (a b:AVal):([a,b]:List AVal)[1]? = some b:=rfl
theorem zero2:afill [.int .i64 0,.int .i64 0] []=some [.int .i64 0,.int .i64 0]:=rfl
theorem same2:aeqs [1,1] [.int .i64 0,.int .i64 0] [.int .i64 0,.int .i64 0]=some true:=rfl
theorem g3e {x:AVal} {W:ByteArray} {l m:List (List AVal)} {b6:Nat} {c1 c2:Int} {H15:AHeap} (hm:tokens W = .inr m) (hsame:SameL false m l) (hll:l.length≤5000) (hsz:W.size≤65536) (hx:RowT H15 x l) (hx6:∀ j,rid x=some j→j≠b6) (g6:H15.get b6=some (.cells 26 [.int .i64 c1,.int .i64 c2])) :
  DRX Tryd.prog (kof k3) 105 [.code t3b] [] [(5,x),(6,.ptr b6 0),(8,.str W)] H15 (fun e ds T' H'=>DLeave Tryd.prog [.tmp 4] ds e T' H' fun o _=>o = .ret (.bool true)):=by
 have x01:(false ^^ true)=true:=rfl
 refine DRX.go rfl ?_
 simp -dsimp only [XZ,SZ,EZ,astep,aun,AVal.cells,reduceIte,Nat.reduceEqDiff,Nat.reduceAdd,Nat.reduceLeDiff]
 refine DCall.monoX (g9 (s:=W) (by omega)) ?_
 rintro a H16 hT16
 obtain ⟨z,rfl,hrowz,hzn,hn16,hf16⟩:=hT16.row
 have k16:Gro H15 H16:=⟨hn16,hf16⟩
 have s17:=store_all (n:=2) (k16.get g6) (new:=[.int .i64 (resErr (tokens W)).1,.int .i64 (resErr (tokens W)).2]) rfl rfl rfl
 obtain ⟨H17,hH17,g17,n17,f17⟩:=upd (k16.get g6) (.cells 26 [.int .i64 (resErr (tokens W)).1,.int .i64 (resErr (tokens W)).2])
 simp -dsimp only [XZ,SZ,EZ,astep,aun,AVal.cells,reduceIte,Nat.reduceEqDiff,Nat.reduceAdd,Nat.reduceLeDiff,ix0,ix1,s17,← hH17]
 have la17:=load_all (n:=2) g17 rfl
 rw [hm] at la17 hrowz
 simp only [resErr,resRow] at la17 hrowz
 have n6:=AHeap.get_lt g6
 have hrowx:RowT H17 x l:=hx.frame fun j hj=>by rw [f17 j (hx6 j hj),hf16 j (hx.lt hj)]
 have hrowz17:RowT H17 z m:=hrowz.frame fun j hj=>f17 j (by have:=hzn j hj; omega)
 have hsame2:SameL false l m:=by
  refine ⟨hsame.1.symm,fun q c hq=> ?_⟩
  have hlt:q < m.length:=by have:=(List.getElem?_eq_some_iff.mp hq).1; have:=hsame.1; omega
  obtain ⟨k,w,n,f,i,i',h1,h2,_⟩:=hsame.2 q _ (List.getElem?_eq_getElem hlt)
  rw [hq] at h2; injection h2 with h2
  exact ⟨k,w,n,f,i',i,h2,by rw [List.getElem?_eq_getElem hlt,h1],fun h=>by cases h⟩
 refine DRX.go rfl ?_
 simp -dsimp only [XZ,SZ,EZ,astep,aun,AVal.cells,reduceIte,Nat.reduceEqDiff,Nat.reduceAdd,Nat.reduceLeDiff,la17,Env.parts,zero2,same2,x01]
 refine DCall.monoX (g12S hsame2 (by omega) hrowx hrowz17) ?_
 rintro a H18 ⟨rfl,k18⟩
 simp -dsimp only [XZ,SZ,EZ,astep,aun,AVal.cells,reduceIte,Nat.reduceEqDiff,Nat.reduceAdd,Nat.reduceLeDiff]
 refine DRX.nm rfl ?_
 exact DRX.retv ⟨_,by simp [aresult,ares,Env.get] <;> rfl,rfl⟩
theorem g3m {s b W:ByteArray} {x:AVal} {l m:List (List AVal)} {b6:Nat} {c1 c2:Int} {H5:AHeap} (hs4:s.size≤4000) (ht:tokens s = .inr l) (hm:tokens W = .inr m) (hsame:SameL false m l) (hll:l.length≤5000) (hsz:W.size≤65536) (hrow5:RowT H5 x l) (hx6:∀ j,rid x=some j→j≠b6) (g5:H5.get b6=some (.cells 26 [.int .i64 c1,.int .i64 c2])) :
  DRX Tryd.prog (kof k3) 105 [.code t3a] [] [(0,.str s),(1,.str b),(5,x),(6,.ptr b6 0),(8,.str W)] H5 (fun e ds T' H'=>DLeave Tryd.prog [.tmp 4] ds e T' H' fun o _=>o = .ret (.bool true)):=by
 have hrow5lt:∀ j,rid x=some j→j < H5.next:=fun j hj=>hrow5.lt hj
 refine DRX.go rfl ?_
 simp -dsimp only [XZ,SZ,EZ,astep,aun,AVal.cells,reduceIte,Nat.reduceEqDiff,Nat.reduceAdd,Nat.reduceLeDiff]
 refine (g10 (s:=s) (by omega)).mono ?_
 rintro o H6 ⟨r,xt,hp,rfl,htr,k6⟩
 obtain ⟨H7,hH7,g7,n7,f7⟩:=psh H6 (.cells 34 [.nils,.int .i64 0])
 have s8:=store_all (n:=2) g7 (new:=[xt,.int .i64 (r.root:Nat)]) rfl (htr.one.2 r.root) rfl
 obtain ⟨H8,hH8,g8',n8,f8⟩:=upd g7 (.cells 34 [xt,.int .i64 (r.root:Nat)])
 have b6l:b6 < H6.next:=by have:=AHeap.get_lt g5; have:=k6.1; omega
 have g68:H8.get b6=some (.cells 26 [.int .i64 c1,.int .i64 c2]):=by
  rw [f8 _ (by omega),f7 _ b6l]; exact k6.get g5
 have s9:=store_all (n:=2) g68 (new:=[.int .i64 r.e,.int .i64 r.p]) rfl rfl rfl
 obtain ⟨H9,hH9,g9',n9,f9⟩:=upd g68 (.cells 26 [.int .i64 r.e,.int .i64 r.p])
 simp -dsimp only [XZ,SZ,EZ,astep,aun,AVal.cells,reduceIte,Nat.reduceEqDiff,Nat.reduceAdd,Nat.reduceLeDiff,ix0,ix1,← hH7,s8,← hH8,s9,← hH9]
 have g109:H9.get H6.next=some (.cells 34 [xt,.int .i64 (r.root:Nat)]):=by rw [f9 _ (by omega)]; exact g8'
 refine DRX.go rfl ?_
 simp -dsimp only [XZ,SZ,EZ,astep,aun,AVal.cells,reduceIte,Nat.reduceEqDiff,Nat.reduceAdd,Nat.reduceLeDiff]
 refine (g10 (s:=W) (by omega)).mono ?_
 rintro o H10 ⟨r',yt,hp',rfl,htr',k10⟩
 obtain ⟨H11,H12,H13,H14,e11,e12,e13,e14,k14,g141,g142,n11⟩:=pair34 (H1:=H10) (x:=yt) (i:=r'.root) (e:=r'.e) (p:=r'.p) (htr'.one.2 r'.root)
 simp -dsimp only [XZ,SZ,EZ,astep,aun,AVal.cells,reduceIte,Nat.reduceEqDiff,Nat.reduceAdd,Nat.reduceLeDiff,ix0,ix1,e11,e12,e13,e14]
 have ksum:=k10.trans k14
 have g914:=ksum.get g9'
 have g1014:=ksum.get g109
 obtain ⟨he,hroot,hnod⟩:=(Parses.same hp hp' ht hm (sameL_er ht hm hsame)).all
 have le1:=load_cell g914 (o:=0) (v:=.int .i64 r.e) rfl
 have le2:=load_cell g142 (o:=0) (v:=.int .i64 r'.e) rfl
 rw [← he] at le2
 have lt1:=load_all (n:=2) g1014 rfl
 have lt2:=load_all (n:=2) g141 rfl
 rw [← hroot] at lt2
 have keep6:∀ j,j < H6.next→j≠b6→H9.get j=H6.get j:=fun j hj hne=>by rw [f9 j hne,f8 j (by omega),f7 j hj]
 have htx:TreeR H14 xt r.nodes:=by
  refine htr.keep fun id t cs ht' hg=> ?_
  have hne:id≠b6:=by
   rintro rfl
   rw [k6.get g5] at hg
   injection hg with hg; injection hg with hg
   rcases ht' with rfl | rfl <;> exact absurd hg (by decide)
  have hlt:=AHeap.get_lt hg
  rw [ksum.2 id (by omega),keep6 id hlt hne]; exact hg
 have hty:TreeR H14 yt r'.nodes:=htr'.gro k14
 have hlenN:r.nodes.length≤100000∧∀ (i:Nat) (m:ND),r.nodes[i]? = some m→m.l.length≤100000:=by
  cases r with
  | flaw e p=>exact ⟨by simp [Parsed.nodes],fun i m hm=>by simp [Parsed.nodes] at hm⟩
  | tree nodes root=>
   have h1:=hp.tree_le
   exact ⟨by show nodes.length≤_; omega,fun i m hm=>by have:=hp.tree_ok.len i m hm; omega⟩
 have beq:(r.e != r.e)=false:=bne_self_eq_false _
 refine DRX.go rfl ?_
 simp -dsimp only [XZ,SZ,EZ,astep,aun,AVal.cells,reduceIte,Nat.reduceEqDiff,Nat.reduceAdd,Nat.reduceLeDiff,le1,le2,neq64,beq,lt1,lt2]
 refine DCall.monoX (g11 (root:=r.root) htx hty hnod hlenN.1 hlenN.2) ?_
 rintro a H15 ⟨rfl,k15⟩
 simp -dsimp only [XZ,SZ,EZ,astep,aun,AVal.cells,reduceIte,Nat.reduceEqDiff,Nat.reduceAdd,Nat.reduceLeDiff,Bool.not_true]
 refine DRX.ne rfl rfl ?_
 have kall:∀ j,j < H5.next→j≠b6→H15.get j=H5.get j:=fun j hj hne=>by
  have:=k6.1; have:=ksum.1
  rw [k15.2 j (by omega),ksum.2 j (by omega),keep6 j (by omega) hne,k6.2 j hj]
 refine DRX.skip (DRX.only [5,6,8] ?_)
 exact g3e hm hsame hll hsz (hrow5.frame fun j hj=>kall j (hrow5lt j hj) (hx6 j hj)) hx6 (k15.get g914)
theorem g3 (H:AHeap) (s b:ByteArray):DCallX Tryd.prog 3 [.str s,.str b] H fun o H'=>o = .ret (.bool true):=by
 refine DCallX.of_body (fn:=Tryd.f3) (by kernel_rfl) c3 (by kernel_rfl) (by simp [f3]) ?_
 unfold f3
 simp only []
 refine DRX.go rfl ?_
 simp -dsimp only [XZ,SZ,EZ,astep,aun,AVal.cells,reduceIte,Nat.reduceEqDiff,Nat.reduceAdd,Nat.reduceLeDiff]
 refine DRX.go rfl ?_
 simp -dsimp only [XZ,SZ,EZ,astep,aun,AVal.cells,reduceIte,Nat.reduceEqDiff,Nat.reduceAdd,Nat.reduceLeDiff]
 refine (g8 H).mono ?_
 rintro o Ha ⟨rfl,k0⟩
 simp -dsimp only [XZ,SZ,EZ,astep,aun,AVal.cells,reduceIte,Nat.reduceEqDiff,Nat.reduceAdd,Nat.reduceLeDiff,Bool.not_true]
 refine DRX.ne rfl rfl ?_
 have hls:∀ (t:ByteArray) H',alenT H' 0 (.str t)=some t.size:=fun _ _=>rfl
 have early:(decide (((s.size:Nat):Int) > 4000)=true∨(decide (((s.size:Nat):Int) > 4000)=false∧decide (((b.size:Nat):Int) > 12)=true))∨(decide (((s.size:Nat):Int) > 4000)=false∧decide (((b.size:Nat):Int) > 12)=false):=by
  cases decide (((s.size:Nat):Int) > 4000) <;> cases decide (((b.size:Nat):Int) > 12) <;> simp
 rcases early with (h | ⟨h,h'⟩) | ⟨h,h'⟩
 ·refine DRX.go rfl ?_
  simp -dsimp only [XZ,SZ,EZ,astep,aun,AVal.cells,reduceIte,Nat.reduceEqDiff,Nat.reduceAdd,Nat.reduceLeDiff,hls,gtr64,h]
  refine DRX.ye rfl rfl ?_
  refine DRX.go rfl ?_
  simp -dsimp only [XZ,SZ,EZ,astep,aun,AVal.cells,reduceIte,Nat.reduceEqDiff,Nat.reduceAdd,Nat.reduceLeDiff]
  refine DRX.nm rfl ?_
  exact DRX.retv ⟨_,by simp [aresult,ares,Env.get] <;> rfl,rfl⟩
 ·refine DRX.go rfl ?_
  simp -dsimp only [XZ,SZ,EZ,astep,aun,AVal.cells,reduceIte,Nat.reduceEqDiff,Nat.reduceAdd,Nat.reduceLeDiff,hls,gtr64,h,h']
  refine DRX.ye rfl rfl ?_
  refine DRX.go rfl ?_
  simp -dsimp only [XZ,SZ,EZ,astep,aun,AVal.cells,reduceIte,Nat.reduceEqDiff,Nat.reduceAdd,Nat.reduceLeDiff]
  refine DRX.nm rfl ?_
  exact DRX.retv ⟨_,by simp [aresult,ares,Env.get] <;> rfl,rfl⟩
 have hs4:s.size≤4000:=by have:=of_decide_eq_false h; omega
 have hb12:b.size≤12:=by have:=of_decide_eq_false h'; omega
 refine DRX.go rfl ?_
 simp -dsimp only [XZ,SZ,EZ,astep,aun,AVal.cells,reduceIte,Nat.reduceEqDiff,Nat.reduceAdd,Nat.reduceLeDiff,hls,gtr64,h,h']
 refine DRX.ne rfl rfl ?_
 refine DRX.go rfl ?_
 simp -dsimp only [XZ,SZ,EZ,astep,aun,AVal.cells,reduceIte,Nat.reduceEqDiff,Nat.reduceAdd,Nat.reduceLeDiff]
 refine DCall.monoX (g9 (s:=s) (by omega)) ?_
 rintro a H1 hT
 obtain ⟨x,rfl,hrow,hxn,hn1,hf1⟩:=hT.row
 obtain ⟨H2,hH2,g2,n2,f2⟩:=psh H1 (.cells 26 [.int .i64 0,.int .i64 0])
 have s3:=store_all (n:=2) g2 (new:=[.int .i64 (resErr (tokens s)).1,.int .i64 (resErr (tokens s)).2]) rfl rfl rfl
 obtain ⟨H3,hH3,g3,n3,f3⟩:=upd g2 (.cells 26 [.int .i64 (resErr (tokens s)).1,.int .i64 (resErr (tokens s)).2])
 simp -dsimp only [XZ,SZ,EZ,astep,aun,AVal.cells,reduceIte,Nat.reduceEqDiff,Nat.reduceAdd,Nat.reduceLeDiff,ix0,ix1,← hH2,s3,← hH3]
 have la3:=load_all (n:=2) g3 rfl
 have x11:(true ^^ true)=false:=rfl
 have x10:(true ^^ false)=true:=rfl
 have x01:(false ^^ true)=true:=rfl
 cases ht:tokens s with
 | inl e=>
  have hne:=(tokens_sort s).1 e ht
  rw [ht] at la3
  simp only [resErr] at la3
  have hq1:aeqs [1,1] [.int .i64 e.1,.int .i64 e.2] [.int .i64 0,.int .i64 0]=some false:=by simp [aeqs,hne]
  refine DRX.go rfl ?_
  simp -dsimp only [XZ,SZ,EZ,astep,aun,AVal.cells,reduceIte,Nat.reduceEqDiff,Nat.reduceAdd,Nat.reduceLeDiff,la3,Env.parts,zero2,hq1,x10]
  refine DRX.ye rfl rfl ?_
  refine DRX.go rfl ?_
  simp -dsimp only [XZ,SZ,EZ,astep,aun,AVal.cells,reduceIte,Nat.reduceEqDiff,Nat.reduceAdd,Nat.reduceLeDiff]
  refine DRX.nm rfl ?_
  exact DRX.retv ⟨_,by simp [aresult,ares,Env.get] <;> rfl,rfl⟩
 | inr l=>
 rw [ht] at la3 hrow
 simp only [resErr,resRow] at la3 hrow
 refine DRX.go rfl ?_
 simp -dsimp only [XZ,SZ,EZ,astep,aun,AVal.cells,reduceIte,Nat.reduceEqDiff,Nat.reduceAdd,Nat.reduceLeDiff,la3,Env.parts,zero2,same2,x11]
 refine DRX.ne rfl rfl ?_
 have hrow3:RowT H3 x l:=hrow.frame fun j hj=>by have:=hrow.lt hj; rw [f3 j (by omega),f2 j this]
 refine DRX.go rfl ?_
 simp -dsimp only [XZ,SZ,EZ,astep,aun,AVal.cells,reduceIte,Nat.reduceEqDiff,Nat.reduceAdd,Nat.reduceLeDiff]
 refine DCall.monoX (g9 (s:=b) (by omega)) ?_
 rintro a H4 hT4
 obtain ⟨y,rfl,hrowy,hyn,hn4,hf4⟩:=hT4.row
 have k4:Gro H3 H4:=⟨hn4,hf4⟩
 have s5:=store_all (n:=2) (k4.get g3) (new:=[.int .i64 (resErr (tokens b)).1,.int .i64 (resErr (tokens b)).2]) (by simp only [List.length_cons,List.length_nil]) rfl rfl
 obtain ⟨H5,hH5,g5,n5,f5⟩:=upd (k4.get g3) (.cells 26 [.int .i64 (resErr (tokens b)).1,.int .i64 (resErr (tokens b)).2])
 simp -dsimp only [XZ,SZ,EZ,astep,aun,AVal.cells,reduceIte,Nat.reduceEqDiff,Nat.reduceAdd,Nat.reduceLeDiff,ix0,ix1,s5,← hH5]
 have la5:=load_all (n:=2) g5 rfl
 have hlt1:∀ j,rid x=some j→j < H1.next:=fun j hj=>hrow.lt hj
 have hrow5:RowT H5 x l:=hrow3.frame fun j hj=>by have:=hlt1 j hj; rw [f5 j (by omega),hf4 j (by omega)]
 have hly:=fun H'=>hrowy.len H'
 cases hb:tokens b with
 | inl e=>
  have hne:=(tokens_sort b).1 e hb
  rw [hb] at la5
  simp only [resErr] at la5
  have hq1:aeqs [1,1] [.int .i64 e.1,.int .i64 e.2] [.int .i64 0,.int .i64 0]=some false:=by simp [aeqs,hne]
  refine DRX.go rfl ?_
  simp -dsimp only [XZ,SZ,EZ,astep,aun,AVal.cells,reduceIte,Nat.reduceEqDiff,Nat.reduceAdd,Nat.reduceLeDiff,la5,Env.parts,zero2,hq1,x10]
  refine DRX.ye rfl rfl ?_
  refine DRX.go rfl ?_
  simp -dsimp only [XZ,SZ,EZ,astep,aun,AVal.cells,reduceIte,Nat.reduceEqDiff,Nat.reduceAdd,Nat.reduceLeDiff]
  refine DRX.nm rfl ?_
  exact DRX.retv ⟨_,by simp [aresult,ares,Env.get] <;> rfl,rfl⟩
 | inr lb=>
 rw [hb] at la5 hly
 simp only [resErr,resRow] at la5 hly
 by_cases h1:lb.length=1
 case neg=>
  have hne:(((lb.length:Nat):Int) != 1)=true:=by rw [bne_iff_ne]; omega
  refine DRX.go rfl ?_
  simp -dsimp only [XZ,SZ,EZ,astep,aun,AVal.cells,reduceIte,Nat.reduceEqDiff,Nat.reduceAdd,Nat.reduceLeDiff,la5,Env.parts,zero2,same2,x11,hly,neq64,hne]
  refine DRX.ye rfl rfl ?_
  refine DRX.go rfl ?_
  simp -dsimp only [XZ,SZ,EZ,astep,aun,AVal.cells,reduceIte,Nat.reduceEqDiff,Nat.reduceAdd,Nat.reduceLeDiff]
  refine DRX.nm rfl ?_
  exact DRX.retv ⟨_,by simp [aresult,ares,Env.get] <;> rfl,rfl⟩
 have hne:(((lb.length:Nat):Int) != 1)=false:=by rw [h1]; rfl
 refine DRX.go rfl ?_
 simp -dsimp only [XZ,SZ,EZ,astep,aun,AVal.cells,reduceIte,Nat.reduceEqDiff,Nat.reduceAdd,Nat.reduceLeDiff,la5,Env.parts,zero2,same2,x11,hly,neq64,hne]
 refine DRX.ne rfl rfl ?_
 have hgap:=gap_pass (tokens_one hb h1)
 have hch:=tokens_chain ht
 have hll:=(res_all s).2
 have hal:=(res_all s).1
 rw [ht] at hll hal
 simp only [resRow] at hll hal
 obtain ⟨B,hB⟩:∃ B,B=b++(⟨#[10]⟩:ByteArray):=⟨_,rfl⟩
 have hBs:B.size=b.size+1:=by rw [hB,ByteArray.size_append]; rfl
 have hpsz:=pcs_size (b:=B) hch
 have hsz:(pcs s B l).size≤65536:=by
  have h1:(l.length - 1) * (1+B.size)≤4000 * 14:=Nat.mul_le_mul (by omega) (by omega)
  omega
 rw [← hB] at hgap
 obtain ⟨m,hm,hsame⟩:=alone_tokens ht hgap hsz
 obtain ⟨W,hW⟩:∃ W,W=pcs s B l:=⟨_,rfl⟩
 rw [← hW] at hm hsz
 refine DRX.go rfl ?_
 simp -dsimp only [XZ,SZ,EZ,astep,aun,AVal.cells,reduceIte,Nat.reduceEqDiff,Nat.reduceAdd,Nat.reduceLeDiff]
 refine DRX.go rfl ?_
 simp -dsimp only [XZ,SZ,EZ,astep,aun,AVal.cells,reduceIte,Nat.reduceEqDiff,Nat.reduceAdd,Nat.reduceLeDiff]
 refine DRX.nm rfl ?_
 refine DRX.loop ?_
 refine loop3 (b:=b) (l:=l) (tot:=W) rfl hs4 (by omega) hsz hrow5 hal ?_ hch [] ⟨#[]⟩ rfl (by rw [hW,hB]; exact ByteArray.empty_append)
 exact g3m hs4 ht hm hsame (by omega) hsz hrow5 (fun j hj=>by have:=hlt1 j hj; omega) g5
end Go.Am.Rl
namespace Go.Am
theorem DCallX.call {P:Program} {f:FuncId} {args:List AVal} {H:AHeap} {Q:AVal→AHeap→Prop} (h:DCallX P f args H fun o H'=>∃ v,o = .ret v∧Q v H'):CallEv P f args H Q:=by
 obtain ⟨o,H1,⟨v,rfl,hq⟩,hc,hd⟩:=h
 intro w ro μ argv hg ha
 refine (hd w ro μ argv hg ha).mono fun e w' ⟨o,H',ro',μ',⟨e1,e2⟩,ho,hg',hout⟩=> ?_
 subst e1; subst e2
 obtain ⟨v',h1,h2⟩:=ho
 exact ⟨v',v,_,ro',μ',h1,hq,h2,hg',hout⟩
end Go.Am
