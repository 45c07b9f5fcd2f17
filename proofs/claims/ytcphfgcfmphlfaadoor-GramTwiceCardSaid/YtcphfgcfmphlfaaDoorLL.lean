/- Parts: Fn7, PS4, L7, ZC. -/
import Derived.Test.YtcphfgcfmphlfaaDoorFB
import Derived.Test.YtcphfgcfmphlfaaDoorProg
import Derived.Test.YtcphfgcfmphlfaaDoorPE
import Derived.Test.YtcphfgcfmphlfaaDoorAmP
set_option linter.unusedVariables false
set_option maxRecDepth 20000
set_option linter.unusedSimpArgs false
namespace Go.Am.Rl
open Go.Proofs
abbrev r7_0:List AOper:=[
 oo 4 (.mv (.c (.bool false))) []]
abbrev r7_1:List AOper:=[
 oo 11 (.callF 8 []) [],
 oo 12 (.un .not (.t 11)) [0]]
abbrev r7_2:List AOper:=[
 oo 4 (.mv (.c (.bool false))) []]
abbrev r7_3:List AOper:=[
 oo 13 (.bslice 9 8 [.str ⟨#[]⟩,.str ⟨#[]⟩,.str ⟨#[]⟩,.str ⟨#[]⟩,.str ⟨#[]⟩,.str ⟨#[]⟩,.str ⟨#[]⟩,.str ⟨#[]⟩] [(0,1,(.c (.str ⟨#[61,61]⟩))),(1,1,(.c (.str ⟨#[47,61]⟩))),(2,1,(.c (.str ⟨#[61,60]⟩))),(3,1,(.c (.str ⟨#[60]⟩))),(4,1,(.c (.str ⟨#[62,61]⟩))),(5,1,(.c (.str ⟨#[62]⟩))),(6,1,(.c (.str ⟨#[61,58,61]⟩))),(7,1,(.c (.str ⟨#[61,47,61]⟩)))]) [],
 oo 5 (.mv (.t 13)) [0,0]]
abbrev r7_4:List AOper:=[
 oo 14 (.mv (.t 0)) [],
 oo 15 (.bin .rem (.t 14) (.c (.int .i64 8))) [0],
 oo 0 (.mv (.t 15)) [1,0,1]]
abbrev r7_5:List AOper:=[
 oo 16 (.mv (.t 1)) [],
 oo 17 (.bin .rem (.t 16) (.c (.int .i64 8))) [0],
 oo 1 (.mv (.t 17)) [1,0,1]]
abbrev r7_6:List AOper:=[
 oo 18 (.mv (.t 0)) [],
 oo 19 (.bin .lss (.t 18) (.c (.int .i64 0))) [0],
 oo 20 (.mv (.t 19)) [1],
 og 21 (.mv (.t 1)) 20 false [2],
 og 22 (.bin .lss (.t 21) (.c (.int .i64 0))) 20 false [3,2],
 oo 23 (.pick (.t 20) (.c (.bool true)) (.t 22)) [2,4]]
abbrev r7_7:List AOper:=[
 oo 4 (.mv (.c (.bool true))) []]
abbrev r7_8:List AOper:=[
 oo 24 (.mv (.t 5)) [],
 oo 25 (.mv (.t 0)) [],
 oo 26 (.iaddr 1 (.t 24) (.t 25)) [0,1],
 oo 27 (.load none (.t 26)) [2],
 oo 28 (.bin .add (.c (.str ⟨#[45,109,111,100,117,108,101,40,109,41,46,32,102,40,41,32,45,62,32,49,32]⟩)) (.t 27)) [3],
 oo 29 (.bin .add (.t 28) (.c (.str ⟨#[32,50,32]⟩))) [4],
 oo 6 (.mv (.t 29)) [5,0,1,2,3,4,5]]
abbrev r7_9:List AOper:=[
 oo 31 (.mv (.t 6)) [],
 oo 32 (.mv (.t 5)) [],
 oo 33 (.mv (.t 1)) [],
 oo 34 (.iaddr 1 (.t 32) (.t 33)) [1,2],
 oo 35 (.load none (.t 34)) [3],
 oo 36 (.bin .add (.t 31) (.t 35)) [0,4],
 oo 37 (.bin .add (.t 36) (.c (.str ⟨#[32,51,46]⟩))) [5],
 oo 38 (.callF 10 [(.t 37)]) [6],
 oo 30 (.mv (.t 38)) [7],
 oo 39 (.extract (.t 30) 0) [8],
 oo 40 (.extract (.t 30) 1) [8],
 oo 7 (.alloc 34 (.agg [.nils,.int .i64 0])) [],
 oo 8 (.alloc 26 (.agg [.int .i64 0,.int .i64 0])) [],
 on (.store 2 (.t 7) (.t 39)) [11,9,7,0,1,2,3,4,5,6,7,8,9,11,12],
 on (.store 2 (.t 8) (.t 40)) [12,10,13,0,1,2,3,4,5,6,7,8,9,10,11,12,13]]
abbrev r7_10:List AOper:=[
 oo 42 (.mv (.t 6)) [],
 oo 43 (.bin .add (.t 42) (.c (.str ⟨#[46]⟩))) [0],
 oo 44 (.callF 10 [(.t 43)]) [1],
 oo 41 (.mv (.t 44)) [2],
 oo 45 (.extract (.t 41) 0) [3],
 oo 46 (.extract (.t 41) 1) [3],
 oo 9 (.alloc 34 (.agg [.nils,.int .i64 0])) [],
 oo 10 (.alloc 26 (.agg [.int .i64 0,.int .i64 0])) [],
 on (.store 2 (.t 9) (.t 45)) [6,4,2,0,1,2,3,4,6,7],
 on (.store 2 (.t 10) (.t 46)) [7,5,8,0,1,2,3,4,5,6,7,8]]
abbrev r7_11:List AOper:=[
 oo 47 (.load (some 2) (.t 10)) [],
 oo 48 (.build [.int .i64 0,.int .i64 0] []) [],
 oo 49 (.eqAgg [1,1] false (.t 47) (.t 48)) [0,1],
 oo 50 (.mv (.t 49)) [2],
 og 51 (.load (some 2) (.t 8)) 50 true [3],
 og 52 (.mv (.t 6)) 50 true [3],
 og 53 (.len 0 (.t 52)) 50 true [5,3],
 og 54 (.build [.int .i64 0,.int .i64 0] [(0,1,(.c (.int .i64 24))),(1,1,(.t 53))]) 50 true [6,3],
 og 55 (.eqAgg [1,1] false (.t 51) (.t 54)) 50 true [4,7,3],
 oo 56 (.pick (.t 50) (.t 55) (.c (.bool false))) [3,8],
 oo 57 (.mv (.t 56)) [9,3],
 og 58 (.faddr 0 (.t 7)) 57 true [10],
 og 59 (.load none (.t 58)) 57 true [11,10],
 og 60 (.len 1 (.t 59)) 57 true [12,10],
 og 61 (.bin .eql (.t 60) (.c (.int .i64 0))) 57 true [13,10],
 oo 62 (.pick (.t 57) (.t 61) (.c (.bool false))) [10,14],
 oo 4 (.mv (.t 62)) [15,10,0,1,2,3,4,5,6,7,8,9,10,11,12,13,14,15]]
def k7:List (List Nat):=[[0,1],[0,1,12],[4],[0,1,5],[0,1,5],[0,1,5],[0,1,5,23],[4],[1,5,6],[6,7,8],[6,7,8,10],[4]]
def f7:AFunc:={ ntmps:=63,results:=[.tmp 4],body:=(
 .seq (
 .region false r7_0 [0,1]) (
 .seq (
 .seq (
 .region false r7_1 [0,1,12]) (
 .cond (.t 12) (
  .seq (
  .region false r7_2 [4]) (
  .ret)) (
  .skip))) (
 .seq (
 .region false r7_3 [0,1,5]) (
 .seq (
 .region false r7_4 [0,1,5]) (
 .seq (
 .region false r7_5 [0,1,5]) (
 .seq (
 .seq (
 .region false r7_6 [0,1,5,23]) (
 .cond (.t 23) (
  .seq (
  .region false r7_7 [4]) (
  .ret)) (
  .skip))) (
 .seq (
 .region false r7_8 [1,5,6]) (
 .seq (
 .region false r7_9 [6,7,8]) (
 .seq (
 .region false r7_10 [6,7,8,10]) (
 .seq (
 .region false r7_11 [4]) (
 .ret))))))))))) }
theorem c7:cfunc Tryd.prog (kof k7) Tryd.f7=some f7:=by kernel_rfl
end Go.Am.Rl
namespace Go.Am.Rl
open Go.Proofs
def ops8:List ByteArray:=[w_eqeq,w_ne,w_le,w_lt,w_ge,w_gt,w_same,w_nsame]
def txt0:ByteArray:=⟨#[45,109,111,100,117,108,101,40,109,41,46,32,102,40,41,32,45,62,32,49,32]⟩
def txt6 (x:ByteArray):ByteArray:=txt0++x++⟨#[32,50,32]⟩
def txtA (x y:ByteArray):ByteArray:=txt6 x++y++⟨#[32,51,46]⟩
def txtB (x:ByteArray):ByteArray:=txt6 x++⟨#[46]⟩
def isOk:Option Out1→Bool
 | some (.ok (.n _) _)=>true
 | _=>false
def okB (x:ByteArray):Bool:=isR (tokens (txtB x))&&isOk (run (lexT (txtB x)) 100 (rule (lexT (txtB x)) .module ⟨0,0,[]⟩))&&decide ((txtB x).size < 100)&&decide (x.size < 10)
def okA (x y:ByteArray):Bool:=isR (tokens (txtA x y))&&(sum2 (run (lexT (txtA x y)) 100 (rule (lexT (txtA x y)) .module ⟨0,0,[]⟩))==some ((24:Int),(((txt6 x).size:Nat):Int)))&&decide ((txtA x y).size < 100)
theorem all8:(ops8.all fun x=>okB x&&ops8.all fun y=>okA x y)=true:=by kernel_rfl
theorem okB_of {x:ByteArray} (hx:x ∈ ops8):(∃ l,tokens (txtB x) = .inr l)∧(∃ i st,Ev (lexT (txtB x)) (rule (lexT (txtB x)) .module ⟨0,0,[]⟩) (.ok (.n i) st))∧(txtB x).size < 100∧x.size < 10:=by
 have h:=List.all_eq_true.mp all8 x hx
 simp only [Bool.and_eq_true] at h
 obtain ⟨h,_⟩:=h
 unfold okB at h
 simp only [Bool.and_eq_true,decide_eq_true_eq] at h
 obtain ⟨⟨⟨h1,h2⟩,h3⟩,h4⟩:=h
 refine ⟨?_,?_,h3,h4⟩
 ·cases ht:tokens (txtB x) with
  | inl e=>rw [ht] at h1; cases h1
  | inr l=>exact ⟨l,rfl⟩
 ·cases hr:run (lexT (txtB x)) 100 (rule (lexT (txtB x)) .module ⟨0,0,[]⟩) with
  | none=>rw [hr] at h2; cases h2
  | some o=>
   rw [hr] at h2
   cases o with
   | err e p=>cases h2
   | ok v st=>
    cases v with
    | n i=>exact ⟨i,st,100,hr⟩
    | l x=>cases h2
    | d x=>cases h2
    | e k x=>cases h2
theorem okA_of {x y:ByteArray} (hx:x ∈ ops8) (hy:y ∈ ops8):(∃ l,tokens (txtA x y) = .inr l)∧Ev (lexT (txtA x y)) (rule (lexT (txtA x y)) .module ⟨0,0,[]⟩) (.err 24 ((txt6 x).size:Nat))∧(txtA x y).size < 100:=by
 have h:=List.all_eq_true.mp all8 x hx
 simp only [Bool.and_eq_true] at h
 obtain ⟨_,h⟩:=h
 have h:=List.all_eq_true.mp h y hy
 unfold okA at h
 simp only [Bool.and_eq_true,decide_eq_true_eq] at h
 obtain ⟨⟨h1,h2⟩,h3⟩:=h
 refine ⟨?_,?_,h3⟩
 ·cases ht:tokens (txtA x y) with
  | inl e=>rw [ht] at h1; cases h1
  | inr l=>exact ⟨l,rfl⟩
 ·cases hr:run (lexT (txtA x y)) 100 (rule (lexT (txtA x y)) .module ⟨0,0,[]⟩) with
  | none=>rw [hr] at h2; cases h2
  | some o=>
   rw [hr] at h2
   cases o with
   | ok v st=>cases h2
   | err e p=>
    have h2:=eq_of_beq h2
    simp only [sum2,Option.some.injEq,Prod.mk.injEq] at h2
    obtain ⟨rfl,rfl⟩:=h2
    exact ⟨100,hr⟩
end Go.Am.Rl
namespace Go.Am.Rl
open Go.Proofs
theorem rows_at {H:AHeap} {l:List ByteArray} {id:Nat} {c:Option Nat} (hb:H.get id=some (.cells 9 (l.map .str))) {i:Nat} {s:ByteArray} (hs:l[i]? = some s):(∀ H',aiaddr H' 1 (.sl id 0 l.length c) (.int .i64 (i:Nat))=some (.ptr id i))∧aload H none (.ptr id i)=some (.str s):=by
 have hi:=(List.getElem?_eq_some_iff.mp hs).1
 refine ⟨fun H'=> ?_,load_cell hb (by rw [List.getElem?_map,hs]; rfl)⟩
 simp only [aiaddr]
 rw [if_pos (by omega)]; simp
theorem add_str {x y:ByteArray} (h:x.size+y.size < 1000000):abin .add (.str x) (.str y)=some (.str (x++y)):=by
 simp only [abin]
 have hm:IntKind.i64.max=9223372036854775807:=by decide
 rw [if_neg (by omega)]
theorem rem8 (a:Int):abin .rem (.int .i64 a) (.int .i64 8)=some (.int .i64 (a.tmod 8)):=rfl
theorem size_app (x y:ByteArray):(x++y).size=x.size+y.size:=ByteArray.size_append
theorem g7 (H:AHeap) (a b:Int):DCallX Tryd.prog 7 [.int .i64 a,.int .i64 b] H fun o H'=>o = .ret (.bool true):=by
 refine DCallX.of_body (fn:=Tryd.f7) (by kernel_rfl) c7 (by kernel_rfl) (by simp [f7]) ?_
 unfold f7
 simp only []
 refine DRX.go rfl ?_
 simp -dsimp only [XZ,SZ,EZ,astep,aun,AVal.cells,reduceIte,Nat.reduceEqDiff,Nat.reduceAdd,Nat.reduceLeDiff]
 refine DRX.go rfl ?_
 simp -dsimp only [XZ,SZ,EZ,astep,aun,AVal.cells,reduceIte,Nat.reduceEqDiff,Nat.reduceAdd,Nat.reduceLeDiff]
 refine (g8 H).mono ?_
 rintro o H1 ⟨rfl,k1⟩
 simp -dsimp only [XZ,SZ,EZ,astep,aun,AVal.cells,reduceIte,Nat.reduceEqDiff,Nat.reduceAdd,Nat.reduceLeDiff,Bool.not_true]
 refine DRX.ne rfl rfl ?_
 obtain ⟨H2,e2⟩:∃ H2,H1.push (.cells 9 [.str ⟨#[61,61]⟩,.str ⟨#[47,61]⟩,.str ⟨#[61,60]⟩,.str ⟨#[60]⟩,.str ⟨#[62,61]⟩,.str ⟨#[62]⟩,.str ⟨#[61,58,61]⟩,.str ⟨#[61,47,61]⟩])=H2:=⟨_,rfl⟩
 have hf1:afill [.str ⟨#[]⟩,.str ⟨#[]⟩,.str ⟨#[]⟩,.str ⟨#[]⟩,.str ⟨#[]⟩,.str ⟨#[]⟩,.str ⟨#[]⟩,.str ⟨#[]⟩] [(0,1,.str ⟨#[61,61]⟩),(1,1,.str ⟨#[47,61]⟩),(2,1,.str ⟨#[61,60]⟩),(3,1,.str ⟨#[60]⟩),(4,1,.str ⟨#[62,61]⟩),(5,1,.str ⟨#[62]⟩),(6,1,.str ⟨#[61,58,61]⟩),(7,1,.str ⟨#[61,47,61]⟩)]=some [.str ⟨#[61,61]⟩,.str ⟨#[47,61]⟩,.str ⟨#[61,60]⟩,.str ⟨#[60]⟩,.str ⟨#[62,61]⟩,.str ⟨#[62]⟩,.str ⟨#[61,58,61]⟩,.str ⟨#[61,47,61]⟩]:=rfl
 have hb2:H2.get H1.next=some (.cells 9 (ops8.map .str)):=by rw [← e2,AHeap.get_push,if_pos rfl]; rfl
 refine DRX.go rfl ?_
 simp -dsimp only [XZ,SZ,EZ,astep,aun,AVal.cells,reduceIte,Nat.reduceEqDiff,Nat.reduceAdd,Nat.reduceLeDiff,Env.parts,hf1,e2]
 refine DRX.go rfl ?_
 simp -dsimp only [XZ,SZ,EZ,astep,aun,AVal.cells,reduceIte,Nat.reduceEqDiff,Nat.reduceAdd,Nat.reduceLeDiff,rem8]
 refine DRX.go rfl ?_
 simp -dsimp only [XZ,SZ,EZ,astep,aun,AVal.cells,reduceIte,Nat.reduceEqDiff,Nat.reduceAdd,Nat.reduceLeDiff,rem8]
 have early:(decide (a.tmod 8 < 0)=true∨(decide (a.tmod 8 < 0)=false∧decide (b.tmod 8 < 0)=true))∨(decide (a.tmod 8 < 0)=false∧decide (b.tmod 8 < 0)=false):=by
  cases decide (a.tmod 8 < 0) <;> cases decide (b.tmod 8 < 0) <;> simp
 rcases early with (h | ⟨h,h'⟩) | ⟨h,h'⟩
 ·refine DRX.go rfl ?_
  simp -dsimp only [XZ,SZ,EZ,astep,aun,AVal.cells,reduceIte,Nat.reduceEqDiff,Nat.reduceAdd,Nat.reduceLeDiff,abin,h]
  refine DRX.ye rfl rfl ?_
  refine DRX.go rfl ?_
  simp -dsimp only [XZ,SZ,EZ,astep,aun,AVal.cells,reduceIte,Nat.reduceEqDiff,Nat.reduceAdd,Nat.reduceLeDiff]
  refine DRX.nm rfl ?_
  exact DRX.retv ⟨_,by simp [aresult,ares,Env.get] <;> rfl,rfl⟩
 ·refine DRX.go rfl ?_
  simp -dsimp only [XZ,SZ,EZ,astep,aun,AVal.cells,reduceIte,Nat.reduceEqDiff,Nat.reduceAdd,Nat.reduceLeDiff,abin,h,h']
  refine DRX.ye rfl rfl ?_
  refine DRX.go rfl ?_
  simp -dsimp only [XZ,SZ,EZ,astep,aun,AVal.cells,reduceIte,Nat.reduceEqDiff,Nat.reduceAdd,Nat.reduceLeDiff]
  refine DRX.nm rfl ?_
  exact DRX.retv ⟨_,by simp [aresult,ares,Env.get] <;> rfl,rfl⟩
 ·have ha:¬ a.tmod 8 < 0:=of_decide_eq_false h
  have hb:¬ b.tmod 8 < 0:=of_decide_eq_false h'
  have ha8:a.tmod 8 < 8:=Int.tmod_lt_of_pos _ (by omega)
  have hb8:b.tmod 8 < 8:=Int.tmod_lt_of_pos _ (by omega)
  obtain ⟨i,hi⟩:∃ i:Nat,a.tmod 8=(i:Nat):=⟨(a.tmod 8).toNat,by omega⟩
  obtain ⟨j,hj⟩:∃ j:Nat,b.tmod 8=(j:Nat):=⟨(b.tmod 8).toNat,by omega⟩
  have hi8:i < ops8.length:=by show i < 8; omega
  have hj8:j < ops8.length:=by show j < 8; omega
  obtain ⟨x,hx⟩:∃ x,ops8[i]? = some x:=⟨_,List.getElem?_eq_getElem hi8⟩
  obtain ⟨y,hy⟩:∃ y,ops8[j]? = some y:=⟨_,List.getElem?_eq_getElem hj8⟩
  have hxm:=List.mem_of_getElem? hx
  have hym:=List.mem_of_getElem? hy
  obtain ⟨⟨lb,hlb⟩,⟨ib,sb,evb⟩,szb,szx⟩:=okB_of hxm
  obtain ⟨_,_,_,szy⟩:=okB_of hym
  obtain ⟨⟨la,hla⟩,eva,sza⟩:=okA_of hxm hym
  obtain ⟨ix,lx⟩:=rows_at (c:=some 8) hb2 hx
  obtain ⟨iy,ly⟩:=rows_at (c:=some 8) hb2 hy
  have ix:∀ H',aiaddr H' 1 (.sl H1.next 0 8 (some 8)) (.int .i64 (i:Nat))=some (.ptr H1.next i):=ix
  have iy:∀ H',aiaddr H' 1 (.sl H1.next 0 8 (some 8)) (.int .i64 (j:Nat))=some (.ptr H1.next j):=iy
  have sz0:txt0.size=21:=rfl
  have a1:abin .add (.str ⟨#[45,109,111,100,117,108,101,40,109,41,46,32,102,40,41,32,45,62,32,49,32]⟩) (.str x)=some (.str (txt0++x)):=add_str (x:=txt0) (by omega)
  have sz3:(⟨#[32,50,32]⟩:ByteArray).size=3:=rfl
  have sz3':(⟨#[32,51,46]⟩:ByteArray).size=3:=rfl
  have sz1:(⟨#[46]⟩:ByteArray).size=1:=rfl
  have s6:(txt6 x).size=21+x.size+3:=by unfold txt6; rw [size_app,size_app,sz0,sz3]
  have a2:abin .add (.str (txt0++x)) (.str ⟨#[32,50,32]⟩)=some (.str (txt6 x)):=add_str (by rw [size_app]; omega)
  have a3:abin .add (.str (txt6 x)) (.str y)=some (.str (txt6 x++y)):=add_str (by omega)
  have a4:abin .add (.str (txt6 x++y)) (.str ⟨#[32,51,46]⟩)=some (.str (txtA x y)):=add_str (by rw [size_app]; omega)
  have a5:abin .add (.str (txt6 x)) (.str ⟨#[46]⟩)=some (.str (txtB x)):=add_str (by omega)
  have ix0:∀ a b:AVal,([a,b]:List AVal)[0]? = some a:=fun _ _=>rfl
  have ix1:∀ a b:AVal,([a,b]:List AVal)[1]? = some b:=fun _ _=>rfl
  rw [hi] at h; rw [hj] at h'
  simp only [hi,hj]
  have c1:∀ p q:Int,abin .lss (.int .i64 p) (.int .i64 q)=some (.bool (decide (p < q))):=fun _ _=>rfl
  refine DRX.go rfl ?_
  simp -dsimp only [XZ,SZ,EZ,astep,aun,AVal.cells,reduceIte,Nat.reduceEqDiff,Nat.reduceAdd,Nat.reduceLeDiff,c1,h,h']
  refine DRX.ne rfl rfl ?_
  refine DRX.go rfl ?_
  simp -dsimp only [XZ,SZ,EZ,astep,aun,AVal.cells,reduceIte,Nat.reduceEqDiff,Nat.reduceAdd,Nat.reduceLeDiff,ix,lx,a1,a2]
  refine DRX.go rfl ?_
  simp -dsimp only [XZ,SZ,EZ,astep,aun,AVal.cells,reduceIte,Nat.reduceEqDiff,Nat.reduceAdd,Nat.reduceLeDiff,iy,ly,a3,a4]
  refine (g10 (s:=txtA x y) (by omega)).mono ?_
  rintro o H3 ⟨r,v,hp,rfl,ht,k3⟩
  obtain rfl:=hp.flaw hla eva
  obtain ⟨H4,H5,H6,H7,e4,e5,e6,e7,k7,g71,g72,n4⟩:=pair34 (H1:=H3) (x:=v) (i:=0) (e:=24) (p:=((txt6 x).size:Nat)) (ht.one.2 0)
  simp -dsimp only [XZ,SZ,EZ,astep,aun,AVal.cells,reduceIte,Nat.reduceEqDiff,Nat.reduceAdd,Nat.reduceLeDiff,Parsed.root,Parsed.e,Parsed.p,ix0,ix1,e4,e5,e6,e7]
  refine DRX.go rfl ?_
  simp -dsimp only [XZ,SZ,EZ,astep,aun,AVal.cells,reduceIte,Nat.reduceEqDiff,Nat.reduceAdd,Nat.reduceLeDiff,a5]
  refine (g10 (s:=txtB x) (by omega)).mono ?_
  rintro o H8 ⟨r,w,hp2,rfl,ht2,k8⟩
  obtain rfl:=hp2.tree hlb evb
  obtain ⟨H9,H10,H11,H12,e9,e10,e11,e12,k12,g121,g122,n9⟩:=pair34 (H1:=H8) (x:=w) (i:=ib) (e:=0) (p:=0) (ht2.one.2 ib)
  simp -dsimp only [XZ,SZ,EZ,astep,aun,AVal.cells,reduceIte,Nat.reduceEqDiff,Nat.reduceAdd,Nat.reduceLeDiff,Parsed.root,Parsed.e,Parsed.p,ix0,ix1,e9,e10,e11,e12]
  have g1:=(k8.trans k12).get g71
  have g2:=(k8.trans k12).get g72
  have lA:=load_all (n:=2) g2 rfl
  have lB:=load_all (n:=2) g122 rfl
  have l0:=load_cell g1 (o:=0) (v:=v) rfl
  have hlen:=fun H'=>ht.len H'
  simp only [Parsed.nodes] at hlen
  have hl0:∀ H',alenT H' 1 v=some 0:=hlen
  have hls:∀ H',alenT H' 0 (.str (txt6 x))=some (txt6 x).size:=fun _=>rfl
  have hz:afill [.int .i64 0,.int .i64 0] []=some [.int .i64 0,.int .i64 0]:=rfl
  have hz2:afill [.int .i64 0,.int .i64 0] [(0,1,.int .i64 24),(1,1,.int .i64 ((txt6 x).size:Nat))]=some [.int .i64 24,.int .i64 ((txt6 x).size:Nat)]:=rfl
  have hq1:aeqs [1,1] [.int .i64 0,.int .i64 0] [.int .i64 0,.int .i64 0]=some true:=rfl
  have hq2:aeqs [1,1] [.int .i64 24,.int .i64 ((txt6 x).size:Nat)] [.int .i64 24,.int .i64 ((txt6 x).size:Nat)]=some true:=by simp [aeqs]
  have x1:(false ^^ true)=true:=rfl
  have q0:(((0:Nat):Int)==0)=true:=rfl
  have c2:∀ p q:Int,abin .eql (.int .i64 p) (.int .i64 q)=some (.bool (p==q)):=fun _ _=>rfl
  refine DRX.go rfl ?_
  simp -dsimp only [XZ,SZ,EZ,astep,aun,AVal.cells,reduceIte,Nat.reduceEqDiff,Nat.reduceAdd,Nat.reduceLeDiff,lB,Env.parts,hz,hq1,x1,lA,hls,hz2,hq2,l0,hl0,c2,q0]
  refine DRX.nm rfl ?_
  exact DRX.retv ⟨_,by simp [aresult,ares,Env.get] <;> rfl,rfl⟩
end Go.Am.Rl
namespace Go.Am
theorem DCallX.call {P:Program} {f:FuncId} {args:List AVal} {H:AHeap} {Q:AVal→AHeap→Prop} (h:DCallX P f args H fun o H'=>∃ v,o = .ret v∧Q v H'):CallEv P f args H Q:=by
 obtain ⟨o,H1,⟨v,rfl,hq⟩,hc,hd⟩:=h
 intro w ro μ argv hg ha
 refine (hd w ro μ argv hg ha).mono fun e w' ⟨o,H',ro',μ',⟨e1,e2⟩,ho,hg',hout⟩=> ?_
 subst e1; subst e2
 obtain ⟨v',h1,h2⟩:=ho
 exact ⟨v',v,_,ro',μ',h1,hq,h2,hg',hout⟩
end Go.Am
