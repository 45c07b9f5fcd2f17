/- Parts: PX, FnS, PR1, PR2. -/
import Derived.Test.YtcphfgcfmphlfaaDoorPE
import Derived.Test.YtcphfgcfmphlfaaDoorFB
import Derived.Test.YtcphfgcfmphlfaaDoorProg
import Derived.Test.YtcphfgcfmphlfaaDoorPA
set_option linter.unusedVariables false
set_option linter.unusedSimpArgs false
set_option maxRecDepth 20000
namespace Go.Am.Rl
open Go.Proofs
section
variable {c n:Nat} {w:AVal}
theorem RowI.at_ {H:AHeap} {l:List Nat} (h:RowI H w l) {k a:Nat} (ha:l[k]? = some a):∃ id,(∀ H',aiaddr H' 1 w (.int .i64 (k:Nat))=some (.ptr id k))∧∀ {H'},Gro H H'→aload H' none (.ptr id k)=some (.int .i64 (a:Nat)):=by
 have hl:=(List.getElem?_eq_some_iff.mp ha).1
 rcases h with ⟨rfl,rfl⟩ | ⟨id,c,rfl,h⟩
 ·cases ha
 ·refine ⟨id,fun H'=> ?_,fun g=>load_cell (g.get h) (by unfold intsC; rw [List.getElem?_map,ha]; rfl)⟩
  simp only [aiaddr]
  rw [if_pos (by omega)]; simp
theorem gtr64 (p q:Int):abin .gtr (.int .i64 p) (.int .i64 q)=some (.bool (decide (p > q))):=rfl
theorem lss64 (p q:Int):abin .lss (.int .i64 p) (.int .i64 q)=some (.bool (decide (p < q))):=rfl
theorem eql64 (p q:Int):abin .eql (.int .i64 p) (.int .i64 q)=some (.bool (p==q)):=rfl
theorem neq64 (p q:Int):abin .neq (.int .i64 p) (.int .i64 q)=some (.bool (p != q)):=rfl
theorem dlt {p q:Nat} (h:p < q):decide ((p:Int) < (q:Int))=true:=decide_eq_true (by omega)
end
end Go.Am.Rl
namespace Go.Am.Rl
open Go.Proofs
abbrev r11_0:List AOper:=[
 oo 3 (.box 34 (.t 0)) [],
 oo 4 (.box 34 (.t 1)) [],
 oo 6 (.mv (.c (.bool false))) []]
abbrev r11_1:List AOper:=[
 zf 11 1 3 [],
 zl 12 11 [0],
 zf 13 1 4 [],
 zl 14 13 [2],
 oo 15 (.bin .neq (.t 12) (.t 14)) [1,3],
 zm 16 15 [4],
 yf 17 0 3 16 false [5],
 yl 18 17 16 false [6,5],
 og 19 (.len 1 (.t 18)) 16 false [7,5],
 yf 20 0 4 16 false [5],
 yl 21 20 16 false [9,5],
 og 22 (.len 1 (.t 21)) 16 false [10,5],
 og 23 (.bin .neq (.t 19) (.t 22)) 16 false [8,11,5],
 zo 24 16 23 [5,12]]
abbrev r11_2:List AOper:=[
 oo 6 (.mv (.c (.bool false))) []]
abbrev r11_3:List AOper:=[
 zi 7 0 []]
abbrev r11_4:List AOper:=[
 zm 25 7 [],
 zf 26 0 3 [],
 zl 27 26 [1],
 zL 28 1 27 [2],
 oo 29 (.bin .lss (.t 25) (.t 28)) [0,3]]
abbrev r11_6:List AOper:=[
 zf 32 0 3 [],
 zl 33 32 [0],
 zm 34 7 [],
 zd 35 6 33 34 [1,2],
 zr 36 6 35 [3],
 oo 8 (.alloc 42 (.agg [.int .i64 0,.str ⟨#[]⟩,.int .i64 0,.flt .f64 0,.nils,.int .i64 0])) [],
 zs 6 8 36 [5,4,0,1,2,3,4,5]]
abbrev r11_7:List AOper:=[
 zf 37 0 4 [],
 zl 38 37 [0],
 zm 39 7 [],
 zd 40 6 38 39 [1,2],
 zr 41 6 40 [3],
 oo 9 (.alloc 42 (.agg [.int .i64 0,.str ⟨#[]⟩,.int .i64 0,.flt .f64 0,.nils,.int .i64 0])) [],
 zs 6 9 41 [5,4,0,1,2,3,4,5]]
abbrev r11_8:List AOper:=[
 zf 42 0 8 [],
 zl 43 42 [0],
 zf 44 0 9 [],
 zl 45 44 [2],
 oo 46 (.bin .neq (.t 43) (.t 45)) [1,3],
 zm 47 46 [4],
 yf 48 1 8 47 false [5],
 yl 49 48 47 false [6,5],
 yf 50 1 9 47 false [5],
 yl 51 50 47 false [8,5],
 og 52 (.bin .neq (.t 49) (.t 51)) 47 false [7,9,5],
 zo 53 47 52 [5,10],
 zm 54 53 [11,5],
 yf 55 2 8 54 false [12],
 yl 56 55 54 false [13,12],
 yf 57 2 9 54 false [12],
 yl 58 57 54 false [15,12],
 og 59 (.bin .neq (.t 56) (.t 58)) 54 false [14,16,12],
 zo 60 54 59 [12,17],
 zm 61 60 [18,12],
 yf 62 3 8 61 false [19],
 yl 63 62 61 false [20,19],
 og 64 (.ext 0 [(.t 63)]) 61 false [21,19,19],
 yf 65 3 9 61 false [19],
 yl 66 65 61 false [23,19],
 og 67 (.ext 0 [(.t 66)]) 61 false [24,22,19],
 og 68 (.bin .neq (.t 64) (.t 67)) 61 false [22,25,19],
 zo 69 61 68 [19,26],
 zm 70 69 [27,25],
 ym 71 2 70 false [28],
 ym 72 71 70 false [29,28,28],
 yf 73 5 8 72 true [30],
 yl 74 73 72 true [31,30],
 yf 75 5 9 72 true [30],
 yl 76 75 72 true [33,30],
 og 77 (.bin .neq (.t 74) (.t 76)) 72 true [32,34,30],
 og 78 (.pick (.t 72) (.t 77) (.c (.bool false))) 70 false [30,35,28],
 zo 79 70 78 [28,36],
 zm 80 79 [37,30],
 yf 81 4 8 80 false [38],
 yl 82 81 80 false [39,38],
 og 83 (.len 1 (.t 82)) 80 false [40,38],
 yf 84 4 9 80 false [38],
 yl 85 84 80 false [42,38],
 og 86 (.len 1 (.t 85)) 80 false [43,38],
 og 87 (.bin .neq (.t 83) (.t 86)) 80 false [41,44,38],
 zo 88 80 87 [38,45]]
abbrev r11_9:List AOper:=[
 oo 6 (.mv (.c (.bool false))) []]
abbrev r11_10:List AOper:=[
 zi 10 0 []]
abbrev r11_11:List AOper:=[
 zm 89 10 [],
 zf 90 4 8 [],
 zl 91 90 [1],
 zL 92 1 91 [2],
 oo 93 (.bin .lss (.t 89) (.t 92)) [0,3]]
abbrev r11_13:List AOper:=[
 zf 96 4 8 [],
 zl 97 96 [0],
 zm 98 10 [],
 zd 99 1 97 98 [1,2],
 zl 100 99 [3],
 zf 101 4 9 [],
 zl 102 101 [5],
 zm 103 10 [],
 zd 104 1 102 103 [6,7],
 zl 105 104 [8],
 oo 106 (.bin .neq (.t 100) (.t 105)) [4,9]]
abbrev r11_14:List AOper:=[
 oo 6 (.mv (.c (.bool false))) []]
abbrev r11_12:List AOper:=[
 zm 94 10 [],
 za 95 94 1 [0],
 zm 10 95 [1,0,1]]
def l11_0:ACode:=
 .seq (
 .seq (
 .g r11_11 [2,3,4,7,8,9,10,93]) (
 .cond (.t 93) (
  .skip) (
  .exit 2))) (
 .seq (
 .block 3 (
  .seq (
  .region true r11_13 [2,3,4,7,8,9,10,106]) (
  .cond (.t 106) (
   .seq (
   .g r11_14 [6]) (
   .ret)) (
   .skip)))) (
 .g r11_12 [2,3,4,7,8,9,10]))
abbrev r11_5:List AOper:=[
 zm 30 7 [],
 za 31 30 1 [0],
 zm 7 31 [1,0,1]]
def l11_1:ACode:=
 .seq (
 .seq (
 .g r11_4 [2,3,4,7,29]) (
 .cond (.t 29) (
  .skip) (
  .exit 0))) (
 .seq (
 .block 1 (
  .seq (
  .g r11_6 [2,3,4,7,8]) (
  .seq (
  .g r11_7 [2,3,4,7,8,9]) (
  .seq (
  .seq (
  .region true r11_8 [2,3,4,7,8,9,88]) (
  .cond (.t 88) (
   .seq (
   .g r11_9 [6]) (
   .ret)) (
   .skip))) (
  .seq (
  .g r11_10 [2,3,4,7,8,9,10]) (
  .block 2 (
   .loop l11_0))))))) (
 .g r11_5 [2,3,4,7]))
abbrev r11_15:List AOper:=[
 oo 6 (.mv (.c (.bool true))) []]
def m11_8:List Nat:=[0,1,0,4,15,31,63,127,63,319,1023,2047,4095,8191,16383,8191,40959,131071,262143,524287,1048575,2097151,4194303,1048575,9437183,33554431,67108863,134217727,268435455,536870911,1073741823,2147483647,4294967295,2147483647,10737418239,34359738367,68719476735,137438953471,274877906943,549755813887,1099511627775,2199023255551,549755813887,4947802324991,13743895347199,35184372088831,70368744177663]
theorem d11_8:okDraw r11_8 m11_8=true:=by kernel_rfl
def m11_13:List Nat:=[0,1,0,7,15,0,32,0,224,480,1023]
theorem d11_13:okDraw r11_13 m11_13=true:=by kernel_rfl
def k11:List (List Nat):=[[2,3,4],[2,3,4,24],[6],[2,3,4,7],[2,3,4,7,29],[2,3,4,7],[2,3,4,7,8],[2,3,4,7,8,9],[2,3,4,7,8,9,88],[6],[2,3,4,7,8,9,10],[2,3,4,7,8,9,10,93],[2,3,4,7,8,9,10],[2,3,4,7,8,9,10,106],[6],[6]]
def f11:AFunc:={ ntmps:=107,results:=[.tmp 6],body:=(
 .seq (
 .g r11_0 [2,3,4]) (
 .seq (
 .seq (
 .g r11_1 [2,3,4,24]) (
 .cond (.t 24) (
  .seq (
  .g r11_2 [6]) (
  .ret)) (
  .skip))) (
 .seq (
 .seq (
 .g r11_3 [2,3,4,7]) (
 .block 0 (
  .loop l11_1))) (
 .seq (
 .g r11_15 [6]) (
 .ret))))) }
theorem c11:cfunc Tryd.prog (kof k11) Tryd.f11=some f11:=by kernel_rfl
end Go.Am.Rl
namespace Go.Am.Rl
open Go.Proofs
def TK.er (t:TK):TK:={ t with p:=0 }
def ND.er (n:ND):ND:={ n with p:=0 }
def PS.er (st:PS):PS:={ st with nodes:=st.nodes.map ND.er }
def Val.er:Val→Val
 | .d m=>.d m.er
 | .n i=>.n i
 | .l x=>.l x
 | .e k x=>.e k x
def NT.er:NT→NT
 | .moduleL s p l=>.moduleL s 0 l
 | .functionL l p=>.functionL l 0
 | .tail n l=>.tail n.er l
 | .leftL x g a p=>.leftL x.er g a 0
 | .calls a p=>.calls a 0
 | .other n=>.other n.er
 | .partedL x l p=>.partedL x.er l 0
 | .fun_ n=>.fun_ n.er
 | .try_ n=>.try_ n.er
 | .receive n=>.receive n.er
 | .unaryL g=>.unaryL (g.map TK.er)
 | .module=>.module
 | .function=>.function
 | .named=>.named
 | .list e m=>.list e m
 | .some m=>.some m
 | .someL m l=>.someL m l
 | .exprs=>.exprs
 | .body=>.body
 | .expr=>.expr
 | .right x y g=>.right x.er y.er g
 | .left x g=>.left x.er g
 | .either=>.either
 | .both=>.both
 | .compare=>.compare
 | .append=>.append
 | .add=>.add
 | .mul=>.mul
 | .unary=>.unary
 | .call=>.call
 | .primary=>.primary
 | .elements=>.elements
 | .clauses=>.clauses
 | .parted x=>.parted x.er
 | .clause=>.clause
 | .catches=>.catches
 | .fun1=>.fun1
def Out1.er:Out1→Out1
 | .ok v st=>.ok v.er st.er
 | .err e p=>.err e 0
inductive Tw:IT→IT→Prop
 | done {v:Val} {st:PS}:Tw (.done v st) (.done v.er st.er)
 | fail {e p:Int}:Tw (.fail e p) (.fail e 0)
 | call {c:NT} {st:PS} {k k':Val→PS→IT}:(∀ v s,Tw (k v s) (k' v.er s.er))→Tw (.call c st k) (.call c.er st.er k')
section
variable {ts ts':List TK} {st:PS}
theorem Tw.run (h:∀ c st,Tw (rule ts c st) (rule ts' c.er st.er)):∀ (n:Nat) {t t':IT} {o:Out1},Tw t t'→Rl.run ts n t=some o→Rl.run ts' n t'=some o.er
 | 0,_,_,o,.done,e=>by simp only [Rl.run,Option.some.injEq] at e; subst e; rfl
 | n+1,_,_,o,.done,e=>by simp only [Rl.run,Option.some.injEq] at e; subst e; rfl
 | 0,_,_,o,.fail,e=>by simp only [Rl.run,Option.some.injEq] at e; subst e; rfl
 | n+1,_,_,o,.fail,e=>by simp only [Rl.run,Option.some.injEq] at e; subst e; rfl
 | 0,_,_,o,.call _,e=>by simp [Rl.run] at e
 | n+1,_,_,o,.call (c:=c) (st:=st) hk,e=>by
  simp only [Rl.run] at e ⊢
  cases h1:Rl.run ts n (rule ts c st) with
  | none=>rw [h1] at e; cases e
  | some x=>
   rw [h1] at e
   rw [Tw.run h n (h c st) h1]
   cases x with
   | err e1 p1=>simp only [Option.some.injEq] at e; subst e; rfl
   | ok v1 st1=>exact Tw.run h n (hk v1 st1) e
theorem Tw.ev (h:∀ c st,Tw (rule ts c st) (rule ts' c.er st.er)) {c:NT} {st:PS} {o:Out1} (he:Ev ts (rule ts c st) o):Ev ts' (rule ts' c.er st.er) o.er:=by
 obtain ⟨n,he⟩:=he
 exact ⟨n,Tw.run h n (h c st) he⟩
abbrev Same1 (ts ts':List TK):Prop:=∀ i,tk ts' i=(tk ts i).er
theorem isS_er (h:Same1 ts ts') (st:PS) (s:ByteArray):isS ts' st.er s=isS ts st s:=by
 unfold isS; rw [show st.er.at_=st.at_ from rfl,h]; rfl
theorem anyS_er (h:Same1 ts ts') (st:PS):∀ l,anyS ts' st.er l=anyS ts st l
 | []=>rfl
 | s::r=>by unfold anyS; rw [isS_er h,anyS_er h st r]
theorem pos_er (h:Same1 ts ts') (st:PS):pos ts' st.er=0:=by
 unfold pos; rw [show st.er.at_=st.at_ from rfl,h]; rfl
theorem Tw.ite {a:Prop} [Decidable a] {t u t' u':IT} (h1:Tw t t') (h2:Tw u u'):Tw (if a then t else u) (if a then t' else u'):=by
 by_cases h:a
 ·rw [if_pos h,if_pos h]; exact h1
 ·rw [if_neg h,if_neg h]; exact h2
theorem Tw.ifS (h:Same1 ts ts') {s:ByteArray} {t u t' u':IT} (h1:Tw t t') (h2:Tw u u'):Tw (if isS ts st s=true then t else u) (if isS ts' st.er s=true then t' else u'):=by
 rw [isS_er h]; exact Tw.ite h1 h2
theorem Tw.ifA (h:Same1 ts ts') {l:List ByteArray} {s:ByteArray} {t u t' u':IT} (h1:Tw t t') (h2:Tw u u'):Tw (if seq (anyS ts st l) s=true then t else u) (if seq (anyS ts' st.er l) s=true then t' else u'):=by
 rw [anyS_er h]; exact Tw.ite h1 h2
theorem Tw.must (h:Same1 ts ts') {s:ByteArray} {k k':PS→IT} (hk:Tw (k (adv st)) (k' (adv st).er)):Tw (Rl.must ts st s k) (Rl.must ts' st.er s k'):=by
 unfold Rl.must; rw [pos_er h]; exact Tw.ifS h hk .fail
theorem Tw.kind (h:Same1 ts ts') {d:Int} {k k':TK→PS→IT} (hk:Tw (k (tk ts st.at_) (adv st)) (k' (tk ts st.at_).er (adv st).er)):Tw (Rl.kind ts st d k) (Rl.kind ts' st.er d k'):=by
 unfold Rl.kind; rw [pos_er h,show st.er.at_=st.at_ from rfl,h]; exact Tw.ite hk .fail
theorem Tw.lay {m m':ND} {k k':Nat→PS→IT} (hm:m'=m.er) (hk:Tw (k st.nodes.length { st with nodes:=st.nodes++[m] }) (k' st.nodes.length { st with nodes:=st.nodes++[m] }.er)):Tw (Rl.lay st m k) (Rl.lay st.er m' k'):=by
 subst hm
 unfold Rl.lay
 have e1:st.er.nodes.length=st.nodes.length:=by simp [PS.er]
 have e2:({ st.er with nodes:=st.er.nodes++[m.er] }:PS)=({ st with nodes:=st.nodes++[m] }:PS).er:=by simp [PS.er]
 rw [e1,e2]
 exact Tw.ite .fail hk
theorem Tw.callN {c c':NT} {k k':Nat→PS→IT} (hc:c'=c.er) (hk:∀ i s,Tw (k i s) (k' i s.er)):Tw (Rl.callN c st k) (Rl.callN c' st.er k'):=by
 subst hc
 exact Tw.call fun v s=>by cases v <;> first | exact hk _ s | exact .fail
theorem Tw.callL {c c':NT} {k k':List Nat→PS→IT} (hc:c'=c.er) (hk:∀ i s,Tw (k i s) (k' i s.er)):Tw (Rl.callL c st k) (Rl.callL c' st.er k'):=by
 subst hc
 exact Tw.call fun v s=>by cases v <;> first | exact hk _ s | exact .fail
theorem Tw.callD {c c':NT} {k k':ND→PS→IT} (hc:c'=c.er) (hk:∀ i s,Tw (k i s) (k' i.er s.er)):Tw (Rl.callD c st k) (Rl.callD c' st.er k'):=by
 subst hc
 exact Tw.call fun v s=>by cases v <;> first | exact hk _ s | exact .fail
theorem Tw.pass {c c':NT} (hc:c'=c.er):Tw (pass1 c st) (pass1 c' st.er):=by
 subst hc
 exact Tw.call fun v s=>.done
theorem Tw.out {i:Nat}:Tw (.done (.n i) st) (.done (.n i) st.er):=.done (v:=.n i)
theorem Tw.none1 (h:Same1 ts ts') {d:Int} {k k':Nat→PS→IT} (hk:∀ s,Tw (k st.nodes.length s) (k' st.nodes.length s.er)):Tw (Rl.none1 ts st d k) (Rl.none1 ts' st.er d k'):=by
 unfold Rl.none1
 exact Tw.lay (by rw [pos_er h]; rfl) (hk _)
theorem Tw.laySigns:∀ (l:List TK) (a:Nat) (st:PS),Tw (Rl.laySigns l a st) (Rl.laySigns (l.map TK.er) a st.er)
 | [],a,st=>Tw.out
 | t::r,a,st=>Tw.lay rfl (Tw.laySigns r _ _)
theorem tw_try (h:Same1 ts ts') (n:ND):Tw (rule ts (.try_ n) st) (rule ts' (.try_ n.er) st.er):=by
 have k3:∀ (l:List Nat) (m:Int) (s:PS),Tw (must ts s w_end fun s1=>.done (.d { n with k:=16,n:=m,l }) s1) (must ts' s.er w_end fun s1=>.done (.d { n.er with k:=16,n:=m,l }) s1):=fun l m s=>Tw.must h (.done (v:=.d { n with k:=16,n:=m,l }))
 have k2:∀ (c:Bool) (l:List Nat) (s:PS),Tw (if isS ts s w_after=true then callN .body (adv s) fun b s1=>must ts s1 w_end fun s2=>.done (.d { n with k:=16,n:=1,l:=l++[b] }) s2 else if c=true then none1 ts s 19 fun b s1=>must ts s1 w_end fun s2=>.done (.d { n with k:=16,n:=n.n,l:=l++[b] }) s2 else .fail 24 (pos ts s))
   (if isS ts' s.er w_after=true then callN .body (adv s.er) fun b s1=>must ts' s1 w_end fun s2=>.done (.d { n.er with k:=16,n:=1,l:=l++[b] }) s2 else if c=true then none1 ts' s.er 19 fun b s1=>must ts' s1 w_end fun s2=>.done (.d { n.er with k:=16,n:=n.er.n,l:=l++[b] }) s2 else .fail 24 (pos ts' s.er)):=fun c l s=>
  Tw.ifS h (Tw.callN (st:=adv s) rfl fun b s1=>k3 _ _ _) (Tw.ite (Tw.none1 h fun s1=>k3 _ _ _) (by rw [pos_er h]; exact .fail))
 have k1:∀ (l:List Nat) (s:PS),Tw (if isS ts s w_catch=true then callN (.parted .catches) (adv s) fun c s1=>(if isS ts s1 w_after=true then callN .body (adv s1) fun b s2=>must ts s2 w_end fun s3=>.done (.d { n with k:=16,n:=1,l:=(l++[c])++[b] }) s3 else if true=true then none1 ts s1 19 fun b s2=>must ts s2 w_end fun s3=>.done (.d { n with k:=16,n:=n.n,l:=(l++[c])++[b] }) s3 else .fail 24 (pos ts s1)) else none1 ts s 20 fun c s1=>(if isS ts s1 w_after=true then callN .body (adv s1) fun b s2=>must ts s2 w_end fun s3=>.done (.d { n with k:=16,n:=1,l:=(l++[c])++[b] }) s3 else if false=true then none1 ts s1 19 fun b s2=>must ts s2 w_end fun s3=>.done (.d { n with k:=16,n:=n.n,l:=(l++[c])++[b] }) s3 else .fail 24 (pos ts s1)))
   (if isS ts' s.er w_catch=true then callN (.parted .catches) (adv s.er) fun c s1=>(if isS ts' s1 w_after=true then callN .body (adv s1) fun b s2=>must ts' s2 w_end fun s3=>.done (.d { n.er with k:=16,n:=1,l:=(l++[c])++[b] }) s3 else if true=true then none1 ts' s1 19 fun b s2=>must ts' s2 w_end fun s3=>.done (.d { n.er with k:=16,n:=n.er.n,l:=(l++[c])++[b] }) s3 else .fail 24 (pos ts' s1)) else none1 ts' s.er 20 fun c s1=>(if isS ts' s1 w_after=true then callN .body (adv s1) fun b s2=>must ts' s2 w_end fun s3=>.done (.d { n.er with k:=16,n:=1,l:=(l++[c])++[b] }) s3 else if false=true then none1 ts' s1 19 fun b s2=>must ts' s2 w_end fun s3=>.done (.d { n.er with k:=16,n:=n.er.n,l:=(l++[c])++[b] }) s3 else .fail 24 (pos ts' s1))):=fun l s=>
  Tw.ifS h (Tw.callN (st:=adv s) rfl fun c s1=>k2 true _ _) (Tw.none1 h fun s1=>k2 false _ _)
 exact Tw.callN rfl fun b s1=>Tw.ifS h (Tw.callN (st:=adv s1) rfl fun c s2=>k1 _ _) (Tw.none1 h fun s2=>k1 _ _)
theorem tw_receive (h:Same1 ts ts') (n:ND):Tw (rule ts (.receive n) st) (rule ts' (.receive n.er) st.er):=by
 have k3:∀ (l:List Nat) (m:Int) (s:PS),Tw (must ts s w_end fun s1=>.done (.d { n with k:=18,n:=m,l }) s1) (must ts' s.er w_end fun s1=>.done (.d { n.er with k:=18,n:=m,l }) s1):=fun l m s=>Tw.must h (.done (v:=.d { n with k:=18,n:=m,l }))
 have k4:∀ (l:List Nat) (m:Int) (s:PS),Tw (must ts (adv (adv s)) w_arrow fun s1=>callN .body s1 fun b s2=>must ts s2 w_end fun s3=>.done (.d { n with k:=18,n:=m,l:=l++[b] }) s3) (must ts' (adv (adv s.er)) w_arrow fun s1=>callN .body s1 fun b s2=>must ts' s2 w_end fun s3=>.done (.d { n.er with k:=18,n:=m,l:=l++[b] }) s3):=fun l m s=>
  Tw.must (st:=adv (adv s)) h (Tw.callN (st:=adv (adv (adv s))) rfl fun b s2=>k3 _ _ _)
 have k2:∀ (c:Bool) (l:List Nat) (s:PS),Tw (if isS ts s w_after=true then
    (if ((tk ts (s.at_+1)).k==3&&(tk ts (s.at_+1)).n==0)=true then must ts (adv (adv s)) w_arrow fun s1=>callN .body s1 fun b s2=>must ts s2 w_end fun s3=>.done (.d { n with k:=18,n:=1,l:=l++[b] }) s3
    else if ((tk ts (s.at_+1)).k==1&&seq (tk ts (s.at_+1)).s w_infinity)=true then must ts (adv (adv s)) w_arrow fun s1=>callN .body s1 fun b s2=>must ts s2 w_end fun s3=>.done (.d { n with k:=18,n:=2,l:=l++[b] }) s3 else .fail 24 (tk ts (s.at_+1)).p)
    else if c=true then none1 ts s 19 fun b s1=>must ts s1 w_end fun s2=>.done (.d { n with k:=18,n:=n.n,l:=l++[b] }) s2 else .fail 24 (pos ts s))
   (if isS ts' s.er w_after=true then
    (if ((tk ts' (s.er.at_+1)).k==3&&(tk ts' (s.er.at_+1)).n==0)=true then must ts' (adv (adv s.er)) w_arrow fun s1=>callN .body s1 fun b s2=>must ts' s2 w_end fun s3=>.done (.d { n.er with k:=18,n:=1,l:=l++[b] }) s3
    else if ((tk ts' (s.er.at_+1)).k==1&&seq (tk ts' (s.er.at_+1)).s w_infinity)=true then must ts' (adv (adv s.er)) w_arrow fun s1=>callN .body s1 fun b s2=>must ts' s2 w_end fun s3=>.done (.d { n.er with k:=18,n:=2,l:=l++[b] }) s3 else .fail 24 (tk ts' (s.er.at_+1)).p)
    else if c=true then none1 ts' s.er 19 fun b s1=>must ts' s1 w_end fun s2=>.done (.d { n.er with k:=18,n:=n.er.n,l:=l++[b] }) s2 else .fail 24 (pos ts' s.er)):=fun c l s=>by
  rw [show s.er.at_=s.at_ from rfl,h (s.at_+1)]
  exact Tw.ifS h (Tw.ite (k4 _ _ _) (Tw.ite (k4 _ _ _) .fail)) (Tw.ite (Tw.none1 h fun s1=>k3 _ _ _) (by rw [pos_er h]; exact .fail))
 exact Tw.ifS h (Tw.none1 h fun s1=>k2 false _ _) (Tw.callN rfl fun c s1=>k2 true _ _)
theorem tw_tail (h:Same1 ts ts') (n:ND) (l:List Nat):Tw (rule ts (.tail n l) st) (rule ts' (.tail n.er l) st.er):=by
 have fin:∀ (g:Nat) (s:PS),Tw (must ts s w_arrow fun st1=>callN .body st1 fun b st2=>lay st2 { n with n:=(l.length:Nat),l:=l++[g,b] } fun i st3=>.done (.n i) st3) (must ts' s.er w_arrow fun st1=>callN .body st1 fun b st2=>lay st2 { n.er with n:=(l.length:Nat),l:=l++[g,b] } fun i st3=>.done (.n i) st3):=fun g s=>
  Tw.must h (Tw.callN (st:=adv s) rfl fun b st2=>Tw.lay rfl Tw.out)
 exact Tw.ifS h (Tw.callL (st:=adv st) rfl fun g st1=>Tw.lay (by rw [show adv st.er=(adv st).er from rfl,pos_er h]; rfl) (fin _ _)) (Tw.lay (by rw [pos_er h]; rfl) (fin _ _))
theorem tw_expr (h:Same1 ts ts'):Tw (rule ts .expr st) (rule ts' .expr st.er):=by
 have hp:=pos_er h st
 have out:∀ (i:Nat) (s:PS),Tw (.done (.n i) { s with deep:=s.deep - 1 }) (.done (.n i) { s.er with deep:=s.er.deep - 1 }):=fun i s=>.done (v:=.n i) (st:={ s with deep:=s.deep - 1 })
 show Tw (if st.deep=200 then _ else _) (if st.deep=200 then _ else _)
 refine Tw.ite (by rw [hp]; exact .fail) (Tw.ifS (st:={ st with deep:=st.deep+1 }) h ?_ ?_)
 ·exact Tw.callN (st:=adv { st with deep:=st.deep+1 }) rfl fun a st2=>Tw.lay (by rw [hp]; rfl) (out _ _)
 ·refine Tw.callN (st:={ st with deep:=st.deep+1 }) rfl fun a st2=>Tw.ifA h ?_ (Tw.ifA h ?_ (out _ _))
  ·exact Tw.callN (st:=adv st2) rfl fun b st3=>Tw.lay (by rw [hp]; rfl) (out _ _)
  ·exact Tw.callN (st:=adv st2) rfl fun b st3=>Tw.lay (by rw [hp,anyS_er h]; rfl) (out _ _)
theorem tw_other (h:Same1 ts ts') (n:ND):Tw (rule ts (.other n) st) (rule ts' (.other n.er) st.er):=by
 refine Tw.ifA h .fail (Tw.ifA h ?_ (Tw.ifA h ?_ (Tw.ifA h ?_ (Tw.ifA h ?_ (Tw.ifA h ?_ (Tw.ifA h ?_ (Tw.ifA h ?_ (Tw.ifA h ?_ ?_))))))))
 ·exact Tw.callN (st:=adv st) rfl fun a st2=>Tw.must h Tw.out
 ·exact Tw.callL (st:=adv st) rfl fun l st2=>Tw.lay rfl Tw.out
 ·exact Tw.call (st:=adv st) (c:=.elements) fun v st2=>by cases v <;> first | exact .fail | exact Tw.lay rfl Tw.out
 ·exact Tw.callL (st:=adv st) rfl fun l st2=>Tw.must h (Tw.lay rfl Tw.out)
 ·exact Tw.callN (st:=adv st) rfl fun x st2=>Tw.must h (Tw.callN (st:=adv st2) rfl fun c st4=>Tw.must h (Tw.lay rfl Tw.out))
 ·exact Tw.callD (st:=adv st) rfl fun m st2=>Tw.lay rfl Tw.out
 ·exact Tw.callD (st:=adv st) rfl fun m st2=>Tw.lay rfl Tw.out
 ·exact Tw.callD (st:=adv st) rfl fun m st2=>Tw.lay rfl Tw.out
 ·exact Tw.lay (st:=adv st) rfl Tw.out
theorem tw_primary (h:Same1 ts ts'):Tw (rule ts .primary st) (rule ts' .primary st.er):=by
 have hk:=h st.at_
 have out:∀ m m':ND,m'=m.er→Tw (lay (adv st) m fun i st1=>.done (.n i) st1) (lay (adv st.er) m' fun i st1=>.done (.n i) st1):=fun m m' e=>Tw.lay (st:=adv st) e Tw.out
 simp only [rule,show st.er.at_=st.at_ from rfl,hk]
 exact Tw.ite (out _ _ rfl) (Tw.ite (out _ _ rfl) (Tw.ite (out _ _ rfl) (Tw.ite (out _ _ rfl) (Tw.ite (out _ _ rfl) (Tw.pass rfl)))))
theorem tw_catches (h:Same1 ts ts'):Tw (rule ts .catches st) (rule ts' .catches st.er):=by
 have hk:=h st.at_
 have hk1:=h (st.at_+1)
 have out:∀ (m m':ND) (s:PS),m'=m.er→Tw (lay s m fun k s1=>callN .expr s1 fun a s2=>pass1 (.tail (node 21 [] (tk ts st.at_).p) [k,a]) s2) (lay s.er m' fun k s1=>callN .expr s1 fun a s2=>pass1 (.tail (node 21 [] (tk ts st.at_).er.p) [k,a]) s2):=fun m m' s e=>
  Tw.lay e (Tw.callN rfl fun a s2=>Tw.pass rfl)
 simp only [rule,show st.er.at_=st.at_ from rfl,hk,hk1]
 exact Tw.ite (Tw.ite (out _ _ (adv (adv st)) rfl) (Tw.ite (out _ _ (adv (adv st)) rfl) .fail)) (out _ _ st rfl)
theorem tw_fun (h:Same1 ts ts') (n:ND):Tw (rule ts (.fun_ n) st) (rule ts' (.fun_ n.er) st.er):=by
 have hk:=h st.at_
 simp only [rule,show st.er.at_=st.at_ from rfl,hk]
 refine Tw.ite ?_ ?_
 ·exact Tw.must (st:=adv st) h (Tw.kind h (Tw.ite .fail (.done (v:=.d { n with k:=14,s:=(tk ts st.at_).s,n:=_ }))))
 ·exact Tw.callN rfl fun a st1=>Tw.must h (.done (v:=.d { n with k:=13,l:=[a] }))
theorem tw_call (h:Same1 ts ts'):Tw (rule ts .call st) (rule ts' .call st.er):=by
 have hk:=h st.at_
 have hk1:=h (st.at_+1)
 have hp:=pos_er h st
 simp only [rule,show st.er.at_=st.at_ from rfl,hk,hk1,hp]
 refine Tw.ite ?_ ?_
 ·exact Tw.callL (st:=adv (adv st)) rfl fun l st1=>Tw.lay rfl (Tw.pass rfl)
 ·exact Tw.callN rfl fun a st1=>Tw.pass rfl
theorem tw_module (h:Same1 ts ts'):Tw (rule ts .module st) (rule ts' .module st.er):=by
 have hp:=pos_er h st
 simp only [rule,hp]
 refine Tw.must h ?_
 refine Tw.kind h ?_
 refine Tw.ite ?_ .fail
 refine Tw.must h ?_
 refine Tw.kind h ?_
 refine Tw.must h ?_
 refine Tw.must h ?_
 exact Tw.pass rfl
theorem getD_er (st:PS) (i:Nat):st.er.nodes.getD i (node 0 [] 0)=(st.nodes.getD i (node 0 [] 0)).er:=by
 simp only [PS.er,List.getD_eq_getElem?_getD,List.getElem?_map]
 cases st.nodes[i]? <;> rfl
theorem tw_rule (h:Same1 ts ts'):∀ (c:NT) (st:PS),Tw (rule ts c st) (rule ts' c.er st.er):=by
 intro c st
 have hp:=pos_er h st
 have hk:=h st.at_
 cases c with
 | module=>exact tw_module h
 | moduleL s p l=>
  simp only [NT.er,rule,show st.er.at_=st.at_ from rfl,hk]
  exact Tw.ite (Tw.callN rfl fun a st1=>Tw.pass rfl) (Tw.lay rfl Tw.out)
 | function=>exact Tw.callN rfl fun a st1=>Tw.pass (by rw [hp]; rfl)
 | functionL l p=>
  refine Tw.ifS h (Tw.callN (st:=adv st) rfl fun a st1=>Tw.pass rfl) (Tw.lay rfl (Tw.must h (Tw.lay ?_ Tw.out)))
  rw [getD_er]; rfl
 | named=>
  simp only [NT.er,rule]
  refine Tw.kind h ?_
  refine Tw.must h ?_
  exact Tw.callL rfl fun l st1=>Tw.pass rfl
 | list e most=>exact Tw.ifS h (.done (v:=.l []) (st:=adv st)) (Tw.callL rfl fun l st1=>Tw.must h (.done (v:=.l l)))
 | some most=>exact Tw.callN rfl fun a st1=>Tw.pass rfl
 | someL most l=>
  refine Tw.ifS h (Tw.ite ?_ (Tw.callN (st:=adv st) rfl fun a st1=>Tw.pass rfl)) (.done (v:=.l l))
  rw [show adv st.er=(adv st).er from rfl,pos_er h]; exact .fail
 | exprs=>exact Tw.pass rfl
 | tail n l=>exact tw_tail h n l
 | body=>exact Tw.callL rfl fun l st1=>Tw.lay (by rw [hp]; rfl) Tw.out
 | expr=>exact tw_expr h
 | right x y signs=>
  refine Tw.callN rfl fun a st1=>Tw.ifA h Tw.out (Tw.callN (st:=adv st1) rfl fun b st2=>Tw.lay ?_ Tw.out)
  rw [hp,anyS_er h]; rfl
 | left x signs=>exact Tw.callN rfl fun a st1=>Tw.pass (by rw [hp]; rfl)
 | leftL x signs a p=>
  refine Tw.ifA h Tw.out (Tw.callN (st:=adv st) rfl fun b st1=>Tw.lay ?_ (Tw.pass rfl))
  rw [anyS_er h]; rfl
 | either=>exact Tw.pass rfl
 | both=>exact Tw.pass rfl
 | compare=>exact Tw.pass rfl
 | append=>exact Tw.pass rfl
 | add=>exact Tw.pass rfl
 | mul=>exact Tw.pass rfl
 | unary=>exact Tw.pass rfl
 | unaryL signs=>
  refine Tw.ifA h (Tw.callN rfl fun a st1=> ?_) (Tw.pass (st:=adv st) ?_)
  ·rw [← List.map_reverse]; exact Tw.laySigns _ _ _
  ·rw [show st.er.at_=st.at_ from rfl,hk]; simp [NT.er]
 | call=>exact tw_call h
 | calls a p=>exact Tw.ifS h (Tw.callL (st:=adv st) rfl fun l st1=>Tw.lay rfl (Tw.pass rfl)) Tw.out
 | primary=>exact tw_primary h
 | other n=>exact tw_other h n
 | elements=>
  exact Tw.ifS h (.done (v:=.e 7 []) (st:=adv st)) (Tw.callL rfl fun l st1=>Tw.ifS h (Tw.callN (st:=adv st1) rfl fun a st2=>Tw.must h (.done (v:=.e 8 (l++[a])))) (Tw.must h (.done (v:=.e 7 l))))
 | clauses=>exact Tw.pass rfl
 | parted x=>exact Tw.callN rfl fun a st1=>Tw.pass (by rw [hp]; rfl)
 | partedL x l p=>exact Tw.ifS h (Tw.callN (st:=adv st) rfl fun a st1=>Tw.pass rfl) (Tw.lay rfl Tw.out)
 | clause=>exact Tw.callN rfl fun a st1=>Tw.pass (by rw [hp]; rfl)
 | catches=>exact tw_catches h
 | fun1=>
  simp only [NT.er,rule,hp]
  refine Tw.must h ?_
  exact Tw.callL rfl fun l st2=>Tw.pass rfl
 | fun_ n=>exact tw_fun h n
 | try_ n=>exact tw_try h n
 | receive n=>exact tw_receive h n
end
end Go.Am.Rl
namespace Go.Am.Rl
open Go.Proofs
theorem same1_map (ts:List TK):Same1 ts (ts.map TK.er):=by
 intro i
 unfold tk
 simp only [List.getD_eq_getElem?_getD,List.getElem?_map]
 cases ts[i]? <;> rfl
theorem er_node {n n':List ND} (h:n.map ND.er=n'.map ND.er):n.length=n'.length∧∀ (i:Nat) (m:ND),n[i]? = some m→∃ m':ND,n'[i]? = some m'∧m'.k=m.k∧m'.s=m.s∧m'.n=m.n∧m'.f=m.f∧m'.l=m.l:=by
 refine ⟨by have:=congrArg List.length h; simpa using this,fun i m hm=> ?_⟩
 have h1:(n.map ND.er)[i]? = (n'.map ND.er)[i]? :=by rw [h]
 rw [List.getElem?_map,List.getElem?_map,hm] at h1
 cases h2:n'[i]? with
 | none=>rw [h2] at h1; cases h1
 | some m'=>
  rw [h2] at h1
  have h3:m.er=m'.er:=by injection h1
  unfold ND.er at h3
  injection h3 with e1 e2 e3 e4 e5
  exact ⟨m',rfl,e1.symm,e2.symm,e3.symm,e4.symm,e5.symm⟩
theorem TreeR.keep {H H':AHeap} {x:AVal} {nodes:List ND} (h:TreeR H x nodes) (hk:∀ id t cs,t=42∨t=3→H.get id=some (.cells t cs)→H'.get id=some (.cells t cs)):TreeR H' x nodes:=by
 obtain ⟨vs,h1,⟨h2,h3⟩,h4⟩:=h
 refine ⟨vs,h1,⟨h2,?_⟩,fun i n v hn hv=> ?_⟩
 ·rcases h3 with h3 | ⟨id,rfl,h3⟩
  ·exact .inl h3
  ·exact .inr ⟨id,rfl,hk _ _ _ (.inl rfl) h3⟩
 ·rcases h4 i n v hn hv with h5 | ⟨id,c,rfl,h5⟩
  ·exact .inl h5
  ·exact .inr ⟨id,c,rfl,hk _ _ _ (.inr rfl) h5⟩
section
variable {H0:AHeap} {x y w w':AVal} {m m':ND} {b3 b4 b8 b9 i:Nat} {k k':List AItem} {Q:Env→AHeap→Prop}
theorem loop11i (hk:aexitTo 2 k=some k') (hx:RowI H0 w m.l) (hy:RowI H0 w' m.l) (hl:m.l.length≤100000) {H:AHeap} (g:Gro H0 H) (g8:aload H none (.ptr b8 4)=some w) (g9:aload H none (.ptr b9 4)=some w')
  (hend:DR Tryd.prog (kof k11) 107 k' [(2,.bool false),(3,.ptr b3 0),(4,.ptr b4 0),(7,.int .i64 (i:Nat))] H Q) :
  ∀ (d j:Nat),m.l.length - j≤d→j≤m.l.length→DR Tryd.prog (kof k11) 107 (.code l11_0::.inLoop l11_0::k) [(2,.bool false),(3,.ptr b3 0),(4,.ptr b4 0),(7,.int .i64 (i:Nat)),(8,.ptr b8 0),(9,.ptr b9 0),(10,.int .i64 (j:Nat))] H Q:=by
 have hwl:∀ H',alenT H' 1 w=some m.l.length:=fun H'=>hx.alen
 have fin:DR Tryd.prog (kof k11) 107 (.code l11_0::.inLoop l11_0::k) [(2,.bool false),(3,.ptr b3 0),(4,.ptr b4 0),(7,.int .i64 (i:Nat)),(8,.ptr b8 0),(9,.ptr b9 0),(10,.int .i64 (m.l.length:Nat))] H Q:=by
  have hc:decide (((m.l.length:Nat):Int) < ((m.l.length:Nat):Int))=false:=decide_eq_false (by omega)
  refine DR.go rfl ?_
  simp -dsimp only [SZ,EZ,astep,aun,AVal.cells,seval,g8,hwl,abin,hc]
  refine DR.ne rfl rfl ?_
  refine DR.exit (k':=k') (by simpa [aexitTo] using hk) ?_
  exact DR.only [2,3,4,7] hend
 intro d
 induction d with
 | zero=>
  intro j hd hj
  obtain rfl:j=m.l.length:=by omega
  exact fin
 | succ d ih=>
  intro j hd hj
  rcases Nat.lt_or_ge j m.l.length with hlt | hge
  ·obtain ⟨a,ha⟩:∃ a,m.l[j]? = some a:=⟨_,List.getElem?_eq_getElem hlt⟩
   obtain ⟨id1,ix1,ld1⟩:=hx.at_ ha
   obtain ⟨id2,ix2,ld2⟩:=hy.at_ ha
   have ld1:=ld1 g
   have ld2:=ld2 g
   have hc:decide (((j:Nat):Int) < ((m.l.length:Nat):Int))=true:=decide_eq_true (by omega)
   have hw:IntKind.i64.wrap ((j:Int)+1)=((j+1:Nat):Int):=wrap64 (n:=j+1) (by omega)
   refine DR.go rfl ?_
   simp -dsimp only [SZ,EZ,astep,aun,AVal.cells,seval,g8,hwl,abin,hc]
   refine DR.ye rfl rfl ?_
   refine DR.nm rfl ?_
   refine DR.draw (by kernel_rfl) d11_13 ?_
   simp -dsimp only [m11_13,SZ,EZ,astep,aun,AVal.cells,seval,DS_nil,DS_cons,seesAll,staysAll,abit,List.getD_cons_zero,List.getD_cons_succ,AOp.quiet,AOp.reads,true_and,and_true,decide_true,decide_false,and_self,g8,g9,ix1,ix2,ld1,ld2,abin,bne_self_eq_false]
   refine DR.ne rfl rfl ?_
   refine DR.go rfl ?_
   simp -dsimp only [SZ,EZ,astep,aun,AVal.cells,seval,abin_addI,hw]
   refine DR.nm rfl ?_
   refine DR.inLoop ?_
   exact ih (j+1) (by omega) (by omega)
  ·obtain rfl:j=m.l.length:=by omega
   exact fin
set_option maxRecDepth 20000 in
theorem loop11o {nx ny:List ND} {root:Nat} (hk:aexitTo 0 k=some k') (tx:TreeR H0 x nx) (ty:TreeR H0 y ny) (he:nx.map ND.er=ny.map ND.er) (hn:nx.length≤100000) (hll:∀ (i:Nat) (m:ND),nx[i]? = some m→m.l.length≤100000)
  (hend:∀ H,Gro H0 H→DR Tryd.prog (kof k11) 107 k' [(2,.bool false)] H Q) :
  ∀ (d i:Nat) (H:AHeap),nx.length - i≤d→i≤nx.length→Gro H0 H→H0.next≤b3→b3 < b4→H.get b3=some (.cells 34 [x,.int .i64 (root:Nat)])→H.get b4=some (.cells 34 [y,.int .i64 (root:Nat)])→
   DR Tryd.prog (kof k11) 107 (.code l11_1::.inLoop l11_1::k) [(2,.bool false),(3,.ptr b3 0),(4,.ptr b4 0),(7,.int .i64 (i:Nat))] H Q:=by
 obtain ⟨hlen,hnode⟩:=er_node he
 have hxl:∀ H',alenT H' 1 x=some nx.length:=fun H'=>tx.len H'
 have fin:∀ H,Gro H0 H→H.get b3=some (.cells 34 [x,.int .i64 (root:Nat)])→DR Tryd.prog (kof k11) 107 (.code l11_1::.inLoop l11_1::k) [(2,.bool false),(3,.ptr b3 0),(4,.ptr b4 0),(7,.int .i64 (nx.length:Nat))] H Q:=by
  intro H g h3
  have lx:=load_cell h3 (o:=0) (v:=x) rfl
  have hc:decide (((nx.length:Nat):Int) < ((nx.length:Nat):Int))=false:=decide_eq_false (by omega)
  refine DR.go rfl ?_
  simp -dsimp only [SZ,EZ,astep,aun,AVal.cells,seval,lx,hxl,abin,hc]
  refine DR.ne rfl rfl ?_
  refine DR.exit (k':=k') (by simpa [aexitTo] using hk) ?_
  exact DR.only [2] (hend H g)
 intro d
 induction d with
 | zero=>
  intro i H hd hi g hb hbb h3 h4
  obtain rfl:i=nx.length:=by omega
  exact fin H g h3
 | succ d ih=>
  intro i H hd hi g hb hbb h3 h4
  rcases Nat.lt_or_ge i nx.length with hlt | hge
  ·obtain ⟨m,hm⟩:∃ m,nx[i]? = some m:=⟨_,List.getElem?_eq_getElem hlt⟩
   obtain ⟨m',hm',ek,es,en,ef,el⟩:=hnode i m hm
   obtain ⟨i1,o1,w,ix1,hw,ld1⟩:=tx.node hm
   obtain ⟨i2,o2,w',ix2,hw',ld2⟩:=ty.node hm'
   rw [el] at hw'
   obtain ⟨la1,_⟩:=ld1 g
   have lx:=load_cell h3 (o:=0) (v:=x) rfl
   have hc:decide (((i:Nat):Int) < ((nx.length:Nat):Int))=true:=decide_eq_true (by omega)
   have hwr:IntKind.i64.wrap ((i:Int)+1)=((i+1:Nat):Int):=wrap64 (n:=i+1) (by omega)
   have n4:=AHeap.get_lt h4
   obtain ⟨H2,hH2,g2,n2,f2⟩:=psh H (.cells 42 [.int .i64 0,.str ⟨#[]⟩,.int .i64 0,.flt .f64 0,.nils,.int .i64 0])
   have one1:ones (ndC w m)=true:=by rcases hw with ⟨rfl,_⟩ | ⟨id,cc,rfl,_⟩ <;> rfl
   have one2:ones (ndC w' m')=true:=by rcases hw' with ⟨rfl,_⟩ | ⟨id,cc,rfl,_⟩ <;> rfl
   have st2:=store_all (n:=6) g2 (new:=ndC w m) rfl one1 rfl
   obtain ⟨H3,hH3,g3,n3,f3⟩:=upd g2 (.cells 42 (ndC w m))
   have k3:Gro H0 H3:=g.trans ⟨by omega,fun j hj=>by rw [f3 j (by omega),f2 j hj]⟩
   obtain ⟨la2,_⟩:=ld2 k3
   have h43:H3.get b4=some (.cells 34 [y,.int .i64 (root:Nat)]):=by rw [f3 _ (by omega),f2 _ n4]; exact h4
   have h33:H3.get b3=some (.cells 34 [x,.int .i64 (root:Nat)]):=by rw [f3 _ (by omega),f2 _ (by omega)]; exact h3
   have ly:=load_cell h43 (o:=0) (v:=y) rfl
   obtain ⟨H4,hH4,g4,n4',f4⟩:=psh H3 (.cells 42 [.int .i64 0,.str ⟨#[]⟩,.int .i64 0,.flt .f64 0,.nils,.int .i64 0])
   have st4:=store_all (n:=6) g4 (new:=ndC w' m') rfl one2 rfl
   obtain ⟨H5,hH5,g5,n5,f5⟩:=upd g4 (.cells 42 (ndC w' m'))
   have k5:Gro H0 H5:=k3.trans ⟨by omega,fun j hj=>by rw [f5 j (by omega),f4 j hj]⟩
   have h45:H5.get b4=some (.cells 34 [y,.int .i64 (root:Nat)]):=by rw [f5 _ (by omega),f4 _ (by omega)]; exact h43
   have h35:H5.get b3=some (.cells 34 [x,.int .i64 (root:Nat)]):=by rw [f5 _ (by omega),f4 _ (by omega)]; exact h33
   have g35:H5.get H.next=some (.cells 42 (ndC w m)):=by rw [f5 _ (by omega),f4 _ (by omega)]; exact g3
   have a0:=load_cell g35 (o:=0) (v:=.int .i64 m.k) rfl
   have a1:=load_cell g35 (o:=1) (v:=.str m.s) rfl
   have a2:=load_cell g35 (o:=2) (v:=.int .i64 m.n) rfl
   have a3:=load_cell g35 (o:=3) (v:=.flt .f64 m.f) rfl
   have a4:=load_cell g35 (o:=4) (v:=w) rfl
   have b0:=load_cell g5 (o:=0) (v:=.int .i64 m'.k) rfl
   have b1:=load_cell g5 (o:=1) (v:=.str m'.s) rfl
   have b2:=load_cell g5 (o:=2) (v:=.int .i64 m'.n) rfl
   have b3':=load_cell g5 (o:=3) (v:=.flt .f64 m'.f) rfl
   have b4':=load_cell g5 (o:=4) (v:=w') rfl
   rw [ek] at b0
   rw [es] at b1
   rw [en] at b2
   rw [ef] at b3'
   have hwl:∀ H',alenT H' 1 w=some m.l.length:=fun H'=>hw.alen
   have hwl':∀ H',alenT H' 1 w'=some m.l.length:=fun H'=>hw'.alen
   refine DR.go rfl ?_
   simp -dsimp only [SZ,EZ,astep,aun,AVal.cells,seval,lx,hxl,abin,hc]
   refine DR.ye rfl rfl ?_
   refine DR.go rfl ?_
   simp -dsimp only [SZ,EZ,astep,aun,AVal.cells,seval,lx,ix1,la1,← hH2,st2,← hH3]
   refine DR.go rfl ?_
   simp -dsimp only [SZ,EZ,astep,aun,AVal.cells,seval,ly,ix2,la2,← hH4,st4,← hH5]
   refine DR.nm rfl ?_
   refine DR.draw (by kernel_rfl) d11_8 ?_
   simp -dsimp only [m11_8,SZ,EZ,astep,aun,AVal.cells,seval,DS_nil,DS_cons,seesAll,staysAll,abit,List.getD_cons_zero,List.getD_cons_succ,AOp.quiet,AOp.reads,true_and,and_true,decide_true,decide_false,and_self,a0,a1,a2,a3,a4,b0,b1,b2,b3',b4',hwl,hwl',abin,bne_self_eq_false,beq_self_eq_true,Env.vals,aext,aext0,Bool.not_true]
   refine DR.ne rfl rfl ?_
   refine DR.go rfl ?_
   simp -dsimp only [SZ,EZ,astep,aun,AVal.cells,seval]
   refine DR.nm rfl ?_
   refine DR.loop ?_
   refine loop11i (m:=m) rfl hw hw' (hll i m hm) k5 a4 b4' ?_ _ 0 (Nat.le_refl _) (Nat.zero_le _)
   refine DR.go rfl ?_
   simp -dsimp only [SZ,EZ,astep,aun,AVal.cells,seval,abin_addI,hwr]
   refine DR.nm rfl ?_
   refine DR.inLoop ?_
   exact ih (i+1) H5 (by omega) (by omega) k5 hb hbb h35 h45
  ·obtain rfl:i=nx.length:=by omega
   exact fin H g h3
end
theorem g11 {H:AHeap} {x y:AVal} {nx ny:List ND} {root:Nat} (tx:TreeR H x nx) (ty:TreeR H y ny) (he:nx.map ND.er=ny.map ND.er) (hn:nx.length≤100000) (hll:∀ (i:Nat) (m:ND),nx[i]? = some m→m.l.length≤100000) :
  DCall Tryd.prog 11 [.agg [x,.int .i64 (root:Nat)],.agg [y,.int .i64 (root:Nat)],.bool false] H fun a H'=>a = .bool true∧Gro H H':=by
 refine DCall.of_body (fn:=Tryd.f11) (by kernel_rfl) c11 (by kernel_rfl) (by simp [f11]) ?_
 unfold f11
 simp only []
 obtain ⟨H1,hH1,g1,n1,f1⟩:=psh H (.cells 34 [x,.int .i64 (root:Nat)])
 obtain ⟨H2,hH2,g2,n2,f2⟩:=psh H1 (.cells 34 [y,.int .i64 (root:Nat)])
 have g12:H2.get H.next=some (.cells 34 [x,.int .i64 (root:Nat)]):=by rw [f2 _ (by omega)]; exact g1
 have l0:=load_cell g12 (o:=0) (v:=x) rfl
 have l1:=load_cell g12 (o:=1) (v:=.int .i64 (root:Nat)) rfl
 have m0:=load_cell g2 (o:=0) (v:=y) rfl
 have m1:=load_cell g2 (o:=1) (v:=.int .i64 (root:Nat)) rfl
 have hxl:=fun H'=>tx.len H'
 have hyl:=fun H'=>ty.len H'
 rw [← (er_node he).1] at hyl
 refine DR.go rfl ?_
 simp -dsimp only [SZ,EZ,astep,aun,AVal.cells,seval,← hH1,← hH2]
 refine DR.go rfl ?_
 simp -dsimp only [SZ,EZ,astep,aun,AVal.cells,seval,l0,l1,m0,m1,hxl,hyl,abin,bne_self_eq_false]
 refine DR.ne rfl rfl ?_
 refine DR.go rfl ?_
 simp -dsimp only [SZ,EZ,astep,aun,AVal.cells,seval]
 refine DR.nm rfl ?_
 refine DR.loop ?_
 refine loop11o (root:=root) rfl tx ty he hn hll ?_ _ 0 H2 (Nat.le_refl _) (Nat.zero_le _) ⟨by omega,fun j hj=>by rw [f2 j (by omega),f1 j hj]⟩ (Nat.le_refl _) (by omega) g12 g2
 intro H3 g3
 refine DR.go rfl ?_
 simp -dsimp only [SZ,EZ,astep,aun,AVal.cells,seval]
 refine DR.nm rfl ?_
 exact DR.ret ⟨_,by simp [aresult,ares,Env.get] <;> rfl,rfl,g3⟩
end Go.Am.Rl
