/- Parts: Fn4, L4, ZC. -/
import Derived.Test.YtcphfgcfmphlfaaDoorFB
import Derived.Test.YtcphfgcfmphlfaaDoorProg
import Derived.Test.YtcphfgcfmphlfaaDoorBB
import Derived.Test.YtcphfgcfmphlfaaDoorBA
import Derived.Test.YtcphfgcfmphlfaaDoorAmP
set_option linter.unusedVariables false
set_option maxRecDepth 20000
set_option linter.unusedSimpArgs false
namespace Go.Am.Rl
open Go.Proofs
abbrev r4_0:List AOper:=[
 oo 2 (.mv (.c (.bool false))) []]
abbrev r4_1:List AOper:=[
 oo 8 (.callF 8 []) [],
 oo 9 (.un .not (.t 8)) [0]]
abbrev r4_2:List AOper:=[
 oo 2 (.mv (.c (.bool false))) []]
abbrev r4_3:List AOper:=[
 zm 10 0 [],
 zL 11 0 10 [0],
 oo 12 (.bin .gtr (.t 11) (.c (.int .i64 2000))) [1]]
abbrev r4_4:List AOper:=[
 oo 2 (.mv (.c (.bool true))) []]
abbrev r4_5:List AOper:=[
 zm 14 0 [],
 oo 15 (.bin .add (.c (.str ⟨#[45,109,111,100,117,108,101,40,109,41,46,32,102,40,41,32,45,62,32,123]⟩)) (.t 14)) [0],
 oo 16 (.bin .add (.t 15) (.c (.str ⟨#[125,46]⟩))) [1],
 zk 17 10 16 [2],
 zm 13 17 [3],
 zx 18 13 0 [4],
 zx 19 13 1 [4],
 oo 3 (.alloc 34 (.agg [.nils,.int .i64 0])) [],
 oo 4 (.alloc 26 (.agg [.int .i64 0,.int .i64 0])) [],
 zs 2 3 18 [7,5,3,0,1,2,3,4,5,7,8],
 zs 2 4 19 [8,6,9,0,1,2,3,4,5,6,7,8,9]]
abbrev r4_6:List AOper:=[
 zr 20 2 4 [],
 oo 21 (.build [.int .i64 0,.int .i64 0] []) [],
 oo 22 (.eqAgg [1,1] true (.t 20) (.t 21)) [0,1]]
abbrev r4_7:List AOper:=[
 oo 2 (.mv (.c (.bool true))) []]
abbrev r4_8:List AOper:=[
 zf 23 0 3 [],
 zl 24 23 [0],
 zf 25 0 3 [],
 zl 26 25 [2],
 zf 27 1 3 [],
 zl 28 27 [4],
 zd 29 6 26 28 [3,5],
 zf 30 4 29 [6],
 zl 31 30 [7],
 oo 32 (.iaddr 1 (.t 31) (.c (.int .i64 0))) [8],
 zl 33 32 [9],
 zd 34 6 24 33 [1,10],
 zr 35 6 34 [11],
 oo 5 (.alloc 42 (.agg [.int .i64 0,.str ⟨#[]⟩,.int .i64 0,.flt .f64 0,.nils,.int .i64 0])) [],
 zs 6 5 35 [13,12,0,1,2,3,4,5,6,7,8,9,10,11,12,13]]
abbrev r4_9:List AOper:=[
 zf 36 0 3 [],
 zl 37 36 [0],
 zf 38 0 3 [],
 zl 39 38 [2],
 zf 40 0 3 [],
 zl 41 40 [4],
 zf 42 4 5 [],
 zl 43 42 [6],
 oo 44 (.iaddr 1 (.t 43) (.c (.int .i64 0))) [7],
 zl 45 44 [8],
 zd 46 6 41 45 [5,9],
 zf 47 4 46 [10],
 zl 48 47 [11],
 oo 49 (.iaddr 1 (.t 48) (.c (.int .i64 0))) [12],
 zl 50 49 [13],
 zd 51 6 39 50 [3,14],
 zf 52 4 51 [15],
 zl 53 52 [16],
 oo 54 (.iaddr 1 (.t 53) (.c (.int .i64 1))) [17],
 zl 55 54 [18],
 zd 56 6 37 55 [1,19],
 zr 57 6 56 [20],
 oo 6 (.alloc 42 (.agg [.int .i64 0,.str ⟨#[]⟩,.int .i64 0,.flt .f64 0,.nils,.int .i64 0])) [],
 zs 6 6 57 [22,21,0,1,2,3,4,5,6,7,8,9,10,11,12,13,14,15,16,17,18,19,20,21,22]]
abbrev r4_10:List AOper:=[
 zf 58 0 3 [],
 zl 59 58 [0],
 zf 60 1 3 [],
 zl 61 60 [2],
 zd 62 6 59 61 [1,3],
 zf 63 4 62 [4],
 zl 64 63 [5],
 zL 65 1 64 [6],
 oo 66 (.bin .neq (.t 65) (.c (.int .i64 1))) [7],
 zm 67 66 [8],
 yf 68 0 3 67 false [9],
 yl 69 68 67 false [10,9],
 yf 70 4 5 67 false [9],
 yl 71 70 67 false [12,9],
 og 72 (.iaddr 1 (.t 71) (.c (.int .i64 0))) 67 false [13,9],
 yl 73 72 67 false [14,9],
 og 74 (.iaddr 6 (.t 69) (.t 73)) 67 false [11,15,9],
 yf 75 4 74 67 false [16,9],
 yl 76 75 67 false [17,9],
 og 77 (.len 1 (.t 76)) 67 false [18,9],
 og 78 (.bin .neq (.t 77) (.c (.int .i64 1))) 67 false [19,9],
 zo 79 67 78 [9,20],
 zm 80 79 [21,9],
 yf 81 4 6 80 false [22],
 yl 82 81 80 false [23,22],
 og 83 (.len 1 (.t 82)) 80 false [24,22],
 og 84 (.bin .neq (.t 83) (.c (.int .i64 1))) 80 false [25,22],
 zo 85 80 84 [22,26],
 zm 86 85 [27,22],
 yf 87 0 3 86 false [28],
 yl 88 87 86 false [29,28],
 yf 89 4 6 86 false [28],
 yl 90 89 86 false [31,28],
 og 91 (.iaddr 1 (.t 90) (.c (.int .i64 0))) 86 false [32,28],
 yl 92 91 86 false [33,28],
 og 93 (.iaddr 6 (.t 88) (.t 92)) 86 false [30,34,28],
 yf 94 4 93 86 false [35,28],
 yl 95 94 86 false [36,28],
 og 96 (.len 1 (.t 95)) 86 false [37,28],
 og 97 (.bin .neq (.t 96) (.c (.int .i64 1))) 86 false [38,28],
 zo 98 86 97 [28,39],
 zm 99 98 [40,28],
 yf 100 0 3 99 false [41],
 yl 101 100 99 false [42,41],
 yf 102 4 6 99 false [41],
 yl 103 102 99 false [44,41],
 og 104 (.iaddr 1 (.t 103) (.c (.int .i64 0))) 99 false [45,41],
 yl 105 104 99 false [46,41],
 og 106 (.iaddr 6 (.t 101) (.t 105)) 99 false [43,47,41],
 yf 107 0 106 99 false [48,41],
 yl 108 107 99 false [49,41],
 og 109 (.bin .neq (.t 108) (.c (.int .i64 6))) 99 false [50,41],
 zo 110 99 109 [41,51]]
abbrev r4_11:List AOper:=[
 oo 2 (.mv (.c (.bool true))) []]
abbrev r4_12:List AOper:=[
 zm 112 0 [],
 oo 113 (.bin .add (.c (.str ⟨#[45,109,111,100,117,108,101,40,109,41,46,32,102,40,41,32,45,62,32,123,40]⟩)) (.t 112)) [0],
 oo 114 (.bin .add (.t 113) (.c (.str ⟨#[10,41,125,46]⟩))) [1],
 zk 115 10 114 [2],
 zm 111 115 [3],
 zx 116 111 0 [4],
 zx 117 111 1 [4],
 oo 7 (.alloc 34 (.agg [.nils,.int .i64 0])) [],
 zs 2 7 116 [7,5,3,0,1,2,3,4,5,7],
 zs 2 4 117 [6,8,0,1,2,3,4,5,6,7,8]]
abbrev r4_13:List AOper:=[
 zr 118 2 4 [],
 oo 119 (.build [.int .i64 0,.int .i64 0] []) [],
 oo 120 (.eqAgg [1,1] true (.t 118) (.t 119)) [0,1]]
abbrev r4_14:List AOper:=[
 zf 121 0 4 [],
 zl 122 121 [0],
 ze 123 122 25 [1],
 zm 124 123 [2],
 ym 125 0 124 false [3],
 og 126 (.callF 13 [(.t 125)]) 124 false [4,3,3],
 zo 127 124 126 [3,5],
 zm 2 127 [6,5,0,1,2,3,4,5,6]]
abbrev r4_15:List AOper:=[
 zr 128 2 3 [],
 zr 129 2 7 [],
 oo 130 (.callF 11 [(.t 128),(.t 129),(.c (.bool false))]) [0,1],
 zm 2 130 [2,2,0,1,2]]
def m4_8:List Nat:=[0,1,0,4,0,16,60,124,252,508,1020,2047,4095,0,16383]
theorem d4_8:okDraw r4_8 m4_8=true:=by kernel_rfl
def m4_9:List Nat:=[0,1,0,4,0,16,0,64,192,448,1008,2032,4080,8176,16368,32764,65532,131068,262140,524284,1048575,2097151,0,8388607]
theorem d4_9:okDraw r4_9 m4_9=true:=by kernel_rfl
def m4_10:List Nat:=[0,1,0,4,15,31,63,127,255,511,1023,2047,1023,5119,13311,29695,65535,131071,262143,524287,1048575,2097151,4194303,8388607,16777215,33554431,67108863,134217727,268435455,536870911,1073741823,536870911,2684354559,6979321855,15569256447,34359738367,68719476735,137438953471,274877906943,549755813887,1099511627775,2199023255551,4398046511103,8796093022207,4398046511103,21990232555519,57174604644351,127543348822015,281474976710655,562949953421311,1125899906842623,2251799813685247,4503599627370495]
theorem d4_10:okDraw r4_10 m4_10=true:=by kernel_rfl
def k4:List (List Nat):=[[0],[0,9],[2],[0,12],[2],[0,3,4],[0,3,4,22],[2],[0,3,4,5],[0,3,4,5,6],[0,3,4,110],[2],[0,3,4,7],[0,3,4,7,120],[2],[2]]
def f4:AFunc:={ ntmps:=131,results:=[.tmp 2],body:=(
 .seq (
 .g r4_0 [0]) (
 .seq (
 .seq (
 .g r4_1 [0,9]) (
 .cond (.t 9) (
  .seq (
  .g r4_2 [2]) (
  .ret)) (
  .skip))) (
 .seq (
 .seq (
 .g r4_3 [0,12]) (
 .cond (.t 12) (
  .seq (
  .g r4_4 [2]) (
  .ret)) (
  .skip))) (
 .seq (
 .g r4_5 [0,3,4]) (
 .seq (
 .seq (
 .g r4_6 [0,3,4,22]) (
 .cond (.t 22) (
  .seq (
  .g r4_7 [2]) (
  .ret)) (
  .skip))) (
 .seq (
 .region true r4_8 [0,3,4,5]) (
 .seq (
 .region true r4_9 [0,3,4,5,6]) (
 .seq (
 .seq (
 .region true r4_10 [0,3,4,110]) (
 .cond (.t 110) (
  .seq (
  .g r4_11 [2]) (
  .ret)) (
  .skip))) (
 .seq (
 .g r4_12 [0,3,4,7]) (
 .seq (
 .seq (
 .g r4_13 [0,3,4,7,120]) (
 .cond (.t 120) (
  .seq (
  .g r4_14 [2]) (
  .ret)) (
  .skip))) (
 .seq (
 .g r4_15 [2]) (
 .ret)))))))))))) }
theorem c4:cfunc Tryd.prog (kof k4) Tryd.f4=some f4:=by kernel_rfl
abbrev r13_0:List AOper:=[
 oo 2 (.mv (.c (.bool false))) []]
abbrev r13_1:List AOper:=[
 zi 3 0 []]
abbrev r13_2:List AOper:=[
 zm 4 3 [],
 zm 5 0 [],
 zL 6 0 5 [1],
 oo 7 (.bin .lss (.t 4) (.t 6)) [0,2]]
abbrev r13_4:List AOper:=[
 zm 10 0 [],
 zm 11 3 [],
 oo 12 (.idxS (.t 10) (.t 11)) [0,1],
 oo 13 (.bin .eql (.t 12) (.c (.int .u8 37))) [2]]
abbrev r13_5:List AOper:=[
 oo 2 (.mv (.c (.bool true))) []]
abbrev r13_3:List AOper:=[
 zm 8 3 [],
 za 9 8 1 [0],
 zm 3 9 [1,0,1]]
def l13_0:ACode:=
 .seq (
 .seq (
 .g r13_2 [0,3,7]) (
 .cond (.t 7) (
  .skip) (
  .exit 0))) (
 .seq (
 .block 1 (
  .seq (
  .g r13_4 [0,3,13]) (
  .cond (.t 13) (
   .seq (
   .g r13_5 [2]) (
   .ret)) (
   .skip)))) (
 .g r13_3 [0,3]))
abbrev r13_6:List AOper:=[
 oo 2 (.mv (.c (.bool false))) []]
def k13:List (List Nat):=[[0],[0,3],[0,3,7],[0,3],[0,3,13],[2],[2]]
def f13:AFunc:={ ntmps:=14,results:=[.tmp 2],body:=(
 .seq (
 .g r13_0 [0]) (
 .seq (
 .seq (
 .g r13_1 [0,3]) (
 .block 0 (
  .loop l13_0))) (
 .seq (
 .g r13_6 [2]) (
 .ret)))) }
theorem c13:cfunc Tryd.prog (kof k13) Tryd.f13=some f13:=by kernel_rfl
end Go.Am.Rl
namespace Go.Am.Rl
open Go.Proofs
section
variable {H:AHeap} {x:ByteArray} {k:List AItem}
theorem eqlB (p q:Int):abin .eql (.int .u8 p) (.int .u8 q)=some (.bool (p==q)):=rfl
theorem loop13 (hx:x.size≤2000):∀ (d i:Nat),x.size - i≤d→(∃ (q:Nat) (c:UInt8),i≤q∧x[q]? = some c∧((c.toNat:Int)==37)=true)→
  DR Tryd.prog (kof k13) 14 (.code l13_0::.inLoop l13_0::k) [(0,.str x),(3,.int .i64 (i:Nat))] H fun T H'=>∃ r,aresult H' T [.tmp 2]=some r∧r = .bool true∧H'=H:=by
 intro d
 induction d with
 | zero=>
  intro i hd ⟨q,c,h1,h2,_⟩
  have:=size_of_some h2
  omega
 | succ d ih=>
  intro i hd ⟨q,c,h1,h2,h3⟩
  have hq:=size_of_some h2
  obtain ⟨b,hb⟩:=byte_at (show i < x.size by omega)
  have hls:∀ H',alenT H' 0 (.str x)=some x.size:=fun _=>rfl
  have hix:aidxS (.str x) (.int .i64 (i:Nat))=some (.int .u8 (b.toNat:Nat)):=by
   simp only [aidxS]
   rw [if_pos (by omega),Int.toNat_natCast,hb]; rfl
  have hw:IntKind.i64.wrap ((i:Int)+1)=((i+1:Nat):Int):=wrap64 (n:=i+1) (by omega)
  refine DR.go rfl ?_
  simp -dsimp only [SZ,EZ,astep,aun,AVal.cells,seval,hls,lss64,dlt (show i < x.size by omega)]
  refine DR.ye rfl rfl ?_
  cases h37:(((b.toNat:Nat):Int)==37) with
  | true=>
   refine DR.go rfl ?_
   simp -dsimp only [SZ,EZ,astep,aun,AVal.cells,seval,hix,eqlB,h37]
   refine DR.ye rfl rfl ?_
   refine DR.go rfl ?_
   simp -dsimp only [SZ,EZ,astep,aun,AVal.cells,seval]
   refine DR.nm rfl ?_
   exact DR.ret ⟨_,by simp [aresult,ares,Env.get] <;> rfl,rfl,rfl⟩
  | false=>
   refine DR.go rfl ?_
   simp -dsimp only [SZ,EZ,astep,aun,AVal.cells,seval,hix,eqlB,h37]
   refine DR.ne rfl rfl ?_
   refine DR.go rfl ?_
   simp -dsimp only [SZ,EZ,astep,aun,AVal.cells,seval,abin_addI,hw]
   refine DR.nm rfl ?_
   refine DR.inLoop ?_
   refine ih (i+1) (by omega) ⟨q,c,?_,h2,h3⟩
   rcases Nat.lt_or_eq_of_le h1 with h | h
   ·exact h
   ·subst h
    rw [hb] at h2; injection h2 with h2; subst h2
    rw [h37] at h3; cases h3
theorem g13 (hx:x.size≤2000) (h:has37 x):DCall Tryd.prog 13 [.str x] H fun a H'=>a = .bool true∧H'=H:=by
 obtain ⟨q,c,h1,h2⟩:=h
 refine DCall.of_body (fn:=Tryd.f13) (by kernel_rfl) c13 (by kernel_rfl) (by simp [f13]) ?_
 unfold f13
 simp only []
 refine DR.go rfl ?_
 simp -dsimp only [SZ,EZ,astep,aun,AVal.cells,seval]
 refine DR.go rfl ?_
 simp -dsimp only [SZ,EZ,astep,aun,AVal.cells,seval]
 refine DR.nm rfl ?_
 refine DR.loop ?_
 exact loop13 hx x.size 0 (by omega) ⟨q,c,Nat.zero_le _,h1,h2⟩
end
abbrev Q4:AEnd→List ADef→Env→AHeap→Prop:=fun e ds T' H'=>DLeave Tryd.prog [.tmp 2] ds e T' H' fun o _=>o = .ret (.bool true)
abbrev t4c:ACode:=.seq (.g r4_12 [0,3,4,7]) (.seq (.seq (.g r4_13 [0,3,4,7,120]) (.cond (.t 120) (.seq (.g r4_14 [2]) .ret) .skip)) (.seq (.g r4_15 [2]) .ret))
theorem len_ne (n:Nat):(((n+1:Nat):Int) != 1) = !decide (n=0):=by
 by_cases h:n=0
 ·subst h; rfl
 ·rw [decide_eq_false h]; simp; omega
theorem g4e {x:ByteArray} (hx:x.size≤2000) {H1 H9:AHeap} {tx:AVal} {nodes:List ND} {root b3 b4:Nat} {c1 c2:Int} (ht:TreeR H1 tx nodes) (k19:Gro H1 H9) (h3:H1.next≤b3) (h4:H1.next≤b4) (h34:b3≠b4)
  (g3:H9.get b3=some (.cells 34 [tx,.int .i64 (root:Nat)])) (g4:H9.get b4=some (.cells 26 [.int .i64 c1,.int .i64 c2])) (hlen:nodes.length≤100000) (hlens:∀ (i:Nat) (m:ND),nodes[i]? = some m→m.l.length≤100000)
  (hcond:∀ r2,Parses (S2 x) r2→(∃ nodes2,r2 = .tree nodes2 root∧nodes.map ND.er=nodes2.map ND.er)∨∃ er p,r2 = .flaw er p∧er≠0∧(er=25∨has37 x)) :
  DRX Tryd.prog (kof k4) 131 [.code t4c] [] [(0,.str x),(3,.ptr b3 0),(4,.ptr b4 0)] H9 Q4:=by
 have e21:(preT++(⟨#[123,40]⟩:ByteArray))=⟨#[45,109,111,100,117,108,101,40,109,41,46,32,102,40,41,32,45,62,32,123,40]⟩:=by kernel_rfl
 have p21:(⟨#[45,109,111,100,117,108,101,40,109,41,46,32,102,40,41,32,45,62,32,123,40]⟩:ByteArray).size=21:=rfl
 have p4:(⟨#[10,41,125,46]⟩:ByteArray).size=4:=rfl
 have a1:=cat_small (a:=⟨#[45,109,111,100,117,108,101,40,109,41,46,32,102,40,41,32,45,62,32,123,40]⟩) (b:=x) (by omega)
 have a2:=cat_small (a:=⟨#[45,109,111,100,117,108,101,40,109,41,46,32,102,40,41,32,45,62,32,123,40]⟩++x) (b:=⟨#[10,41,125,46]⟩) (by rw [ByteArray.size_append]; omega)
 have hS:(⟨#[45,109,111,100,117,108,101,40,109,41,46,32,102,40,41,32,45,62,32,123,40]⟩++x)++(⟨#[10,41,125,46]⟩:ByteArray)=S2 x:=by unfold S2; rw [e21]
 rw [hS] at a2
 have hsz:(S2 x).size≤5000:=by rw [(at2 x).sz]; omega
 have ix0:∀ a b:AVal,([a,b]:List AVal)[0]? = some a:=fun _ _=>rfl
 have ix1:∀ a b:AVal,([a,b]:List AVal)[1]? = some b:=fun _ _=>rfl
 have hz:afill [.int .i64 0,.int .i64 0] []=some [.int .i64 0,.int .i64 0]:=rfl
 refine DRX.go rfl ?_
 simp -dsimp only [XZ,SZ,EZ,astep,aun,AVal.cells,seval,a1,a2]
 refine (g10 (s:=S2 x) (by omega)).mono ?_
 rintro o H10 ⟨r2,ty,hp2,rfl,ht2,k10⟩
 obtain ⟨H11,hH11,g11',n11,f11⟩:=psh H10 (.cells 34 [.nils,.int .i64 0])
 have s12:=store_all (n:=2) g11' (new:=[ty,.int .i64 (r2.root:Nat)]) rfl (ht2.one.2 r2.root) rfl
 obtain ⟨H12,hH12,g12',n12,f12⟩:=upd g11' (.cells 34 [ty,.int .i64 (r2.root:Nat)])
 have b4l:=AHeap.get_lt g4
 have b3l:=AHeap.get_lt g3
 have k9:=k10.1
 have g412:H12.get b4=some (.cells 26 [.int .i64 c1,.int .i64 c2]):=by rw [f12 _ (by omega),f11 _ (by omega)]; exact k10.get g4
 have s13:=store_all (n:=2) g412 (new:=[.int .i64 r2.e,.int .i64 r2.p]) rfl rfl rfl
 obtain ⟨H13,hH13,g13',n13,f13⟩:=upd g412 (.cells 26 [.int .i64 r2.e,.int .i64 r2.p])
 simp -dsimp only [XZ,SZ,EZ,astep,aun,AVal.cells,seval,ix0,ix1,← hH11,s12,← hH12,s13,← hH13]
 have la:=load_all (n:=2) g13' rfl
 have l0:=load_cell g13' (o:=0) (v:=.int .i64 r2.e) rfl
 have g313:H13.get b3=some (.cells 34 [tx,.int .i64 (root:Nat)]):=by rw [f13 _ h34,f12 _ (by omega),f11 _ (by omega)]; exact k10.get g3
 have g713:H13.get H10.next=some (.cells 34 [ty,.int .i64 (r2.root:Nat)]):=by rw [f13 _ (by omega)]; exact g12'
 have lt1:=load_all (n:=2) g313 rfl
 have lt2:=load_all (n:=2) g713 rfl
 rcases hcond r2 hp2 with ⟨nodes2,rfl,her⟩ | ⟨er,p,rfl,hne,hor⟩
 ·simp only [Parsed.e,Parsed.p,Parsed.root,Parsed.nodes] at la lt2 ht2
  have hq:aeqs [1,1] [.int .i64 0,.int .i64 0] [.int .i64 0,.int .i64 0]=some true:=rfl
  have x1:(true ^^ true)=false:=rfl
  have tx13:TreeR H13 tx nodes:=ht.gro ⟨by have:=k19.1; omega,fun j hj=>by have:=k19.1; rw [f13 j (by omega),f12 j (by omega),f11 j (by omega),k10.2 j (by omega),k19.2 j hj]⟩
  have ty13:TreeR H13 ty nodes2:=by
   refine ht2.keep fun id t cs ht' hg=> ?_
   have hne:id≠b4:=by
    rintro rfl
    rw [k10.get g4] at hg
    injection hg with hg; injection hg with hg
    rcases ht' with rfl | rfl <;> exact absurd hg (by decide)
   have hlt:=AHeap.get_lt hg
   rw [f13 id hne,f12 id (by omega),f11 id hlt]; exact hg
  refine DRX.go rfl ?_
  simp -dsimp only [XZ,SZ,EZ,astep,aun,AVal.cells,seval,la,Env.parts,hz,hq,x1]
  refine DRX.ne rfl rfl ?_
  refine DRX.go rfl ?_
  simp -dsimp only [XZ,SZ,EZ,astep,aun,AVal.cells,seval,lt1,lt2]
  refine DCall.monoX (g11 (root:=root) tx13 ty13 her hlen hlens) ?_
  rintro a H14 ⟨rfl,k14⟩
  simp -dsimp only [XZ,SZ,EZ,astep,aun,AVal.cells,seval]
  refine DRX.nm rfl ?_
  exact DRX.retv ⟨_,by simp [aresult,ares,Env.get] <;> rfl,rfl⟩
 ·simp only [Parsed.e,Parsed.p] at la l0
  have hq:aeqs [1,1] [.int .i64 er,.int .i64 p] [.int .i64 0,.int .i64 0]=some false:=by simp [aeqs,hne]
  have x1:(true ^^ false)=true:=rfl
  refine DRX.go rfl ?_
  simp -dsimp only [XZ,SZ,EZ,astep,aun,AVal.cells,seval,la,Env.parts,hz,hq,x1]
  refine DRX.ye rfl rfl ?_
  by_cases h25:er=25
  ·have e1:(er==25)=true:=by rw [h25]; rfl
   refine DRX.go rfl ?_
   simp -dsimp only [XZ,SZ,EZ,astep,aun,AVal.cells,seval,l0,eql64,e1]
   refine DRX.nm rfl ?_
   exact DRX.retv ⟨_,by simp [aresult,ares,Env.get] <;> rfl,rfl⟩
  ·have e1:(er==25)=false:=by simpa using h25
   refine DRX.go rfl ?_
   simp -dsimp only [XZ,SZ,EZ,astep,aun,AVal.cells,seval,l0,eql64,e1]
   refine DCall.monoX (g13 (H:=H13) hx (hor.resolve_left h25)) ?_
   rintro a H14 ⟨rfl,rfl⟩
   simp -dsimp only [XZ,SZ,EZ,astep,aun,AVal.cells,seval]
   refine DRX.nm rfl ?_
   exact DRX.retv ⟨_,by simp [aresult,ares,Env.get] <;> rfl,rfl⟩
set_option maxRecDepth 20000 in
theorem g4 (H:AHeap) (x:ByteArray):DCallX Tryd.prog 4 [.str x] H fun o H'=>o = .ret (.bool true):=by
 have ix0:∀ a b:AVal,([a,b]:List AVal)[0]? = some a:=fun _ _=>rfl
 have ix1:∀ a b:AVal,([a,b]:List AVal)[1]? = some b:=fun _ _=>rfl
 have hz:afill [.int .i64 0,.int .i64 0] []=some [.int .i64 0,.int .i64 0]:=rfl
 refine DCallX.of_body (fn:=Tryd.f4) (by kernel_rfl) c4 (by kernel_rfl) (by simp [f4]) ?_
 unfold f4
 simp only []
 refine DRX.go rfl ?_
 simp -dsimp only [XZ,SZ,EZ,astep,aun,AVal.cells,seval]
 refine DRX.go rfl ?_
 simp -dsimp only [XZ,SZ,EZ,astep,aun,AVal.cells,seval]
 refine (g8 H).mono ?_
 rintro o H0 ⟨rfl,k0⟩
 simp -dsimp only [XZ,SZ,EZ,astep,aun,AVal.cells,seval,Bool.not_true]
 refine DRX.ne rfl rfl ?_
 have hls:∀ H',alenT H' 0 (.str x)=some x.size:=fun _=>rfl
 by_cases hbig:((x.size:Nat):Int) > 2000
 ·have hb:decide (((x.size:Nat):Int) > 2000)=true:=decide_eq_true hbig
  refine DRX.go rfl ?_
  simp -dsimp only [XZ,SZ,EZ,astep,aun,AVal.cells,seval,hls,gtr64,hb]
  refine DRX.ye rfl rfl ?_
  refine DRX.go rfl ?_
  simp -dsimp only [XZ,SZ,EZ,astep,aun,AVal.cells,seval]
  refine DRX.nm rfl ?_
  exact DRX.retv ⟨_,by simp [aresult,ares,Env.get] <;> rfl,rfl⟩
 have hb:decide (((x.size:Nat):Int) > 2000)=false:=decide_eq_false hbig
 have hx:x.size≤2000:=by omega
 refine DRX.go rfl ?_
 simp -dsimp only [XZ,SZ,EZ,astep,aun,AVal.cells,seval,hls,gtr64,hb]
 refine DRX.ne rfl rfl ?_
 have e20:(preT++w_lb)=⟨#[45,109,111,100,117,108,101,40,109,41,46,32,102,40,41,32,45,62,32,123]⟩:=by kernel_rfl
 have p20:(⟨#[45,109,111,100,117,108,101,40,109,41,46,32,102,40,41,32,45,62,32,123]⟩:ByteArray).size=20:=rfl
 have p2:(⟨#[125,46]⟩:ByteArray).size=2:=rfl
 have a1:=cat_small (a:=⟨#[45,109,111,100,117,108,101,40,109,41,46,32,102,40,41,32,45,62,32,123]⟩) (b:=x) (by omega)
 have a2:=cat_small (a:=⟨#[45,109,111,100,117,108,101,40,109,41,46,32,102,40,41,32,45,62,32,123]⟩++x) (b:=⟨#[125,46]⟩) (by rw [ByteArray.size_append]; omega)
 have hS:(⟨#[45,109,111,100,117,108,101,40,109,41,46,32,102,40,41,32,45,62,32,123]⟩++x)++(⟨#[125,46]⟩:ByteArray)=S1 x:=by unfold S1; rw [e20]
 rw [hS] at a2
 have hsz:(S1 x).size≤5000:=by rw [(at1 x).sz]; omega
 refine DRX.go rfl ?_
 simp -dsimp only [XZ,SZ,EZ,astep,aun,AVal.cells,seval,a1,a2]
 refine (g10 (s:=S1 x) (by omega)).mono ?_
 rintro o H1 ⟨r,tx,hp,rfl,ht,k1⟩
 obtain ⟨H2,H3,H4,H5,e2,e3,e4,e5,k5,g51,g52,n2⟩:=pair34 (H1:=H1) (x:=tx) (i:=r.root) (e:=r.e) (p:=r.p) (ht.one.2 r.root)
 simp -dsimp only [XZ,SZ,EZ,astep,aun,AVal.cells,seval,ix0,ix1,e2,e3,e4,e5]
 have lB:=load_all (n:=2) g52 rfl
 cases r with
 | flaw e p=>
  have hne:=hp.flaw_ne
  simp only [Parsed.e,Parsed.p] at lB
  have hq:aeqs [1,1] [.int .i64 e,.int .i64 p] [.int .i64 0,.int .i64 0]=some false:=by simp [aeqs,hne]
  have x1:(true ^^ false)=true:=rfl
  refine DRX.go rfl ?_
  simp -dsimp only [XZ,SZ,EZ,astep,aun,AVal.cells,seval,lB,Env.parts,hz,hq,x1]
  refine DRX.ye rfl rfl ?_
  refine DRX.go rfl ?_
  simp -dsimp only [XZ,SZ,EZ,astep,aun,AVal.cells,seval]
  refine DRX.nm rfl ?_
  exact DRX.retv ⟨_,by simp [aresult,ares,Env.get] <;> rfl,rfl⟩
 | tree nodes root=>
  obtain ⟨hlen,hlens,f,fs,cl,c,cs,b,a,az,mR,mF,mC,mK,mB,A,b1,b1l,b2',b2l,b3',b3l,b4',b4l,b5',b5l,b6',hcond⟩:=brackets hx hp
  simp only [Parsed.nodes,Parsed.root,Parsed.e,Parsed.p] at lB ht g51 g52
  have hq:aeqs [1,1] [.int .i64 0,.int .i64 0] [.int .i64 0,.int .i64 0]=some true:=rfl
  have x1:(true ^^ true)=false:=rfl
  refine DRX.go rfl ?_
  simp -dsimp only [XZ,SZ,EZ,astep,aun,AVal.cells,seval,lB,Env.parts,hz,hq,x1]
  refine DRX.ne rfl rfl ?_
  obtain ⟨iR,oR,wR,ixR,rowR,ldR⟩:=ht.node b1
  obtain ⟨iF,oF,wF,ixF,rowF,ldF⟩:=ht.node b2'
  obtain ⟨iC,oC,wC,ixC,rowC,ldC⟩:=ht.node b3'
  obtain ⟨iK,oK,wK,ixK,rowK,ldK⟩:=ht.node b4'
  obtain ⟨iB,oB,wB,ixB,rowB,ldB⟩:=ht.node b5'
  obtain ⟨iA,oA,wA,ixA,rowA,ldA⟩:=ht.node b6'
  obtain ⟨jR,jxR,jlR⟩:=rowR.at_ (k:=0) (a:=f) (by rw [b1l]; rfl)
  obtain ⟨jF,jxF,jlF⟩:=rowF.at_ (k:=0) (a:=cl) (by rw [b2l]; rfl)
  obtain ⟨jC,jxC,jlC⟩:=rowC.at_ (k:=0) (a:=c) (by rw [b3l]; rfl)
  obtain ⟨jK,jxK,jlK⟩:=rowK.at_ (k:=1) (a:=b) (by rw [b4l]; rfl)
  obtain ⟨jB,jxB,jlB⟩:=rowB.at_ (k:=0) (a:=a) (by rw [b5l]; rfl)
  have jxR:∀ H',aiaddr H' 1 wR (.int .i64 0)=some (.ptr jR 0):=jxR
  have jxF:∀ H',aiaddr H' 1 wF (.int .i64 0)=some (.ptr jF 0):=jxF
  have jxC:∀ H',aiaddr H' 1 wC (.int .i64 0)=some (.ptr jC 0):=jxC
  have jxK:∀ H',aiaddr H' 1 wK (.int .i64 1)=some (.ptr jK 1):=jxK
  have jxB:∀ H',aiaddr H' 1 wB (.int .i64 0)=some (.ptr jB 0):=jxB
  have l0:=load_cell g51 (o:=0) (v:=tx) rfl
  have l1:=load_cell g51 (o:=1) (v:=.int .i64 (root:Nat)) rfl
  obtain ⟨_,_,_,_,_,dR4,_⟩:=ldR k5
  obtain ⟨dFa,_⟩:=ldF k5
  have dRf:=jlR k5
  have oneF:ones (ndC wF mF)=true:=by rcases rowF with ⟨rfl,_⟩ | ⟨id,cc,rfl,_⟩ <;> rfl
  have oneB:ones (ndC wB mB)=true:=by rcases rowB with ⟨rfl,_⟩ | ⟨id,cc,rfl,_⟩ <;> rfl
  obtain ⟨H6,hH6,g6,n6,f6⟩:=psh H5 (.cells 42 [.int .i64 0,.str ⟨#[]⟩,.int .i64 0,.flt .f64 0,.nils,.int .i64 0])
  have s7:=store_all (n:=6) g6 (new:=ndC wF mF) rfl oneF rfl
  obtain ⟨H7,hH7,g7,n7,f7⟩:=upd g6 (.cells 42 (ndC wF mF))
  have k57:Gro H5 H7:=⟨by omega,fun j hj=>by rw [f7 j (by omega),f6 j hj]⟩
  have k17:=k5.trans k57
  have k56:Gro H5 H6:=⟨by omega,f6⟩
  have k16:=k5.trans k56
  have l06:=load_cell (k56.get g51) (o:=0) (v:=tx) rfl
  have l16:=load_cell (k56.get g51) (o:=1) (v:=.int .i64 (root:Nat)) rfl
  obtain ⟨_,_,_,_,_,dR46,_⟩:=ldR k16
  obtain ⟨dFa6,_⟩:=ldF k16
  have dRf6:=jlR k16
  refine DRX.nm rfl ?_
  refine DRX.draw (by kernel_rfl) d4_8 ?_
  simp -dsimp only [m4_8,YZ,XZ,SZ,EZ,astep,aun,AVal.cells,seval,DS_nil,DS_cons,seesAll,staysAll,abit,List.getD_cons_zero,List.getD_cons_succ,AOp.quiet,AOp.reads,true_and,and_true,decide_true,decide_false,and_self,l0,l1,ixR,dR4,jxR,dRf,ixF,dFa,l06,l16,dR46,dFa6,dRf6,Option.bind_some,← hH6,s7,← hH7]
  have l07:=load_cell (k57.get g51) (o:=0) (v:=tx) rfl
  have v57:=load_cell g7 (o:=4) (v:=wF) rfl
  obtain ⟨_,_,_,_,_,dC4,_⟩:=ldC k17
  obtain ⟨_,_,_,_,_,dK4,_⟩:=ldK k17
  obtain ⟨dBa,_⟩:=ldB k17
  have dFc:=jlF k17
  have dCc:=jlC k17
  have dKb:=jlK k17
  obtain ⟨H8,hH8,g8',n8,f8⟩:=psh H7 (.cells 42 [.int .i64 0,.str ⟨#[]⟩,.int .i64 0,.flt .f64 0,.nils,.int .i64 0])
  have s9:=store_all (n:=6) g8' (new:=ndC wB mB) rfl oneB rfl
  obtain ⟨H9,hH9,g9',n9,f9⟩:=upd g8' (.cells 42 (ndC wB mB))
  have k79:Gro H7 H9:=⟨by omega,fun j hj=>by rw [f9 j (by omega),f8 j hj]⟩
  have k59:=k57.trans k79
  have k19:=k5.trans k59
  have k78:Gro H7 H8:=⟨by omega,f8⟩
  have k18:=k17.trans k78
  have l08:=load_cell ((k57.trans k78).get g51) (o:=0) (v:=tx) rfl
  have v58:=load_cell (k78.get g7) (o:=4) (v:=wF) rfl
  obtain ⟨_,_,_,_,_,dC48,_⟩:=ldC k18
  obtain ⟨_,_,_,_,_,dK48,_⟩:=ldK k18
  obtain ⟨dBa8,_⟩:=ldB k18
  have dFc8:=jlF k18
  have dCc8:=jlC k18
  have dKb8:=jlK k18
  refine DRX.nm rfl ?_
  refine DRX.draw (by kernel_rfl) d4_9 ?_
  simp -dsimp only [m4_9,YZ,XZ,SZ,EZ,astep,aun,AVal.cells,seval,DS_nil,DS_cons,seesAll,staysAll,abit,List.getD_cons_zero,List.getD_cons_succ,AOp.quiet,AOp.reads,true_and,and_true,decide_true,decide_false,and_self,l07,v57,jxF,dFc,ixC,dC4,jxC,dCc,ixK,dK4,jxK,dKb,ixB,dBa,l08,v58,dC48,dK48,dBa8,dFc8,dCc8,dKb8,Option.bind_some,← hH8,s9,← hH9]
  have l09:=load_cell (k59.get g51) (o:=0) (v:=tx) rfl
  have l19:=load_cell (k59.get g51) (o:=1) (v:=.int .i64 (root:Nat)) rfl
  have v59:=load_cell (k79.get g7) (o:=4) (v:=wF) rfl
  have v69:=load_cell g9' (o:=4) (v:=wB) rfl
  obtain ⟨_,_,_,_,_,eR4,_⟩:=ldR k19
  obtain ⟨_,_,_,_,_,eC4,_⟩:=ldC k19
  obtain ⟨_,eAk,eAk',_,_,eA4,_⟩:=ldA k19
  have eFc:=jlF k19
  have eBa:=jlB k19
  have nR:∀ H',alenT H' 1 wR=some (fs.length+1):=fun H'=>by rw [rowR.alen,b1l]; rfl
  have nC:∀ H',alenT H' 1 wC=some (cs.length+1):=fun H'=>by rw [rowC.alen,b3l]; rfl
  have nB:∀ H',alenT H' 1 wB=some (az.length+1):=fun H'=>by rw [rowB.alen,b5l]; rfl
  have nA:∀ H',alenT H' 1 wA=some A.l.length:=fun H'=>rowA.alen
  have qR:=len_ne fs.length
  have qC:=len_ne cs.length
  have qB:=len_ne az.length
  by_cases z1:fs.length=0
  case neg=>
   rw [decide_eq_false z1] at qR
   have qR:(((fs.length+1:Nat):Int) != 1)=true:=qR
   refine DRX.nm rfl ?_
   refine DRX.draw (by kernel_rfl) d4_10 ?_
   simp -dsimp only [m4_10,YZ,XZ,SZ,EZ,astep,aun,AVal.cells,seval,DS_nil,DS_cons,seesAll,staysAll,abit,List.getD_cons_zero,List.getD_cons_succ,AOp.quiet,AOp.reads,true_and,and_true,decide_true,decide_false,and_self,l09,l19,ixR,eR4,nR,neq64,qR]
   refine DRX.ye rfl rfl ?_
   refine DRX.go rfl ?_
   simp -dsimp only [XZ,SZ,EZ,astep,aun,AVal.cells,seval]
   refine DRX.nm rfl ?_
   exact DRX.retv ⟨_,by simp [aresult,ares,Env.get] <;> rfl,rfl⟩
  rw [decide_eq_true z1] at qR
  have qR:(((fs.length+1:Nat):Int) != 1)=false:=qR
  by_cases z2:cs.length=0
  case neg=>
   rw [decide_eq_false z2] at qC
   have qC:(((cs.length+1:Nat):Int) != 1)=true:=qC
   refine DRX.nm rfl ?_
   refine DRX.draw (by kernel_rfl) d4_10 ?_
   simp -dsimp only [m4_10,YZ,XZ,SZ,EZ,astep,aun,AVal.cells,seval,DS_nil,DS_cons,seesAll,staysAll,abit,List.getD_cons_zero,List.getD_cons_succ,AOp.quiet,AOp.reads,true_and,and_true,decide_true,decide_false,and_self,l09,l19,ixR,eR4,nR,neq64,qR,v59,jxF,eFc,ixC,eC4,nC,qC]
   refine DRX.ye rfl rfl ?_
   refine DRX.go rfl ?_
   simp -dsimp only [XZ,SZ,EZ,astep,aun,AVal.cells,seval]
   refine DRX.nm rfl ?_
   exact DRX.retv ⟨_,by simp [aresult,ares,Env.get] <;> rfl,rfl⟩
  rw [decide_eq_true z2] at qC
  have qC:(((cs.length+1:Nat):Int) != 1)=false:=qC
  by_cases z3:az.length=0
  case neg=>
   rw [decide_eq_false z3] at qB
   have qB:(((az.length+1:Nat):Int) != 1)=true:=qB
   refine DRX.nm rfl ?_
   refine DRX.draw (by kernel_rfl) d4_10 ?_
   simp -dsimp only [m4_10,YZ,XZ,SZ,EZ,astep,aun,AVal.cells,seval,DS_nil,DS_cons,seesAll,staysAll,abit,List.getD_cons_zero,List.getD_cons_succ,AOp.quiet,AOp.reads,true_and,and_true,decide_true,decide_false,and_self,l09,l19,ixR,eR4,nR,neq64,qR,v59,jxF,eFc,ixC,eC4,nC,qC,v69,nB,qB]
   refine DRX.ye rfl rfl ?_
   refine DRX.go rfl ?_
   simp -dsimp only [XZ,SZ,EZ,astep,aun,AVal.cells,seval]
   refine DRX.nm rfl ?_
   exact DRX.retv ⟨_,by simp [aresult,ares,Env.get] <;> rfl,rfl⟩
  rw [decide_eq_true z3] at qB
  have qB:(((az.length+1:Nat):Int) != 1)=false:=qB
  by_cases z4:A.l.length=1
  case neg=>
   have qA:(((A.l.length:Nat):Int) != 1)=true:=by rw [bne_iff_ne]; omega
   refine DRX.nm rfl ?_
   refine DRX.draw (by kernel_rfl) d4_10 ?_
   simp -dsimp only [m4_10,YZ,XZ,SZ,EZ,astep,aun,AVal.cells,seval,DS_nil,DS_cons,seesAll,staysAll,abit,List.getD_cons_zero,List.getD_cons_succ,AOp.quiet,AOp.reads,true_and,and_true,decide_true,decide_false,and_self,l09,l19,ixR,eR4,nR,neq64,qR,v59,jxF,eFc,ixC,eC4,nC,qC,v69,nB,qB,jxB,eBa,ixA,eA4,nA,qA]
   refine DRX.ye rfl rfl ?_
   refine DRX.go rfl ?_
   simp -dsimp only [XZ,SZ,EZ,astep,aun,AVal.cells,seval]
   refine DRX.nm rfl ?_
   exact DRX.retv ⟨_,by simp [aresult,ares,Env.get] <;> rfl,rfl⟩
  have qA:(((A.l.length:Nat):Int) != 1)=false:=by rw [z4]; rfl
  by_cases z5:A.k=6
  case neg=>
   have qk:(A.k != 6)=true:=by rw [bne_iff_ne]; exact z5
   refine DRX.nm rfl ?_
   refine DRX.draw (by kernel_rfl) d4_10 ?_
   simp -dsimp only [m4_10,YZ,XZ,SZ,EZ,astep,aun,AVal.cells,seval,DS_nil,DS_cons,seesAll,staysAll,abit,List.getD_cons_zero,List.getD_cons_succ,AOp.quiet,AOp.reads,true_and,and_true,decide_true,decide_false,and_self,l09,l19,ixR,eR4,nR,neq64,qR,v59,jxF,eFc,ixC,eC4,nC,qC,v69,nB,qB,jxB,eBa,ixA,eA4,nA,qA,eAk,eAk',qk]
   refine DRX.ye rfl rfl ?_
   refine DRX.go rfl ?_
   simp -dsimp only [XZ,SZ,EZ,astep,aun,AVal.cells,seval]
   refine DRX.nm rfl ?_
   exact DRX.retv ⟨_,by simp [aresult,ares,Env.get] <;> rfl,rfl⟩
  have qk:(A.k != 6)=false:=by rw [z5]; rfl
  refine DRX.nm rfl ?_
  refine DRX.draw (by kernel_rfl) d4_10 ?_
  simp -dsimp only [m4_10,YZ,XZ,SZ,EZ,astep,aun,AVal.cells,seval,DS_nil,DS_cons,seesAll,staysAll,abit,List.getD_cons_zero,List.getD_cons_succ,AOp.quiet,AOp.reads,true_and,and_true,decide_true,decide_false,and_self,l09,l19,ixR,eR4,nR,neq64,qR,v59,jxF,eFc,ixC,eC4,nC,qC,v69,nB,qB,jxB,eBa,ixA,eA4,nA,qA,eAk,eAk',qk]
  refine DRX.ne rfl rfl ?_
  refine DRX.skip (DRX.only [0,3,4] ?_)
  exact g4e hx ht k19 (Nat.le_refl _) (by omega) (by omega) (k59.get g51) (k59.get g52) hlen hlens (hcond (List.eq_nil_of_length_eq_zero z1) (List.eq_nil_of_length_eq_zero z2) (List.eq_nil_of_length_eq_zero z3) z5 z4)
end Go.Am.Rl
namespace Go.Am
theorem DCallX.call {P:Program} {f:FuncId} {args:List AVal} {H:AHeap} {Q:AVal→AHeap→Prop} (h:DCallX P f args H fun o H'=>∃ v,o = .ret v∧Q v H'):CallEv P f args H Q:=by
 obtain ⟨o,H1,⟨v,rfl,hq⟩,hc,hd⟩:=h
 intro w ro μ argv hg ha
 refine (hd w ro μ argv hg ha).mono fun e w' ⟨o,H',ro',μ',⟨e1,e2⟩,ho,hg',hout⟩=> ?_
 subst e1; subst e2
 obtain ⟨v',h1,h2⟩:=ho
 exact ⟨v',v,_,ro',μ',h1,hq,h2,hg',hout⟩
end Go.Am
