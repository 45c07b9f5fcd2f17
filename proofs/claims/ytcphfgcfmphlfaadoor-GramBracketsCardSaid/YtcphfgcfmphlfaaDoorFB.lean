/- Parts: FnG. -/
import Derived.Test.YtcphfgcfmphlfaaDoorFA
import Derived.Test.YtcphfgcfmphlfaaDoorProg
set_option linter.unusedVariables false
set_option maxRecDepth 20000
namespace Go.Am.Rl
open Go.Proofs
abbrev r10_0:List AOper:=[
 oo 2 (.alloc 34 (.agg [.nils,.int .i64 0])) [],
 oo 3 (.alloc 26 (.agg [.int .i64 0,.int .i64 0])) []]
abbrev r10_1:List AOper:=[
 zm 8 0 [],
 zk 9 9 8 [0],
 zm 7 9 [1],
 zx 10 7 0 [2],
 zx 11 7 1 [2],
 zm 4 10 [3,1,0,1,2,3],
 zs 2 3 11 [4,5,0,1,2,3,4,5]]
abbrev r10_2:List AOper:=[
 zf 12 0 3 [],
 zl 13 12 [0],
 oo 14 (.bin .neq (.t 13) (.c (.int .i64 0))) [1]]
abbrev r10_3:List AOper:=[
 oo 15 (.build [.nils,.int .i64 0] []) [],
 zr 16 2 3 [],
 zs 2 2 15 [0,0],
 zs 2 3 16 [1,2,0,1,2]]
abbrev r10_4:List AOper:=[
 oo 17 (.mkfn (.func 20) [] [(.t 2),(.t 3)]) [],
 on (.dfr (.t 17) []) [0]]
abbrev r10_5:List AOper:=[
 zm 18 4 [],
 oo 19 (.build [.nils,.int .i64 0,.int .i64 0,.nils] [(0,1,(.t 18))]) [0],
 oo 20 (.box 61 (.t 19)) [1],
 zm 5 20 [2,0,1,2]]
abbrev r10_6:List AOper:=[
 zm 21 5 [],
 zk 22 21 21 [0],
 zm 6 22 [1,1,0,1]]
abbrev r10_7:List AOper:=[
 zm 23 5 [],
 zn 24 23 [0],
 zf 25 3 24 [1],
 zl 26 25 [2],
 zm 27 6 [],
 oo 28 (.build [.nils,.int .i64 0] [(0,1,(.t 26)),(1,1,(.t 27))]) [3,4],
 oo 29 (.build [.int .i64 0,.int .i64 0] []) [],
 zs 2 2 28 [5,0,1,2,3,4,5],
 zs 2 3 29 [6,7,0,1,2,3,4,5,6,7]]
def m10_3:List Nat:=[0,0,1,7]
theorem d10_3:okDraw r10_3 m10_3=true:=by kernel_rfl
def k10:List (List Nat):=[[0,2,3],[2,3,4],[2,3,4,14],[2,3],[2,3,4],[2,3,5],[2,3,5,6],[2,3]]
def f10:AFunc:={ ntmps:=30,results:=[.cell 2 (some 2),.cell 3 (some 2)],body:=(
 .seq (
 .g r10_0 [0,2,3]) (
 .seq (
 .g r10_1 [2,3,4]) (
 .seq (
 .seq (
 .g r10_2 [2,3,4,14]) (
 .cond (.t 14) (
  .seq (
  .region true r10_3 [2,3]) (
  .ret)) (
  .skip))) (
 .seq (
 .g r10_4 [2,3,4]) (
 .seq (
 .g r10_5 [2,3,5]) (
 .seq (
 .g r10_6 [2,3,5,6]) (
 .seq (
 .g r10_7 [2,3]) (
 .ret)))))))) }
theorem c10:cfunc Tryd.prog (kof k10) Tryd.f10=some f10:=by kernel_rfl
abbrev r20_0:List AOper:=[
 oo 5 .recov []]
abbrev r20_3:List AOper:=[
 oo 7 (.eqN 4 false (.t 5) (.c (.nili))) []]
abbrev r20_4:List AOper:=[
 zm 2 5 []]
abbrev r20_5:List AOper:=[
 oo 8 (.tassert 26 (.agg [.int .i64 0,.int .i64 0]) true (.t 5)) [],
 zx 9 8 1 [0],
 zx 10 8 0 [0]]
abbrev r20_6:List AOper:=[
 oo 3 (.alloc 26 (.agg [.int .i64 0,.int .i64 0])) [],
 zs 2 3 10 [0,0]]
abbrev r20_7:List AOper:=[
 oo 11 (.build [.nils,.int .i64 0] []) [],
 zr 12 2 3 [],
 zs 2 0 11 [0,0],
 zs 2 1 12 [1,2,0,1,2]]
abbrev r20_1:List AOper:=[
 zm 4 5 []]
abbrev r20_2:List AOper:=[
 zm 6 4 [],
 on (.pan (.t 6)) [0]]
def m20_7:List Nat:=[0,0,1,7]
theorem d20_7:okDraw r20_7 m20_7=true:=by kernel_rfl
def k20:List (List Nat):=[[0,1,5],[4],[],[0,1,5,7],[],[0,1,5,9,10],[0,1,3],[]]
def f20:AFunc:={ ntmps:=13,results:=[],body:=(
 .seq (
 .g r20_0 [0,1,5]) (
 .block 0 (
  .seq (
  .g r20_3 [0,1,5,7]) (
  .cond (.t 7) (
   .g r20_4 []) (
   .seq (
   .g r20_5 [0,1,5,9,10]) (
   .cond (.t 9) (
    .seq (
    .g r20_6 [0,1,3]) (
    .region true r20_7 [])) (
    .seq (
    .g r20_1 [4]) (
    .g r20_2 [])))))))) }
theorem c20:cfunc Tryd.prog (kof k20) Tryd.f20=some f20:=by kernel_rfl
abbrev r21_0:List AOper:=[
 zi 2 0 []]
abbrev r21_1:List AOper:=[
 zm 7 0 [],
 zk 8 33 7 [0],
 zm 3 8 [1,1,0,1]]
abbrev r21_2:List AOper:=[
 zm 9 0 [],
 oo 10 (.callF 34 [(.t 9),(.c (.str ⟨#[45]⟩))]) [0]]
abbrev r21_3:List AOper:=[
 zm 11 0 [],
 oo 12 (.callF 35 [(.t 11),(.c (.int .i64 1))]) [0],
 oo 4 (.alloc 31 (.agg [.int .i64 0,.str ⟨#[]⟩,.int .i64 0,.flt .f64 0,.int .i64 0])) [],
 zs 5 4 12 [2,1,1,0,1,2]]
abbrev r21_4:List AOper:=[
 zf 13 1 4 [],
 zl 14 13 [0],
 oo 15 (.bin .neq (.t 14) (.c (.str ⟨#[109,111,100,117,108,101]⟩))) [1]]
abbrev r21_5:List AOper:=[
 zf 16 4 4 [],
 zl 17 16 [0],
 oo 18 (.callF 36 [(.c (.int .i64 24)),(.t 17)]) [1]]
abbrev r21_6:List AOper:=[
 zm 19 0 [],
 oo 20 (.callF 34 [(.t 19),(.c (.str ⟨#[40]⟩))]) [0]]
abbrev r21_7:List AOper:=[
 zm 21 0 [],
 oo 22 (.callF 35 [(.t 21),(.c (.int .i64 1))]) [0],
 oo 23 (.fld 1 none (.t 22)) [1],
 zm 5 23 [2,1,0,1,2]]
abbrev r21_8:List AOper:=[
 zm 24 0 [],
 oo 25 (.callF 34 [(.t 24),(.c (.str ⟨#[41]⟩))]) [0]]
abbrev r21_9:List AOper:=[
 zm 26 0 [],
 oo 27 (.callF 34 [(.t 26),(.c (.str ⟨#[46]⟩))]) [0]]
abbrev r21_10:List AOper:=[
 oo 6 (.mv (.c (.nils))) []]
abbrev r21_11:List AOper:=[
 zm 28 0 [],
 zk 29 37 28 [0],
 oo 30 (.fld 0 none (.t 29)) [1],
 oo 31 (.bin .neq (.t 30) (.c (.int .i64 8))) [2]]
abbrev r21_12:List AOper:=[
 zm 32 6 [],
 zm 33 0 [],
 zk 34 38 33 [1],
 oo 35 (.bslice 3 1 [.int .i64 0] [(0,1,(.t 34))]) [2],
 oo 36 (.app 3 1 8 (.t 32) (.t 35)) [0,3,2],
 zm 6 36 [4,4,0,1,2,3,4]]
def l21_0:ACode:=
 .seq (
 .seq (
 .g r21_11 [0,3,5,6,31]) (
 .cond (.t 31) (
  .skip) (
  .exit 0))) (
 .block 1 (
  .g r21_12 [0,3,5,6]))
abbrev r21_13:List AOper:=[
 zm 37 0 [],
 zm 38 5 [],
 zm 39 6 [],
 zm 40 3 [],
 oo 41 (.build [.int .i64 0,.str ⟨#[]⟩,.int .i64 0,.flt .f64 0,.nils,.int .i64 0] [(0,1,(.c (.int .i64 24))),(1,1,(.t 38)),(4,1,(.t 39)),(5,1,(.t 40))]) [1,2,3],
 zq 42 39 37 41 [0,4],
 zm 2 42 [5,5,0,1,2,3,4,5]]
def k21:List (List Nat):=[[0],[0,3],[0,3],[0,3,4],[0,3,4,15],[0,3],[0,3],[0,3,5],[0,3,5],[0,3,5],[0,3,5,6],[0,3,5,6,31],[0,3,5,6],[2]]
def f21:AFunc:={ ntmps:=43,results:=[.tmp 2],body:=(
 .seq (
 .g r21_0 [0]) (
 .seq (
 .g r21_1 [0,3]) (
 .seq (
 .g r21_2 [0,3]) (
 .seq (
 .seq (
 .g r21_3 [0,3,4]) (
 .seq (
 .g r21_4 [0,3,4,15]) (
 .cond (.t 15) (
  .g r21_5 [0,3]) (
  .skip)))) (
 .seq (
 .g r21_6 [0,3]) (
 .seq (
 .g r21_7 [0,3,5]) (
 .seq (
 .g r21_8 [0,3,5]) (
 .seq (
 .g r21_9 [0,3,5]) (
 .seq (
 .g r21_10 [0,3,5,6]) (
 .seq (
 .block 0 (
  .loop l21_0)) (
 .seq (
 .g r21_13 [2]) (
 .ret)))))))))))) }
theorem c21:cfunc Tryd.prog (kof k21) Tryd.f21=some f21:=by kernel_rfl
abbrev r33_0:List AOper:=[
 zi 2 0 []]
abbrev r33_1:List AOper:=[
 zm 3 0 [],
 zk 4 37 3 [0],
 oo 5 (.fld 4 none (.t 4)) [1],
 zm 2 5 [2,1,0,1,2]]
def k33:List (List Nat):=[[0],[2]]
def f33:AFunc:={ ntmps:=6,results:=[.tmp 2],body:=(
 .seq (
 .g r33_0 [0]) (
 .seq (
 .g r33_1 [2]) (
 .ret))) }
theorem c33:cfunc Tryd.prog (kof k33) Tryd.f33=some f33:=by kernel_rfl
abbrev r34_0:List AOper:=[
 zm 4 0 [],
 zm 5 1 [],
 zq 6 45 4 5 [0,1],
 oo 7 (.un .not (.t 6)) [2]]
abbrev r34_1:List AOper:=[
 zm 8 0 [],
 zk 9 33 8 [0],
 oo 10 (.callF 36 [(.c (.int .i64 24)),(.t 9)]) [1,1]]
def k34:List (List Nat):=[[0,7],[]]
def f34:AFunc:={ ntmps:=11,results:=[],body:=(
 .seq (
 .g r34_0 [0,7]) (
 .cond (.t 7) (
  .g r34_1 []) (
  .skip))) }
theorem c34:cfunc Tryd.prog (kof k34) Tryd.f34=some f34:=by kernel_rfl
abbrev r35_0:List AOper:=[
 oo 4 (.alloc 31 (.agg [.int .i64 0,.str ⟨#[]⟩,.int .i64 0,.flt .f64 0,.int .i64 0])) []]
abbrev r35_1:List AOper:=[
 zm 6 0 [],
 zk 7 37 6 [0],
 oo 5 (.alloc 31 (.agg [.int .i64 0,.str ⟨#[]⟩,.int .i64 0,.flt .f64 0,.int .i64 0])) [],
 zs 5 5 7 [2,1,1,0,1,2]]
abbrev r35_2:List AOper:=[
 zf 8 0 5 [],
 zl 9 8 [0],
 zm 10 1 [],
 oo 11 (.bin .neq (.t 9) (.t 10)) [1,2]]
abbrev r35_3:List AOper:=[
 zf 12 4 5 [],
 zl 13 12 [0],
 oo 14 (.callF 36 [(.c (.int .i64 24)),(.t 13)]) [1]]
abbrev r35_4:List AOper:=[
 zm 15 0 [],
 zn 16 15 [0],
 zf 17 1 16 [1],
 zl 18 17 [2],
 za 19 18 1 [3],
 zn 20 15 [0,0,1,2,3,4],
 zf 21 1 20 [5,0,1,2,3,4],
 zs 1 21 19 [6,4,0,1,2,3,4]]
abbrev r35_5:List AOper:=[
 zr 22 5 5 [],
 zs 5 4 22 [0,0]]
def k35:List (List Nat):=[[0,1,4],[0,1,4,5],[0,4,5,11],[0,4,5],[4,5],[4]]
def f35:AFunc:={ ntmps:=23,results:=[.cell 4 (some 5)],body:=(
 .seq (
 .g r35_0 [0,1,4]) (
 .seq (
 .g r35_1 [0,1,4,5]) (
 .seq (
 .seq (
 .g r35_2 [0,4,5,11]) (
 .cond (.t 11) (
  .g r35_3 [0,4,5]) (
  .skip))) (
 .seq (
 .g r35_4 [4,5]) (
 .seq (
 .g r35_5 [4]) (
 .ret)))))) }
theorem c35:cfunc Tryd.prog (kof k35) Tryd.f35=some f35:=by kernel_rfl
abbrev r36_0:List AOper:=[
 zm 4 0 [],
 zm 5 1 [],
 oo 6 (.build [.int .i64 0,.int .i64 0] [(0,1,(.t 4)),(1,1,(.t 5))]) [0,1],
 oo 7 (.mkifc 26 (.t 6)) [2],
 on (.pan (.t 7)) [3]]
def k36:List (List Nat):=[[]]
def f36:AFunc:={ ntmps:=8,results:=[],body:=(
 .g r36_0 []) }
theorem c36:cfunc Tryd.prog (kof k36) Tryd.f36=some f36:=by kernel_rfl
abbrev r37_0:List AOper:=[
 oo 2 (.alloc 31 (.agg [.int .i64 0,.str ⟨#[]⟩,.int .i64 0,.flt .f64 0,.int .i64 0])) []]
abbrev r37_1:List AOper:=[
 zm 3 0 [],
 zn 4 3 [0],
 zf 5 0 4 [1],
 zl 6 5 [2],
 zm 7 0 [],
 zn 8 7 [4],
 zf 9 1 8 [5],
 zl 10 9 [6],
 zd 11 5 6 10 [3,7],
 zr 12 5 11 [8],
 zs 5 2 12 [9,0,1,2,3,4,5,6,7,8,9]]
def m37_1:List Nat:=[0,1,3,7,0,16,48,112,255,511,1023]
theorem d37_1:okDraw r37_1 m37_1=true:=by kernel_rfl
def k37:List (List Nat):=[[0,2],[2]]
def f37:AFunc:={ ntmps:=13,results:=[.cell 2 (some 5)],body:=(
 .seq (
 .g r37_0 [0,2]) (
 .seq (
 .region true r37_1 [2]) (
 .ret))) }
theorem c37:cfunc Tryd.prog (kof k37) Tryd.f37=some f37:=by kernel_rfl
abbrev r38_0:List AOper:=[
 zi 2 0 []]
abbrev r38_1:List AOper:=[
 zm 7 0 [],
 zk 8 33 7 [0],
 zm 3 8 [1,1,0,1]]
abbrev r38_2:List AOper:=[
 zm 9 0 [],
 zk 10 46 9 [0],
 oo 11 (.bslice 3 1 [.int .i64 0] [(0,1,(.t 10))]) [1],
 zm 4 11 [2,1,0,1,2]]
abbrev r38_3:List AOper:=[
 zm 12 0 [],
 oo 13 (.callF 45 [(.t 12),(.c (.str ⟨#[59]⟩))]) [0]]
abbrev r38_4:List AOper:=[
 zm 14 4 [],
 zm 15 0 [],
 zk 16 46 15 [1],
 oo 17 (.bslice 3 1 [.int .i64 0] [(0,1,(.t 16))]) [2],
 oo 18 (.app 3 1 8 (.t 14) (.t 17)) [0,3,2],
 zm 4 18 [4,4,0,1,2,3,4]]
def l38_0:ACode:=
 .seq (
 .seq (
 .g r38_3 [0,3,4,13]) (
 .cond (.t 13) (
  .skip) (
  .exit 0))) (
 .block 1 (
  .g r38_4 [0,3,4]))
abbrev r38_5:List AOper:=[
 zm 19 0 [],
 zn 20 19 [0],
 zf 21 3 20 [1],
 zl 22 21 [2],
 zm 23 4 [],
 oo 24 (.iaddr 1 (.t 23) (.c (.int .i64 0))) [4],
 zl 25 24 [5],
 zd 26 6 22 25 [3,6],
 zr 27 6 26 [7],
 oo 5 (.alloc 42 (.agg [.int .i64 0,.str ⟨#[]⟩,.int .i64 0,.flt .f64 0,.nils,.int .i64 0])) [],
 zs 6 5 27 [9,8,0,1,2,3,4,5,6,7,8,9]]
abbrev r38_6:List AOper:=[
 zm 28 0 [],
 zm 29 4 [],
 zm 30 3 [],
 oo 31 (.build [.int .i64 0,.str ⟨#[]⟩,.int .i64 0,.flt .f64 0,.nils,.int .i64 0] [(0,1,(.c (.int .i64 20))),(4,1,(.t 29)),(5,1,(.t 30))]) [1,2],
 zq 32 39 28 31 [0,3],
 zm 6 32 [4,4,0,1,2,3,4]]
abbrev r38_7:List AOper:=[
 zm 33 0 [],
 oo 34 (.callF 34 [(.t 33),(.c (.str ⟨#[46]⟩))]) [0]]
abbrev r38_8:List AOper:=[
 zm 35 0 [],
 zf 36 1 5 [],
 zl 37 36 [1],
 zf 38 2 5 [],
 zl 39 38 [3],
 zm 40 6 [],
 oo 41 (.bslice 3 1 [.int .i64 0] [(0,1,(.t 40))]) [5],
 zm 42 3 [],
 oo 43 (.build [.int .i64 0,.str ⟨#[]⟩,.int .i64 0,.flt .f64 0,.nils,.int .i64 0] [(0,1,(.c (.int .i64 23))),(1,1,(.t 37)),(2,1,(.t 39)),(4,1,(.t 41)),(5,1,(.t 42))]) [2,4,6,7],
 zq 44 39 35 43 [0,8],
 zm 2 44 [9,9,0,1,2,3,4,5,6,7,8,9]]
def m38_5:List Nat:=[0,1,3,7,0,16,48,127,255,0,1023]
theorem d38_5:okDraw r38_5 m38_5=true:=by kernel_rfl
def k38:List (List Nat):=[[0],[0,3],[0,3,4],[0,3,4,13],[0,3,4],[0,3,4,5],[0,3,5,6],[0,3,5,6],[2]]
def f38:AFunc:={ ntmps:=45,results:=[.tmp 2],body:=(
 .seq (
 .g r38_0 [0]) (
 .seq (
 .g r38_1 [0,3]) (
 .seq (
 .g r38_2 [0,3,4]) (
 .seq (
 .block 0 (
  .loop l38_0)) (
 .seq (
 .region true r38_5 [0,3,4,5]) (
 .seq (
 .g r38_6 [0,3,5,6]) (
 .seq (
 .g r38_7 [0,3,5,6]) (
 .seq (
 .g r38_8 [2]) (
 .ret))))))))) }
theorem c38:cfunc Tryd.prog (kof k38) Tryd.f38=some f38:=by kernel_rfl
abbrev r39_0:List AOper:=[
 oo 3 (.box 42 (.t 1)) [],
 zi 4 0 []]
abbrev r39_1:List AOper:=[
 zm 5 0 [],
 zn 6 5 [0],
 zf 7 3 6 [1],
 zl 8 7 [2],
 zL 9 1 8 [3],
 ze 10 9 16384 [4]]
abbrev r39_2:List AOper:=[
 zf 11 5 3 [],
 zl 12 11 [0],
 oo 13 (.callF 36 [(.c (.int .i64 2)),(.t 12)]) [1]]
abbrev r39_3:List AOper:=[
 zm 14 0 [],
 zm 15 0 [],
 zn 16 15 [1],
 zf 17 3 16 [2],
 zl 18 17 [3],
 zr 19 6 3 [],
 oo 20 (.bslice 42 1 [.int .i64 0,.str ⟨#[]⟩,.int .i64 0,.flt .f64 0,.nils,.int .i64 0] [(0,6,(.t 19))]) [5],
 oo 21 (.app 42 6 72 (.t 18) (.t 20)) [4,6],
 zn 22 14 [0,0,1,2,3,4,5,6,7],
 zf 23 3 22 [8,0,1,2,3,4,5,6,7],
 zs 1 23 21 [9,7,7,0,1,2,3,4,5,6,7]]
abbrev r39_4:List AOper:=[
 zm 24 0 [],
 zn 25 24 [0],
 zf 26 3 25 [1],
 zl 27 26 [2],
 zL 28 1 27 [3],
 oo 29 (.bin .sub (.t 28) (.c (.int .i64 1))) [4],
 zm 4 29 [5,0,1,2,3,4,5]]
def m39_3:List Nat:=[0,0,2,6,14,0,32,126,255,511,1023]
theorem d39_3:okDraw r39_3 m39_3=true:=by kernel_rfl
def k39:List (List Nat):=[[0,3],[0,3,10],[0,3],[0],[4]]
def f39:AFunc:={ ntmps:=30,results:=[.tmp 4],body:=(
 .seq (
 .g r39_0 [0,3]) (
 .seq (
 .seq (
 .g r39_1 [0,3,10]) (
 .cond (.t 10) (
  .g r39_2 [0,3]) (
  .skip))) (
 .seq (
 .region true r39_3 [0]) (
 .seq (
 .g r39_4 [4]) (
 .ret))))) }
theorem c39:cfunc Tryd.prog (kof k39) Tryd.f39=some f39:=by kernel_rfl
abbrev r45_0:List AOper:=[
 oo 4 (.mv (.c (.bool false))) []]
abbrev r45_1:List AOper:=[
 zm 5 0 [],
 zm 6 1 [],
 zq 7 53 5 6 [0,1],
 oo 8 (.un .not (.t 7)) [2]]
abbrev r45_2:List AOper:=[
 oo 4 (.mv (.c (.bool false))) []]
abbrev r45_3:List AOper:=[
 zm 9 0 [],
 zn 10 9 [0],
 zf 11 1 10 [1],
 zl 12 11 [2],
 za 13 12 1 [3],
 zn 14 9 [0,0,1,2,3,4],
 zf 15 1 14 [5,0,1,2,3,4],
 zs 1 15 13 [6,4,0,1,2,3,4]]
abbrev r45_4:List AOper:=[
 oo 4 (.mv (.c (.bool true))) []]
def k45:List (List Nat):=[[0,1],[0,8],[4],[],[4]]
def f45:AFunc:={ ntmps:=16,results:=[.tmp 4],body:=(
 .seq (
 .g r45_0 [0,1]) (
 .seq (
 .seq (
 .g r45_1 [0,8]) (
 .cond (.t 8) (
  .seq (
  .g r45_2 [4]) (
  .ret)) (
  .skip))) (
 .seq (
 .g r45_3 []) (
 .seq (
 .g r45_4 [4]) (
 .ret))))) }
theorem c45:cfunc Tryd.prog (kof k45) Tryd.f45=some f45:=by kernel_rfl
abbrev r46_0:List AOper:=[
 zi 2 0 []]
abbrev r46_1:List AOper:=[
 zm 5 0 [],
 oo 6 (.callF 35 [(.t 5),(.c (.int .i64 1))]) [0],
 oo 3 (.alloc 31 (.agg [.int .i64 0,.str ⟨#[]⟩,.int .i64 0,.flt .f64 0,.int .i64 0])) [],
 zs 5 3 6 [2,1,1,0,1,2]]
abbrev r46_2:List AOper:=[
 zm 7 0 [],
 oo 8 (.callF 34 [(.t 7),(.c (.str ⟨#[40]⟩))]) [0]]
abbrev r46_3:List AOper:=[
 zm 9 0 [],
 oo 10 (.callF 54 [(.t 9),(.c (.str ⟨#[41]⟩)),(.c (.int .i64 16))]) [0],
 zm 4 10 [1,1,0,1]]
abbrev r46_4:List AOper:=[
 zm 11 0 [],
 zf 12 1 3 [],
 zl 13 12 [1],
 zf 14 4 3 [],
 zl 15 14 [3],
 oo 16 (.build [.int .i64 0,.str ⟨#[]⟩,.int .i64 0,.flt .f64 0,.nils,.int .i64 0] [(0,1,(.c (.int .i64 21))),(1,1,(.t 13)),(5,1,(.t 15))]) [2,4],
 zm 17 4 [],
 oo 18 (.callF 55 [(.t 11),(.t 16),(.t 17)]) [0,5,6],
 zm 2 18 [7,7,0,1,2,3,4,5,6,7]]
def k46:List (List Nat):=[[0],[0,3],[0,3],[0,3,4],[2]]
def f46:AFunc:={ ntmps:=19,results:=[.tmp 2],body:=(
 .seq (
 .g r46_0 [0]) (
 .seq (
 .g r46_1 [0,3]) (
 .seq (
 .g r46_2 [0,3]) (
 .seq (
 .g r46_3 [0,3,4]) (
 .seq (
 .g r46_4 [2]) (
 .ret)))))) }
theorem c46:cfunc Tryd.prog (kof k46) Tryd.f46=some f46:=by kernel_rfl
abbrev r53_0:List AOper:=[
 oo 4 (.mv (.c (.bool false))) []]
abbrev r53_1:List AOper:=[
 zm 6 0 [],
 zk 7 37 6 [0],
 oo 5 (.alloc 31 (.agg [.int .i64 0,.str ⟨#[]⟩,.int .i64 0,.flt .f64 0,.int .i64 0])) [],
 zs 5 5 7 [2,1,1,0,1,2]]
abbrev r53_2:List AOper:=[
 zf 8 0 5 [],
 zl 9 8 [0],
 ze 10 9 6 [1],
 zm 11 10 [2],
 yf 12 0 5 11 false [3],
 yl 13 12 11 false [4,3],
 og 14 (.bin .eql (.t 13) (.c (.int .i64 7))) 11 false [5,3],
 zo 15 11 14 [3,6],
 zm 16 15 [7,3],
 yf 17 1 5 16 true [8],
 yl 18 17 16 true [9,8],
 ym 19 1 16 true [8],
 og 20 (.bin .eql (.t 18) (.t 19)) 16 true [10,11,8],
 zp 21 16 20 [8,12],
 zm 4 21 [13,8,0,1,2,3,4,5,6,7,8,9,10,11,12,13]]
def k53:List (List Nat):=[[0,1],[1,5],[4]]
def f53:AFunc:={ ntmps:=22,results:=[.tmp 4],body:=(
 .seq (
 .g r53_0 [0,1]) (
 .seq (
 .g r53_1 [1,5]) (
 .seq (
 .g r53_2 [4]) (
 .ret)))) }
theorem c53:cfunc Tryd.prog (kof k53) Tryd.f53=some f53:=by kernel_rfl
abbrev r54_0:List AOper:=[
 oo 6 (.mv (.c (.nils))) []]
abbrev r54_1:List AOper:=[
 zm 8 0 [],
 zm 9 1 [],
 zq 10 45 8 9 [0,1]]
abbrev r54_2:List AOper:=[
 oo 6 (.mv (.c (.nils))) []]
abbrev r54_3:List AOper:=[
 zm 11 0 [],
 zm 12 2 [],
 zq 13 60 11 12 [0,1],
 zm 7 13 [2,2,0,1,2]]
abbrev r54_4:List AOper:=[
 zm 14 0 [],
 zm 15 1 [],
 zq 16 34 14 15 [0,1]]
abbrev r54_5:List AOper:=[
 zm 17 7 [],
 zm 6 17 [0,0]]
def k54:List (List Nat):=[[0,1,2],[0,1,2,10],[6],[0,1,7],[7],[6]]
def f54:AFunc:={ ntmps:=18,results:=[.tmp 6],body:=(
 .seq (
 .g r54_0 [0,1,2]) (
 .seq (
 .seq (
 .g r54_1 [0,1,2,10]) (
 .cond (.t 10) (
  .seq (
  .g r54_2 [6]) (
  .ret)) (
  .skip))) (
 .seq (
 .g r54_3 [0,1,7]) (
 .seq (
 .g r54_4 [7]) (
 .seq (
 .g r54_5 [6]) (
 .ret)))))) }
theorem c54:cfunc Tryd.prog (kof k54) Tryd.f54=some f54:=by kernel_rfl
abbrev r55_0:List AOper:=[
 oo 4 (.box 42 (.t 1)) [],
 zi 6 0 []]
abbrev r55_1:List AOper:=[
 zm 9 2 [],
 zL 10 1 9 [0],
 zf 11 2 4 [0,1],
 zs 1 11 10 [2,1,0,1]]
abbrev r55_2:List AOper:=[
 zi 7 0 []]
abbrev r55_3:List AOper:=[
 zm 12 0 [],
 oo 13 (.callF 45 [(.t 12),(.c (.str ⟨#[119,104,101,110]⟩))]) [0]]
abbrev r55_4:List AOper:=[
 zm 14 0 [],
 zk 15 33 14 [0],
 zm 8 15 [1,1,0,1]]
abbrev r55_5:List AOper:=[
 zm 16 0 [],
 zm 17 0 [],
 zk 18 61 17 [1],
 zm 19 8 [],
 oo 20 (.build [.int .i64 0,.str ⟨#[]⟩,.int .i64 0,.flt .f64 0,.nils,.int .i64 0] [(0,1,(.c (.int .i64 22))),(4,1,(.t 18)),(5,1,(.t 19))]) [2,3],
 zq 21 39 16 20 [0,4,2],
 zm 7 21 [5,5,0,1,2,3,4,5]]
abbrev r55_6:List AOper:=[
 zm 22 0 [],
 zm 23 0 [],
 zk 24 33 23 [1],
 oo 25 (.build [.int .i64 0,.str ⟨#[]⟩,.int .i64 0,.flt .f64 0,.nils,.int .i64 0] [(0,1,(.c (.int .i64 22))),(5,1,(.t 24))]) [2],
 zq 26 39 22 25 [0,3,2],
 zm 7 26 [4,4,0,1,2,3,4]]
abbrev r55_7:List AOper:=[
 zm 27 0 [],
 oo 28 (.callF 34 [(.t 27),(.c (.str ⟨#[45,62]⟩))]) [0]]
abbrev r55_8:List AOper:=[
 oo 29 (.bslice 3 0 [] []) [],
 zm 30 2 [],
 oo 31 (.app 3 1 8 (.t 29) (.t 30)) [0,1],
 zm 32 7 [],
 zm 33 0 [],
 zk 34 62 33 [4,2],
 oo 35 (.bslice 3 2 [.int .i64 0,.int .i64 0] [(0,1,(.t 32)),(1,1,(.t 34))]) [3,5],
 oo 36 (.app 3 1 8 (.t 31) (.t 35)) [2,6,5],
 zf 37 4 4 [0,1,2,3,4,5,6,7],
 zs 1 37 36 [8,7,7,0,1,2,3,4,5,6,7]]
abbrev r55_9:List AOper:=[
 zm 38 0 [],
 zr 39 6 4 [],
 zq 40 39 38 39 [0,1],
 zm 6 40 [2,2,0,1,2]]
def k55:List (List Nat):=[[0,2,4],[0,2,4],[0,2,4],[0,2,4,13],[0,2,4,8],[0,2,4,7],[0,2,4,7],[0,2,4,7],[0,4],[6]]
def f55:AFunc:={ ntmps:=41,results:=[.tmp 6],body:=(
 .seq (
 .g r55_0 [0,2,4]) (
 .seq (
 .g r55_1 [0,2,4]) (
 .seq (
 .g r55_2 [0,2,4]) (
 .seq (
 .seq (
 .g r55_3 [0,2,4,13]) (
 .cond (.t 13) (
  .seq (
  .g r55_4 [0,2,4,8]) (
  .g r55_5 [0,2,4,7])) (
  .g r55_6 [0,2,4,7]))) (
 .seq (
 .g r55_7 [0,2,4,7]) (
 .seq (
 .g r55_8 [0,4]) (
 .seq (
 .g r55_9 [6]) (
 .ret)))))))) }
theorem c55:cfunc Tryd.prog (kof k55) Tryd.f55=some f55:=by kernel_rfl
abbrev r60_0:List AOper:=[
 oo 4 (.mv (.c (.nils))) []]
abbrev r60_1:List AOper:=[
 zm 6 0 [],
 zk 7 67 6 [0],
 oo 8 (.bslice 3 1 [.int .i64 0] [(0,1,(.t 7))]) [1],
 zm 5 8 [2,1,0,1,2]]
abbrev r60_2:List AOper:=[
 zm 9 0 [],
 oo 10 (.callF 45 [(.t 9),(.c (.str ⟨#[44]⟩))]) [0]]
abbrev r60_3:List AOper:=[
 zm 11 1 [],
 oo 12 (.bin .gtr (.t 11) (.c (.int .i64 0))) [0],
 zm 13 12 [1],
 ym 14 5 13 true [2],
 og 15 (.len 1 (.t 14)) 13 true [3,2],
 ym 16 1 13 true [2],
 og 17 (.bin .eql (.t 15) (.t 16)) 13 true [4,5,2],
 zp 18 13 17 [2,6]]
abbrev r60_4:List AOper:=[
 zm 19 0 [],
 zk 20 33 19 [0],
 oo 21 (.callF 36 [(.c (.int .i64 2)),(.t 20)]) [1,1]]
abbrev r60_5:List AOper:=[
 zm 22 5 [],
 zm 23 0 [],
 zk 24 67 23 [1],
 oo 25 (.bslice 3 1 [.int .i64 0] [(0,1,(.t 24))]) [2],
 oo 26 (.app 3 1 8 (.t 22) (.t 25)) [0,3,2],
 zm 5 26 [4,4,0,1,2,3,4]]
def l60_0:ACode:=
 .seq (
 .seq (
 .g r60_2 [0,1,5,10]) (
 .cond (.t 10) (
  .skip) (
  .exit 0))) (
 .block 1 (
  .seq (
  .seq (
  .g r60_3 [0,1,5,18]) (
  .cond (.t 18) (
   .g r60_4 [0,1,5]) (
   .skip))) (
  .g r60_5 [0,1,5])))
abbrev r60_6:List AOper:=[
 zm 27 5 [],
 zm 4 27 [0,0]]
def k60:List (List Nat):=[[0,1],[0,1,5],[0,1,5,10],[0,1,5,18],[0,1,5],[0,1,5],[4]]
def f60:AFunc:={ ntmps:=28,results:=[.tmp 4],body:=(
 .seq (
 .g r60_0 [0,1]) (
 .seq (
 .g r60_1 [0,1,5]) (
 .seq (
 .block 0 (
  .loop l60_0)) (
 .seq (
 .g r60_6 [4]) (
 .ret))))) }
theorem c60:cfunc Tryd.prog (kof k60) Tryd.f60=some f60:=by kernel_rfl
abbrev r61_0:List AOper:=[
 oo 2 (.mv (.c (.nils))) []]
abbrev r61_1:List AOper:=[
 zm 3 0 [],
 oo 4 (.callF 60 [(.t 3),(.c (.int .i64 0))]) [0],
 zm 2 4 [1,1,0,1]]
def k61:List (List Nat):=[[0],[2]]
def f61:AFunc:={ ntmps:=5,results:=[.tmp 2],body:=(
 .seq (
 .g r61_0 [0]) (
 .seq (
 .g r61_1 [2]) (
 .ret))) }
theorem c61:cfunc Tryd.prog (kof k61) Tryd.f61=some f61:=by kernel_rfl
abbrev r62_0:List AOper:=[
 zi 2 0 []]
abbrev r62_1:List AOper:=[
 zm 4 0 [],
 zk 5 33 4 [0],
 zm 3 5 [1,1,0,1]]
abbrev r62_2:List AOper:=[
 zm 6 0 [],
 zm 7 0 [],
 zk 8 61 7 [1],
 zm 9 3 [],
 oo 10 (.build [.int .i64 0,.str ⟨#[]⟩,.int .i64 0,.flt .f64 0,.nils,.int .i64 0] [(0,1,(.c (.int .i64 19))),(4,1,(.t 8)),(5,1,(.t 9))]) [2,3],
 zq 11 39 6 10 [0,4,2],
 zm 2 11 [5,5,0,1,2,3,4,5]]
def k62:List (List Nat):=[[0],[0,3],[2]]
def f62:AFunc:={ ntmps:=12,results:=[.tmp 2],body:=(
 .seq (
 .g r62_0 [0]) (
 .seq (
 .g r62_1 [0,3]) (
 .seq (
 .g r62_2 [2]) (
 .ret)))) }
theorem c62:cfunc Tryd.prog (kof k62) Tryd.f62=some f62:=by kernel_rfl
abbrev r67_0:List AOper:=[
 oo 1 (.box 59 (.t 0)) [],
 zi 2 0 []]
abbrev r67_1:List AOper:=[
 zl 6 1 [],
 zk 7 33 6 [0],
 zm 3 7 [1,1,0,1]]
abbrev r67_2:List AOper:=[
 zl 8 1 [],
 zn 9 8 [0],
 zf 10 2 9 [1],
 zl 11 10 [2],
 ze 12 11 200 [3]]
abbrev r67_3:List AOper:=[
 zm 13 3 [],
 oo 14 (.callF 36 [(.c (.int .i64 25)),(.t 13)]) [0]]
abbrev r67_4:List AOper:=[
 zl 15 1 [],
 zn 16 15 [0],
 zf 17 2 16 [1],
 zl 18 17 [2],
 za 19 18 1 [3],
 zn 20 15 [0,0,1,2,3,4],
 zf 21 2 20 [5,0,1,2,3,4],
 zs 1 21 19 [6,4,0,1,2,3,4]]
abbrev r67_5:List AOper:=[
 oo 22 (.mkfn (.func 68) [] [(.t 1)]) [],
 on (.dfr (.t 22) []) [0]]
abbrev r67_6:List AOper:=[
 zl 23 1 [],
 oo 24 (.callF 45 [(.t 23),(.c (.str ⟨#[99,97,116,99,104]⟩))]) [0]]
abbrev r67_7:List AOper:=[
 zl 25 1 [],
 zl 26 1 [],
 zk 27 67 26 [1],
 oo 28 (.bslice 3 1 [.int .i64 0] [(0,1,(.t 27))]) [2],
 zm 29 3 [],
 oo 30 (.build [.int .i64 0,.str ⟨#[]⟩,.int .i64 0,.flt .f64 0,.nils,.int .i64 0] [(0,1,(.c (.int .i64 17))),(4,1,(.t 28)),(5,1,(.t 29))]) [3,4],
 zq 31 39 25 30 [0,5,2],
 zm 2 31 [6,6,0,1,2,3,4,5,6]]
abbrev r67_8:List AOper:=[
 zl 32 1 [],
 zk 33 69 32 [0],
 zm 4 33 [1,1,0,1]]
abbrev r67_9:List AOper:=[
 zl 34 1 [],
 oo 35 (.bslice 9 2 [.str ⟨#[]⟩,.str ⟨#[]⟩] [(0,1,(.c (.str ⟨#[61]⟩))),(1,1,(.c (.str ⟨#[33]⟩)))]) [],
 zq 36 70 34 35 [0,1],
 zm 5 36 [2,2,0,1,2]]
abbrev r67_10:List AOper:=[
 zm 37 5 []]
abbrev r67_11:List AOper:=[
 oo 39 (.bin .eql (.t 37) (.c (.str ⟨#[61]⟩))) [],
 zm 38 39 [0]]
abbrev r67_12:List AOper:=[
 zl 40 1 [],
 zn 41 40 [0],
 zf 42 1 41 [1],
 zl 43 42 [2],
 za 44 43 1 [3],
 zn 45 40 [0,0,1,2,3,4],
 zf 46 1 45 [5,0,1,2,3,4],
 zs 1 46 44 [6,4,0,1,2,3,4]]
abbrev r67_13:List AOper:=[
 zl 47 1 [],
 zm 48 4 [],
 zl 49 1 [],
 zk 50 67 49 [2],
 oo 51 (.bslice 3 2 [.int .i64 0,.int .i64 0] [(0,1,(.t 48)),(1,1,(.t 50))]) [1,3],
 zm 52 3 [],
 oo 53 (.build [.int .i64 0,.str ⟨#[]⟩,.int .i64 0,.flt .f64 0,.nils,.int .i64 0] [(0,1,(.c (.int .i64 10))),(4,1,(.t 51)),(5,1,(.t 52))]) [4,5],
 zq 54 39 47 53 [0,6,3],
 zm 2 54 [7,7,0,1,2,3,4,5,6,7]]
abbrev r67_14:List AOper:=[
 oo 56 (.bin .eql (.t 37) (.c (.str ⟨#[33]⟩))) [],
 zm 55 56 [0]]
abbrev r67_15:List AOper:=[
 zl 57 1 [],
 zn 58 57 [0],
 zf 59 1 58 [1],
 zl 60 59 [2],
 za 61 60 1 [3],
 zn 62 57 [0,0,1,2,3,4],
 zf 63 1 62 [5,0,1,2,3,4],
 zs 1 63 61 [6,4,0,1,2,3,4]]
abbrev r67_16:List AOper:=[
 zl 64 1 [],
 zm 65 5 [],
 zm 66 4 [],
 zl 67 1 [],
 zk 68 67 67 [3],
 oo 69 (.bslice 3 2 [.int .i64 0,.int .i64 0] [(0,1,(.t 66)),(1,1,(.t 68))]) [2,4],
 zm 70 3 [],
 oo 71 (.build [.int .i64 0,.str ⟨#[]⟩,.int .i64 0,.flt .f64 0,.nils,.int .i64 0] [(0,1,(.c (.int .i64 9))),(1,1,(.t 65)),(4,1,(.t 69)),(5,1,(.t 70))]) [1,5,6],
 zq 72 39 64 71 [0,7,4],
 zm 2 72 [8,8,0,1,2,3,4,5,6,7,8]]
abbrev r67_17:List AOper:=[
 zm 73 4 [],
 zm 2 73 [0,0]]
def m67_7:List Nat:=[0,0,2,6,0,30,63,127]
theorem d67_7:okDraw r67_7 m67_7=true:=by kernel_rfl
def m67_13:List Nat:=[0,0,0,4,14,0,62,127,255]
theorem d67_13:okDraw r67_13 m67_13=true:=by kernel_rfl
def m67_16:List Nat:=[0,0,0,0,8,28,0,126,255,511]
theorem d67_16:okDraw r67_16 m67_16=true:=by kernel_rfl
def k67:List (List Nat):=[[1],[1,3],[1,3,12],[1,3],[1,3],[1,3],[1,3,24],[2],[1,3,4],[1,3,4,5],[1,3,4,5,37],[1,3,4,5,37,38],[1,3,4],[2],[1,3,4,5,55],[1,3,4,5],[2],[2]]
def f67:AFunc:={ ntmps:=74,results:=[.tmp 2],body:=(
 .seq (
 .g r67_0 [1]) (
 .seq (
 .g r67_1 [1,3]) (
 .seq (
 .seq (
 .g r67_2 [1,3,12]) (
 .cond (.t 12) (
  .g r67_3 [1,3]) (
  .skip))) (
 .seq (
 .g r67_4 [1,3]) (
 .seq (
 .g r67_5 [1,3]) (
 .seq (
 .seq (
 .g r67_6 [1,3,24]) (
 .cond (.t 24) (
  .seq (
  .region true r67_7 [2]) (
  .ret)) (
  .skip))) (
 .seq (
 .g r67_8 [1,3,4]) (
 .seq (
 .seq (
 .g r67_9 [1,3,4,5]) (
 .seq (
 .g r67_10 [1,3,4,5,37]) (
 .block 0 (
  .seq (
  .g r67_11 [1,3,4,5,37,38]) (
  .cond (.t 38) (
   .seq (
   .g r67_12 [1,3,4]) (
   .seq (
   .region true r67_13 [2]) (
   .ret))) (
   .seq (
   .g r67_14 [1,3,4,5,55]) (
   .cond (.t 55) (
    .seq (
    .g r67_15 [1,3,4,5]) (
    .seq (
    .region true r67_16 [2]) (
    .ret))) (
    .skip)))))))) (
 .seq (
 .g r67_17 [2]) (
 .ret)))))))))) }
theorem c67:cfunc Tryd.prog (kof k67) Tryd.f67=some f67:=by kernel_rfl
abbrev r68_0:List AOper:=[
 zl 1 0 [],
 zn 2 1 [0],
 zf 3 2 2 [1],
 zl 4 3 [2],
 oo 5 (.bin .sub (.t 4) (.c (.int .i64 1))) [3],
 zn 6 1 [0,0,1,2,3,4],
 zf 7 2 6 [5,0,1,2,3,4],
 zs 1 7 5 [6,4,0,1,2,3,4]]
def k68:List (List Nat):=[[]]
def f68:AFunc:={ ntmps:=8,results:=[],body:=(
 .g r68_0 []) }
theorem c68:cfunc Tryd.prog (kof k68) Tryd.f68=some f68:=by kernel_rfl
abbrev r69_0:List AOper:=[
 zi 2 0 []]
abbrev r69_1:List AOper:=[
 zm 3 0 [],
 zm 4 0 [],
 oo 5 (.mkfn (.func 72) [(.t 4)] []) [1],
 zm 6 0 [],
 oo 7 (.mkfn (.func 69) [(.t 6)] []) [3],
 oo 8 (.bslice 9 1 [.str ⟨#[]⟩] [(0,1,(.c (.str ⟨#[111,114,101,108,115,101]⟩)))]) [],
 oo 9 (.callF 71 [(.t 3),(.t 5),(.t 7),(.t 8)]) [0,2,4,5],
 zm 2 9 [6,6,0,1,2,3,4,5,6]]
def k69:List (List Nat):=[[0],[2]]
def f69:AFunc:={ ntmps:=10,results:=[.tmp 2],body:=(
 .seq (
 .g r69_0 [0]) (
 .seq (
 .g r69_1 [2]) (
 .ret))) }
theorem c69:cfunc Tryd.prog (kof k69) Tryd.f69=some f69:=by kernel_rfl
abbrev r70_0:List AOper:=[
 oo 4 (.mv (.c (.str ⟨#[]⟩))) []]
abbrev r70_1:List AOper:=[
 zm 7 1 [],
 zL 8 1 7 [0],
 zi 9 0 []]
abbrev r70_2:List AOper:=[
 oo 10 (.bin .lss (.t 9) (.t 8)) []]
abbrev r70_3:List AOper:=[
 zd 11 1 7 9 [],
 zl 12 11 [0],
 zm 6 12 [1,0,1]]
abbrev r70_4:List AOper:=[
 zm 13 0 [],
 zm 14 6 [],
 zq 15 53 13 14 [0,1]]
abbrev r70_5:List AOper:=[
 zm 16 6 [],
 zm 4 16 [0,0]]
abbrev r70_6:List AOper:=[
 za 17 9 1 [],
 zm 9 17 [0]]
def l70_0:ACode:=
 .seq (
 .g r70_2 [0,7,8,9,10]) (
 .seq (
 .cond (.t 10) (
  .skip) (
  .exit 0)) (
 .seq (
 .block 1 (
  .seq (
  .g r70_3 [0,6,7,8,9]) (
  .seq (
  .g r70_4 [0,6,7,8,9,15]) (
  .cond (.t 15) (
   .seq (
   .g r70_5 [4]) (
   .ret)) (
   .skip))))) (
 .g r70_6 [0,7,8,9])))
abbrev r70_7:List AOper:=[
 oo 4 (.mv (.c (.str ⟨#[]⟩))) []]
def k70:List (List Nat):=[[0,1],[0,7,8,9],[0,7,8,9,10],[0,6,7,8,9],[0,6,7,8,9,15],[4],[0,7,8,9],[4]]
def f70:AFunc:={ ntmps:=18,results:=[.tmp 4],body:=(
 .seq (
 .g r70_0 [0,1]) (
 .seq (
 .seq (
 .g r70_1 [0,7,8,9]) (
 .block 0 (
  .loop l70_0))) (
 .seq (
 .g r70_7 [4]) (
 .ret)))) }
theorem c70:cfunc Tryd.prog (kof k70) Tryd.f70=some f70:=by kernel_rfl
abbrev r71_0:List AOper:=[
 zi 8 0 []]
abbrev r71_1:List AOper:=[
 zm 12 0 [],
 zk 13 33 12 [0],
 zm 9 13 [1,1,0,1]]
abbrev r71_2:List AOper:=[
 zm 14 1 [],
 oo 15 (.callV (.t 14) []) [0],
 zm 10 15 [1,1,0,1]]
abbrev r71_3:List AOper:=[
 zm 16 0 [],
 zm 17 3 [],
 zq 18 70 16 17 [0,1],
 zm 11 18 [2,2,0,1,2]]
abbrev r71_4:List AOper:=[
 zm 19 11 [],
 oo 20 (.bin .eql (.t 19) (.c (.str ⟨#[]⟩))) [0]]
abbrev r71_5:List AOper:=[
 zm 21 10 [],
 zm 8 21 [0,0]]
abbrev r71_6:List AOper:=[
 zm 22 0 [],
 zn 23 22 [0],
 zf 24 1 23 [1],
 zl 25 24 [2],
 za 26 25 1 [3],
 zn 27 22 [0,0,1,2,3,4],
 zf 28 1 27 [5,0,1,2,3,4],
 zs 1 28 26 [6,4,0,1,2,3,4]]
abbrev r71_7:List AOper:=[
 zm 29 0 [],
 zm 30 11 [],
 zm 31 10 [],
 zm 32 2 [],
 oo 33 (.callV (.t 32) []) [3],
 oo 34 (.bslice 3 2 [.int .i64 0,.int .i64 0] [(0,1,(.t 31)),(1,1,(.t 33))]) [2,4],
 zm 35 9 [],
 oo 36 (.build [.int .i64 0,.str ⟨#[]⟩,.int .i64 0,.flt .f64 0,.nils,.int .i64 0] [(0,1,(.c (.int .i64 9))),(1,1,(.t 30)),(4,1,(.t 34)),(5,1,(.t 35))]) [1,5,6],
 zq 37 39 29 36 [0,7,4],
 zm 8 37 [8,8,0,1,2,3,4,5,6,7,8]]
def k71:List (List Nat):=[[0,1,2,3],[0,1,2,3,9],[0,2,3,9,10],[0,2,9,10,11],[0,2,9,10,11,20],[8],[0,2,9,10,11],[8]]
def f71:AFunc:={ ntmps:=38,results:=[.tmp 8],body:=(
 .seq (
 .g r71_0 [0,1,2,3]) (
 .seq (
 .g r71_1 [0,1,2,3,9]) (
 .seq (
 .g r71_2 [0,2,3,9,10]) (
 .seq (
 .g r71_3 [0,2,9,10,11]) (
 .seq (
 .seq (
 .g r71_4 [0,2,9,10,11,20]) (
 .cond (.t 20) (
  .seq (
  .g r71_5 [8]) (
  .ret)) (
  .skip))) (
 .seq (
 .g r71_6 [0,2,9,10,11]) (
 .seq (
 .g r71_7 [8]) (
 .ret)))))))) }
theorem c71:cfunc Tryd.prog (kof k71) Tryd.f71=some f71:=by kernel_rfl
abbrev r72_0:List AOper:=[
 zi 2 0 []]
abbrev r72_1:List AOper:=[
 zm 3 0 [],
 zm 4 0 [],
 oo 5 (.mkfn (.func 73) [(.t 4)] []) [1],
 zm 6 0 [],
 oo 7 (.mkfn (.func 72) [(.t 6)] []) [3],
 oo 8 (.bslice 9 1 [.str ⟨#[]⟩] [(0,1,(.c (.str ⟨#[97,110,100,97,108,115,111]⟩)))]) [],
 oo 9 (.callF 71 [(.t 3),(.t 5),(.t 7),(.t 8)]) [0,2,4,5],
 zm 2 9 [6,6,0,1,2,3,4,5,6]]
def k72:List (List Nat):=[[0],[2]]
def f72:AFunc:={ ntmps:=10,results:=[.tmp 2],body:=(
 .seq (
 .g r72_0 [0]) (
 .seq (
 .g r72_1 [2]) (
 .ret))) }
theorem c72:cfunc Tryd.prog (kof k72) Tryd.f72=some f72:=by kernel_rfl
abbrev r73_0:List AOper:=[
 zi 2 0 []]
abbrev r73_1:List AOper:=[
 zm 3 0 [],
 zm 4 0 [],
 oo 5 (.mkfn (.func 74) [(.t 4)] []) [1],
 zm 6 0 [],
 oo 7 (.mkfn (.func 74) [(.t 6)] []) [3],
 oo 8 (.bslice 9 8 [.str ⟨#[]⟩,.str ⟨#[]⟩,.str ⟨#[]⟩,.str ⟨#[]⟩,.str ⟨#[]⟩,.str ⟨#[]⟩,.str ⟨#[]⟩,.str ⟨#[]⟩] [(0,1,(.c (.str ⟨#[61,61]⟩))),(1,1,(.c (.str ⟨#[47,61]⟩))),(2,1,(.c (.str ⟨#[61,60]⟩))),(3,1,(.c (.str ⟨#[60]⟩))),(4,1,(.c (.str ⟨#[62,61]⟩))),(5,1,(.c (.str ⟨#[62]⟩))),(6,1,(.c (.str ⟨#[61,58,61]⟩))),(7,1,(.c (.str ⟨#[61,47,61]⟩)))]) [],
 oo 9 (.callF 71 [(.t 3),(.t 5),(.t 7),(.t 8)]) [0,2,4,5],
 zm 2 9 [6,6,0,1,2,3,4,5,6]]
def k73:List (List Nat):=[[0],[2]]
def f73:AFunc:={ ntmps:=10,results:=[.tmp 2],body:=(
 .seq (
 .g r73_0 [0]) (
 .seq (
 .g r73_1 [2]) (
 .ret))) }
theorem c73:cfunc Tryd.prog (kof k73) Tryd.f73=some f73:=by kernel_rfl
abbrev r74_0:List AOper:=[
 zi 2 0 []]
abbrev r74_1:List AOper:=[
 zm 3 0 [],
 zm 4 0 [],
 oo 5 (.mkfn (.func 75) [(.t 4)] []) [1],
 zm 6 0 [],
 oo 7 (.mkfn (.func 74) [(.t 6)] []) [3],
 oo 8 (.bslice 9 1 [.str ⟨#[]⟩] [(0,1,(.c (.str ⟨#[43,43]⟩)))]) [],
 oo 9 (.callF 71 [(.t 3),(.t 5),(.t 7),(.t 8)]) [0,2,4,5],
 zm 2 9 [6,6,0,1,2,3,4,5,6]]
def k74:List (List Nat):=[[0],[2]]
def f74:AFunc:={ ntmps:=10,results:=[.tmp 2],body:=(
 .seq (
 .g r74_0 [0]) (
 .seq (
 .g r74_1 [2]) (
 .ret))) }
theorem c74:cfunc Tryd.prog (kof k74) Tryd.f74=some f74:=by kernel_rfl
abbrev r75_0:List AOper:=[
 zi 2 0 []]
abbrev r75_1:List AOper:=[
 zm 3 0 [],
 zm 4 0 [],
 oo 5 (.mkfn (.func 77) [(.t 4)] []) [1],
 oo 6 (.bslice 9 2 [.str ⟨#[]⟩,.str ⟨#[]⟩] [(0,1,(.c (.str ⟨#[43]⟩))),(1,1,(.c (.str ⟨#[45]⟩)))]) [],
 oo 7 (.callF 76 [(.t 3),(.t 5),(.t 6)]) [0,2,3],
 zm 2 7 [4,4,0,1,2,3,4]]
def k75:List (List Nat):=[[0],[2]]
def f75:AFunc:={ ntmps:=8,results:=[.tmp 2],body:=(
 .seq (
 .g r75_0 [0]) (
 .seq (
 .g r75_1 [2]) (
 .ret))) }
theorem c75:cfunc Tryd.prog (kof k75) Tryd.f75=some f75:=by kernel_rfl
abbrev r76_0:List AOper:=[
 zi 6 0 []]
abbrev r76_1:List AOper:=[
 zm 10 0 [],
 zk 11 33 10 [0],
 zm 7 11 [1,1,0,1]]
abbrev r76_2:List AOper:=[
 zm 12 1 [],
 oo 13 (.callV (.t 12) []) [0],
 zm 8 13 [1,1,0,1]]
abbrev r76_3:List AOper:=[
 zm 14 0 [],
 zm 15 2 [],
 zq 16 70 14 15 [0,1],
 zm 9 16 [2,2,0,1,2]]
abbrev r76_4:List AOper:=[
 zm 17 9 [],
 oo 18 (.bin .neq (.t 17) (.c (.str ⟨#[]⟩))) [0]]
abbrev r76_6:List AOper:=[
 zm 22 0 [],
 zn 23 22 [0],
 zf 24 1 23 [1],
 zl 25 24 [2],
 za 26 25 1 [3],
 zn 27 22 [0,0,1,2,3,4],
 zf 28 1 27 [5,0,1,2,3,4],
 zs 1 28 26 [6,4,0,1,2,3,4]]
abbrev r76_7:List AOper:=[
 zm 29 0 [],
 zm 30 9 [],
 zm 31 8 [],
 zm 32 1 [],
 oo 33 (.callV (.t 32) []) [3],
 oo 34 (.bslice 3 2 [.int .i64 0,.int .i64 0] [(0,1,(.t 31)),(1,1,(.t 33))]) [2,4],
 zm 35 7 [],
 oo 36 (.build [.int .i64 0,.str ⟨#[]⟩,.int .i64 0,.flt .f64 0,.nils,.int .i64 0] [(0,1,(.c (.int .i64 9))),(1,1,(.t 30)),(4,1,(.t 34)),(5,1,(.t 35))]) [1,5,6],
 zq 37 39 29 36 [0,7,4],
 zm 8 37 [8,8,0,1,2,3,4,5,6,7,8]]
abbrev r76_5:List AOper:=[
 zm 19 0 [],
 zm 20 2 [],
 zq 21 70 19 20 [0,1],
 zm 9 21 [2,2,0,1,2]]
def l76_0:ACode:=
 .seq (
 .seq (
 .g r76_4 [0,1,2,7,8,9,18]) (
 .cond (.t 18) (
  .skip) (
  .exit 0))) (
 .seq (
 .block 1 (
  .seq (
  .g r76_6 [0,1,2,7,8,9]) (
  .g r76_7 [0,1,2,7,8]))) (
 .g r76_5 [0,1,2,7,8,9]))
abbrev r76_8:List AOper:=[
 zm 38 8 [],
 zm 6 38 [0,0]]
def k76:List (List Nat):=[[0,1,2],[0,1,2,7],[0,1,2,7,8],[0,1,2,7,8,9],[0,1,2,7,8,9,18],[0,1,2,7,8,9],[0,1,2,7,8,9],[0,1,2,7,8],[6]]
def f76:AFunc:={ ntmps:=39,results:=[.tmp 6],body:=(
 .seq (
 .g r76_0 [0,1,2]) (
 .seq (
 .g r76_1 [0,1,2,7]) (
 .seq (
 .g r76_2 [0,1,2,7,8]) (
 .seq (
 .seq (
 .g r76_3 [0,1,2,7,8,9]) (
 .block 0 (
  .loop l76_0))) (
 .seq (
 .g r76_8 [6]) (
 .ret)))))) }
theorem c76:cfunc Tryd.prog (kof k76) Tryd.f76=some f76:=by kernel_rfl
abbrev r77_0:List AOper:=[
 zi 2 0 []]
abbrev r77_1:List AOper:=[
 zm 3 0 [],
 zm 4 0 [],
 oo 5 (.mkfn (.func 78) [(.t 4)] []) [1],
 oo 6 (.bslice 9 4 [.str ⟨#[]⟩,.str ⟨#[]⟩,.str ⟨#[]⟩,.str ⟨#[]⟩] [(0,1,(.c (.str ⟨#[42]⟩))),(1,1,(.c (.str ⟨#[47]⟩))),(2,1,(.c (.str ⟨#[100,105,118]⟩))),(3,1,(.c (.str ⟨#[114,101,109]⟩)))]) [],
 oo 7 (.callF 76 [(.t 3),(.t 5),(.t 6)]) [0,2,3],
 zm 2 7 [4,4,0,1,2,3,4]]
def k77:List (List Nat):=[[0],[2]]
def f77:AFunc:={ ntmps:=8,results:=[.tmp 2],body:=(
 .seq (
 .g r77_0 [0]) (
 .seq (
 .g r77_1 [2]) (
 .ret))) }
theorem c77:cfunc Tryd.prog (kof k77) Tryd.f77=some f77:=by kernel_rfl
abbrev r78_0:List AOper:=[
 zi 2 0 []]
abbrev r78_1:List AOper:=[
 oo 3 (.mv (.c (.nils))) []]
abbrev r78_2:List AOper:=[
 zm 6 0 [],
 oo 7 (.bslice 9 2 [.str ⟨#[]⟩,.str ⟨#[]⟩] [(0,1,(.c (.str ⟨#[45]⟩))),(1,1,(.c (.str ⟨#[110,111,116]⟩)))]) [],
 zq 8 70 6 7 [0,1],
 oo 9 (.bin .neq (.t 8) (.c (.str ⟨#[]⟩))) [2]]
abbrev r78_3:List AOper:=[
 zm 10 3 [],
 zm 11 0 [],
 zk 12 37 11 [1],
 oo 13 (.bslice 31 1 [.int .i64 0,.str ⟨#[]⟩,.int .i64 0,.flt .f64 0,.int .i64 0] [(0,5,(.t 12))]) [2],
 oo 14 (.app 31 5 48 (.t 10) (.t 13)) [0,3,2],
 zm 3 14 [4,4,0,1,2,3,4]]
abbrev r78_4:List AOper:=[
 zm 15 0 [],
 zn 16 15 [0],
 zf 17 1 16 [1],
 zl 18 17 [2],
 za 19 18 1 [3],
 zn 20 15 [0,0,1,2,3,4],
 zf 21 1 20 [5,0,1,2,3,4],
 zs 1 21 19 [6,4,0,1,2,3,4]]
def l78_0:ACode:=
 .seq (
 .seq (
 .g r78_2 [0,3,9]) (
 .cond (.t 9) (
  .skip) (
  .exit 0))) (
 .block 1 (
  .seq (
  .g r78_3 [0,3]) (
  .g r78_4 [0,3])))
abbrev r78_5:List AOper:=[
 zm 22 0 [],
 zk 23 79 22 [0],
 zm 4 23 [1,1,0,1]]
abbrev r78_6:List AOper:=[
 zm 24 3 [],
 zL 25 1 24 [0],
 oo 26 (.bin .sub (.t 25) (.c (.int .i64 1))) [1],
 zm 5 26 [2,0,1,2]]
abbrev r78_7:List AOper:=[
 zm 27 5 [],
 oo 28 (.bin .geq (.t 27) (.c (.int .i64 0))) [0]]
abbrev r78_9:List AOper:=[
 zm 31 0 [],
 zm 32 3 [],
 zm 33 5 [],
 zd 34 5 32 33 [1,2],
 zf 35 1 34 [3],
 zl 36 35 [4],
 zm 37 4 [],
 oo 38 (.bslice 3 1 [.int .i64 0] [(0,1,(.t 37))]) [6],
 zm 39 3 [],
 zm 40 5 [],
 zd 41 5 39 40 [8,9],
 zf 42 4 41 [10],
 zl 43 42 [11],
 oo 44 (.build [.int .i64 0,.str ⟨#[]⟩,.int .i64 0,.flt .f64 0,.nils,.int .i64 0] [(0,1,(.c (.int .i64 9))),(1,1,(.t 36)),(4,1,(.t 38)),(5,1,(.t 43))]) [5,7,12],
 zq 45 39 31 44 [0,13],
 zm 4 45 [14,14,0,1,2,3,4,5,6,7,8,9,10,11,12,13,14]]
abbrev r78_8:List AOper:=[
 zm 29 5 [],
 oo 30 (.bin .sub (.t 29) (.c (.int .i64 1))) [0],
 zm 5 30 [1,0,1]]
def l78_1:ACode:=
 .seq (
 .seq (
 .g r78_7 [0,3,4,5,28]) (
 .cond (.t 28) (
  .skip) (
  .exit 2))) (
 .seq (
 .block 3 (
  .region true r78_9 [0,3,4,5])) (
 .g r78_8 [0,3,4,5]))
abbrev r78_10:List AOper:=[
 zm 46 4 [],
 zm 2 46 [0,0]]
def m78_9:List Nat:=[0,0,0,6,14,30,0,64,0,0,768,1792,3840,8190,16383,32767]
theorem d78_9:okDraw r78_9 m78_9=true:=by kernel_rfl
def k78:List (List Nat):=[[0],[0,3],[0,3,9],[0,3],[0,3],[0,3,4],[0,3,4,5],[0,3,4,5,28],[0,3,4,5],[0,3,4,5],[2]]
def f78:AFunc:={ ntmps:=47,results:=[.tmp 2],body:=(
 .seq (
 .g r78_0 [0]) (
 .seq (
 .g r78_1 [0,3]) (
 .seq (
 .block 0 (
  .loop l78_0)) (
 .seq (
 .g r78_5 [0,3,4]) (
 .seq (
 .seq (
 .g r78_6 [0,3,4,5]) (
 .block 2 (
  .loop l78_1))) (
 .seq (
 .g r78_10 [2]) (
 .ret))))))) }
theorem c78:cfunc Tryd.prog (kof k78) Tryd.f78=some f78:=by kernel_rfl
abbrev r79_0:List AOper:=[
 zi 2 0 []]
abbrev r79_1:List AOper:=[
 zm 5 0 [],
 zk 6 37 5 [0],
 oo 3 (.alloc 31 (.agg [.int .i64 0,.str ⟨#[]⟩,.int .i64 0,.flt .f64 0,.int .i64 0])) [],
 zs 5 3 6 [2,1,1,0,1,2]]
abbrev r79_2:List AOper:=[
 zf 7 0 3 [],
 zl 8 7 [0],
 ze 9 8 1 [1],
 zm 10 9 [2],
 ym 11 0 10 true [3],
 yn 12 11 10 true [4,3],
 yf 13 0 12 10 true [5,3],
 yl 14 13 10 true [6,3],
 ym 15 0 10 true [3],
 yn 16 15 10 true [8,3],
 yf 17 1 16 10 true [9,3],
 yl 18 17 10 true [10,3],
 og 19 (.bin .add (.t 18) (.c (.int .i64 1))) 10 true [11,3],
 og 20 (.iaddr 5 (.t 14) (.t 19)) 10 true [7,12,3],
 yf 21 0 20 10 true [13,3],
 yl 22 21 10 true [14,3],
 og 23 (.bin .eql (.t 22) (.c (.int .i64 6))) 10 true [15,3],
 zp 24 10 23 [3,16],
 zm 25 24 [17,3],
 ym 26 0 25 true [18],
 yn 27 26 25 true [19,18],
 yf 28 0 27 25 true [20,18],
 yl 29 28 25 true [21,18],
 ym 30 0 25 true [18],
 yn 31 30 25 true [23,18],
 yf 32 1 31 25 true [24,18],
 yl 33 32 25 true [25,18],
 og 34 (.bin .add (.t 33) (.c (.int .i64 1))) 25 true [26,18],
 og 35 (.iaddr 5 (.t 29) (.t 34)) 25 true [22,27,18],
 yf 36 1 35 25 true [28,18],
 yl 37 36 25 true [29,18],
 og 38 (.bin .eql (.t 37) (.c (.str ⟨#[40]⟩))) 25 true [30,18],
 zp 39 25 38 [18,31]]
abbrev r79_3:List AOper:=[
 zm 40 0 [],
 zn 41 40 [0],
 zf 42 1 41 [1],
 zl 43 42 [2],
 za 44 43 2 [3],
 zn 45 40 [0,0,1,2,3,4],
 zf 46 1 45 [5,0,1,2,3,4],
 zs 1 46 44 [6,4,0,1,2,3,4]]
abbrev r79_4:List AOper:=[
 zm 47 0 [],
 oo 48 (.callF 54 [(.t 47),(.c (.str ⟨#[41]⟩)),(.c (.int .i64 16))]) [0],
 zm 4 48 [1,1,0,1]]
abbrev r79_5:List AOper:=[
 zm 49 0 [],
 zm 50 0 [],
 zf 51 1 3 [],
 zl 52 51 [2],
 zm 53 4 [],
 zf 54 4 3 [],
 zl 55 54 [5],
 oo 56 (.build [.int .i64 0,.str ⟨#[]⟩,.int .i64 0,.flt .f64 0,.nils,.int .i64 0] [(0,1,(.c (.int .i64 11))),(1,1,(.t 52)),(4,1,(.t 53)),(5,1,(.t 55))]) [3,4,6],
 zq 57 39 50 56 [1,7],
 zf 58 4 3 [],
 zl 59 58 [9],
 oo 60 (.callF 80 [(.t 49),(.t 57),(.t 59)]) [0,8,10,8],
 zm 2 60 [11,11,0,1,2,3,4,5,6,7,8,9,10,11]]
abbrev r79_6:List AOper:=[
 zm 61 0 [],
 zm 62 0 [],
 zk 63 81 62 [1],
 zf 64 4 3 [],
 zl 65 64 [3],
 oo 66 (.callF 80 [(.t 61),(.t 63),(.t 65)]) [0,2,4,2],
 zm 2 66 [5,5,0,1,2,3,4,5]]
def m79_2:List Nat:=[0,1,3,7,15,31,63,127,15,271,783,1807,3855,8191,16383,32767,65535,131071,262143,524287,1048575,2097151,4194303,524287,8912895,25690111,59244543,126353407,268435455,536870911,1073741823,2147483647,4294967295]
theorem d79_2:okDraw r79_2 m79_2=true:=by kernel_rfl
def m79_5:List Nat:=[0,0,0,4,0,0,32,124,254,0,512,2047,4095]
theorem d79_5:okDraw r79_5 m79_5=true:=by kernel_rfl
def m79_6:List Nat:=[0,0,2,0,8,31,63]
theorem d79_6:okDraw r79_6 m79_6=true:=by kernel_rfl
def k79:List (List Nat):=[[0],[0,3],[0,3,39],[0,3],[0,3,4],[2],[2]]
def f79:AFunc:={ ntmps:=67,results:=[.tmp 2],body:=(
 .seq (
 .g r79_0 [0]) (
 .seq (
 .g r79_1 [0,3]) (
 .seq (
 .seq (
 .region true r79_2 [0,3,39]) (
 .cond (.t 39) (
  .seq (
  .g r79_3 [0,3]) (
  .seq (
  .g r79_4 [0,3,4]) (
  .seq (
  .region true r79_5 [2]) (
  .ret)))) (
  .skip))) (
 .seq (
 .region true r79_6 [2]) (
 .ret))))) }
theorem c79:cfunc Tryd.prog (kof k79) Tryd.f79=some f79:=by kernel_rfl
abbrev r80_0:List AOper:=[
 zi 6 0 []]
abbrev r80_1:List AOper:=[
 zm 8 0 [],
 oo 9 (.callF 45 [(.t 8),(.c (.str ⟨#[40]⟩))]) [0]]
abbrev r80_2:List AOper:=[
 zm 10 1 [],
 oo 11 (.bslice 3 1 [.int .i64 0] [(0,1,(.t 10))]) [0],
 zm 12 0 [],
 oo 13 (.callF 54 [(.t 12),(.c (.str ⟨#[41]⟩)),(.c (.int .i64 16))]) [2],
 oo 14 (.app 3 1 8 (.t 11) (.t 13)) [1,3,3],
 zm 7 14 [4,4,0,1,2,3,4]]
abbrev r80_3:List AOper:=[
 zm 15 0 [],
 zm 16 7 [],
 zm 17 2 [],
 oo 18 (.build [.int .i64 0,.str ⟨#[]⟩,.int .i64 0,.flt .f64 0,.nils,.int .i64 0] [(0,1,(.c (.int .i64 12))),(4,1,(.t 16)),(5,1,(.t 17))]) [1,2],
 zq 19 39 15 18 [0,3],
 zm 1 19 [4,4,0,1,2,3,4]]
def l80_0:ACode:=
 .seq (
 .seq (
 .g r80_1 [0,1,2,9]) (
 .cond (.t 9) (
  .skip) (
  .exit 0))) (
 .block 1 (
  .seq (
  .g r80_2 [0,2,7]) (
  .g r80_3 [0,1,2])))
abbrev r80_4:List AOper:=[
 zm 20 1 [],
 zm 6 20 [0,0]]
def k80:List (List Nat):=[[0,1,2],[0,1,2,9],[0,2,7],[0,1,2],[6]]
def f80:AFunc:={ ntmps:=21,results:=[.tmp 6],body:=(
 .seq (
 .g r80_0 [0,1,2]) (
 .seq (
 .block 0 (
  .loop l80_0)) (
 .seq (
 .g r80_4 [6]) (
 .ret)))) }
theorem c80:cfunc Tryd.prog (kof k80) Tryd.f80=some f80:=by kernel_rfl
abbrev r81_0:List AOper:=[
 zi 2 0 []]
abbrev r81_1:List AOper:=[
 zm 5 0 [],
 zk 6 37 5 [0],
 oo 3 (.alloc 31 (.agg [.int .i64 0,.str ⟨#[]⟩,.int .i64 0,.flt .f64 0,.int .i64 0])) [],
 zs 5 3 6 [2,1,1,0,1,2]]
abbrev r81_2:List AOper:=[
 zf 7 4 3 [],
 zl 8 7 [0],
 oo 9 (.build [.int .i64 0,.str ⟨#[]⟩,.int .i64 0,.flt .f64 0,.nils,.int .i64 0] [(5,1,(.t 8))]) [1],
 oo 4 (.alloc 42 (.agg [.int .i64 0,.str ⟨#[]⟩,.int .i64 0,.flt .f64 0,.nils,.int .i64 0])) [],
 zs 6 4 9 [3,2,0,1,2,3]]
abbrev r81_3:List AOper:=[
 zf 10 0 3 [],
 zl 11 10 [0]]
abbrev r81_5:List AOper:=[
 ze 16 11 3 [],
 zm 15 16 [0]]
abbrev r81_6:List AOper:=[
 zf 17 2 3 [],
 zl 18 17 [0],
 zf 19 0 4 [],
 on (.store 1 (.t 19) (.c (.int .i64 1))) [2],
 zf 20 2 4 [0,1,2,3],
 zs 1 20 18 [4,1,3,0,1,2,3]]
abbrev r81_7:List AOper:=[
 ze 22 11 4 [],
 zm 21 22 [0]]
abbrev r81_8:List AOper:=[
 zf 23 3 3 [],
 zl 24 23 [0],
 zf 25 0 4 [],
 on (.store 1 (.t 25) (.c (.int .i64 2))) [2],
 zf 26 3 4 [0,1,2,3],
 zs 1 26 24 [4,1,3,0,1,2,3]]
abbrev r81_9:List AOper:=[
 ze 28 11 1 [],
 zm 27 28 [0]]
abbrev r81_10:List AOper:=[
 zf 29 1 3 [],
 zl 30 29 [0],
 zf 31 0 4 [],
 on (.store 1 (.t 31) (.c (.int .i64 3))) [2],
 zf 32 1 4 [0,1,2,3],
 zs 1 32 30 [4,1,3,0,1,2,3]]
abbrev r81_11:List AOper:=[
 ze 34 11 2 [],
 zm 33 34 [0]]
abbrev r81_12:List AOper:=[
 zf 35 1 3 [],
 zl 36 35 [0],
 zf 37 0 4 [],
 on (.store 1 (.t 37) (.c (.int .i64 4))) [2],
 zf 38 1 4 [0,1,2,3],
 zs 1 38 36 [4,1,3,0,1,2,3]]
abbrev r81_13:List AOper:=[
 ze 40 11 5 [],
 zm 39 40 [0]]
abbrev r81_14:List AOper:=[
 zf 41 1 3 [],
 zl 42 41 [0],
 zf 43 0 4 [],
 on (.store 1 (.t 43) (.c (.int .i64 5))) [2],
 zf 44 1 4 [0,1,2,3],
 zs 1 44 42 [4,1,3,0,1,2,3]]
abbrev r81_4:List AOper:=[
 zm 12 0 [],
 zr 13 6 4 [],
 zq 14 82 12 13 [0,1],
 zm 2 14 [2,2,0,1,2]]
abbrev r81_15:List AOper:=[
 zm 45 0 [],
 zn 46 45 [0],
 zf 47 1 46 [1],
 zl 48 47 [2],
 za 49 48 1 [3],
 zn 50 45 [0,0,1,2,3,4],
 zf 51 1 50 [5,0,1,2,3,4],
 zs 1 51 49 [6,4,0,1,2,3,4]]
abbrev r81_16:List AOper:=[
 zm 52 0 [],
 zr 53 6 4 [],
 zq 54 39 52 53 [0,1],
 zm 2 54 [2,2,0,1,2]]
def m81_6:List Nat:=[0,1,0,4,15,31]
theorem d81_6:okDraw r81_6 m81_6=true:=by kernel_rfl
def m81_8:List Nat:=[0,1,0,4,15,31]
theorem d81_8:okDraw r81_8 m81_8=true:=by kernel_rfl
def m81_10:List Nat:=[0,1,0,4,15,31]
theorem d81_10:okDraw r81_10 m81_10=true:=by kernel_rfl
def m81_12:List Nat:=[0,1,0,4,15,31]
theorem d81_12:okDraw r81_12 m81_12=true:=by kernel_rfl
def m81_14:List Nat:=[0,1,0,4,15,31]
theorem d81_14:okDraw r81_14 m81_14=true:=by kernel_rfl
def k81:List (List Nat):=[[0],[0,3],[0,3,4],[0,3,4,11],[2],[0,3,4,11,15],[0,4],[0,3,4,11,21],[0,4],[0,3,4,11,27],[0,4],[0,3,4,11,33],[0,4],[0,3,4,39],[0,4],[0,4],[2]]
def f81:AFunc:={ ntmps:=55,results:=[.tmp 2],body:=(
 .seq (
 .g r81_0 [0]) (
 .seq (
 .g r81_1 [0,3]) (
 .seq (
 .g r81_2 [0,3,4]) (
 .seq (
 .seq (
 .g r81_3 [0,3,4,11]) (
 .block 0 (
  .seq (
  .g r81_5 [0,3,4,11,15]) (
  .cond (.t 15) (
   .region true r81_6 [0,4]) (
   .seq (
   .g r81_7 [0,3,4,11,21]) (
   .cond (.t 21) (
    .region true r81_8 [0,4]) (
    .seq (
    .g r81_9 [0,3,4,11,27]) (
    .cond (.t 27) (
     .region true r81_10 [0,4]) (
     .seq (
     .g r81_11 [0,3,4,11,33]) (
     .cond (.t 33) (
      .region true r81_12 [0,4]) (
      .seq (
      .g r81_13 [0,3,4,39]) (
      .cond (.t 39) (
       .region true r81_14 [0,4]) (
       .seq (
       .g r81_4 [2]) (
       .ret)))))))))))))) (
 .seq (
 .g r81_15 [0,4]) (
 .seq (
 .g r81_16 [2]) (
 .ret))))))) }
theorem c81:cfunc Tryd.prog (kof k81) Tryd.f81=some f81:=by kernel_rfl
abbrev r82_0:List AOper:=[
 oo 3 (.box 42 (.t 1)) [],
 zi 4 0 []]
abbrev r82_1:List AOper:=[
 zm 8 0 [],
 oo 9 (.bslice 9 8 [.str ⟨#[]⟩,.str ⟨#[]⟩,.str ⟨#[]⟩,.str ⟨#[]⟩,.str ⟨#[]⟩,.str ⟨#[]⟩,.str ⟨#[]⟩,.str ⟨#[]⟩] [(0,1,(.c (.str ⟨#[40]⟩))),(1,1,(.c (.str ⟨#[123]⟩))),(2,1,(.c (.str ⟨#[91]⟩))),(3,1,(.c (.str ⟨#[98,101,103,105,110]⟩))),(4,1,(.c (.str ⟨#[99,97,115,101]⟩))),(5,1,(.c (.str ⟨#[102,117,110]⟩))),(6,1,(.c (.str ⟨#[116,114,121]⟩))),(7,1,(.c (.str ⟨#[114,101,99,101,105,118,101]⟩)))]) [],
 zq 10 70 8 9 [0,1],
 zm 5 10 [2,2,0,1,2]]
abbrev r82_2:List AOper:=[
 zm 11 5 [],
 oo 12 (.bin .eql (.t 11) (.c (.str ⟨#[]⟩))) [0]]
abbrev r82_3:List AOper:=[
 zf 13 5 3 [],
 zl 14 13 [0],
 oo 15 (.callF 36 [(.c (.int .i64 24)),(.t 14)]) [1]]
abbrev r82_4:List AOper:=[
 zm 16 0 [],
 zn 17 16 [0],
 zf 18 1 17 [1],
 zl 19 18 [2],
 za 20 19 1 [3],
 zn 21 16 [0,0,1,2,3,4],
 zf 22 1 21 [5,0,1,2,3,4],
 zs 1 22 20 [6,4,0,1,2,3,4]]
abbrev r82_5:List AOper:=[
 zm 23 5 []]
abbrev r82_6:List AOper:=[
 oo 25 (.bin .eql (.t 23) (.c (.str ⟨#[40]⟩))) [],
 zm 24 25 [0]]
abbrev r82_7:List AOper:=[
 zm 26 0 [],
 zk 27 67 26 [0],
 zm 6 27 [1,1,0,1]]
abbrev r82_8:List AOper:=[
 zm 28 0 [],
 oo 29 (.callF 34 [(.t 28),(.c (.str ⟨#[41]⟩))]) [0]]
abbrev r82_9:List AOper:=[
 zm 30 6 [],
 zm 4 30 [0,0]]
abbrev r82_10:List AOper:=[
 oo 32 (.bin .eql (.t 23) (.c (.str ⟨#[123]⟩))) [],
 zm 31 32 [0]]
abbrev r82_11:List AOper:=[
 zm 33 0 [],
 oo 34 (.callF 54 [(.t 33),(.c (.str ⟨#[125]⟩)),(.c (.int .i64 0))]) [0],
 zf 35 0 3 [],
 on (.store 1 (.t 35) (.c (.int .i64 6))) [2,1],
 zf 36 4 3 [0,1,2,3],
 zs 1 36 34 [4,1,3,0,1,2,3]]
abbrev r82_12:List AOper:=[
 oo 38 (.bin .eql (.t 23) (.c (.str ⟨#[91]⟩))) [],
 zm 37 38 [0]]
abbrev r82_13:List AOper:=[
 zm 40 0 [],
 zk 41 83 40 [0],
 zm 39 41 [1],
 zx 42 39 0 [2],
 zx 43 39 1 [2],
 zf 44 0 3 [0,1,2,3],
 zs 1 44 42 [5,3,1,0,1,2,3],
 zf 45 4 3 [0,1,2,3,4,5,6],
 zs 1 45 43 [7,4,6,0,1,2,3,4,5,6]]
abbrev r82_14:List AOper:=[
 oo 47 (.bin .eql (.t 23) (.c (.str ⟨#[98,101,103,105,110]⟩))) [],
 zm 46 47 [0]]
abbrev r82_15:List AOper:=[
 zm 48 0 [],
 zk 49 61 48 [0],
 zf 50 0 3 [],
 on (.store 1 (.t 50) (.c (.int .i64 19))) [2,1],
 zf 51 4 3 [0,1,2,3],
 zs 1 51 49 [4,1,3,0,1,2,3]]
abbrev r82_16:List AOper:=[
 zm 52 0 [],
 oo 53 (.callF 34 [(.t 52),(.c (.str ⟨#[101,110,100]⟩))]) [0]]
abbrev r82_17:List AOper:=[
 oo 55 (.bin .eql (.t 23) (.c (.str ⟨#[99,97,115,101]⟩))) [],
 zm 54 55 [0]]
abbrev r82_18:List AOper:=[
 zm 56 0 [],
 zk 57 67 56 [0],
 zm 7 57 [1,1,0,1]]
abbrev r82_19:List AOper:=[
 zm 58 0 [],
 oo 59 (.callF 34 [(.t 58),(.c (.str ⟨#[111,102]⟩))]) [0]]
abbrev r82_20:List AOper:=[
 zm 60 7 [],
 zm 61 0 [],
 zk 62 84 61 [1],
 oo 63 (.bslice 3 2 [.int .i64 0,.int .i64 0] [(0,1,(.t 60)),(1,1,(.t 62))]) [0,2],
 zf 64 0 3 [],
 on (.store 1 (.t 64) (.c (.int .i64 15))) [4,2],
 zf 65 4 3 [0,1,2,3,4,5],
 zs 1 65 63 [6,3,5,0,1,2,3,4,5]]
abbrev r82_21:List AOper:=[
 zm 66 0 [],
 oo 67 (.callF 34 [(.t 66),(.c (.str ⟨#[101,110,100]⟩))]) [0]]
abbrev r82_22:List AOper:=[
 oo 69 (.bin .eql (.t 23) (.c (.str ⟨#[102,117,110]⟩))) [],
 zm 68 69 [0]]
abbrev r82_23:List AOper:=[
 zm 70 0 [],
 zr 71 6 3 [],
 zq 72 85 70 71 [0,1],
 zs 6 3 72 [2,2,0,1,2]]
abbrev r82_24:List AOper:=[
 oo 74 (.bin .eql (.t 23) (.c (.str ⟨#[116,114,121]⟩))) [],
 zm 73 74 [0]]
abbrev r82_25:List AOper:=[
 zm 75 0 [],
 zr 76 6 3 [],
 zq 77 86 75 76 [0,1],
 zs 6 3 77 [2,2,0,1,2]]
abbrev r82_26:List AOper:=[
 oo 79 (.bin .eql (.t 23) (.c (.str ⟨#[114,101,99,101,105,118,101]⟩))) [],
 zm 78 79 [0]]
abbrev r82_27:List AOper:=[
 zm 80 0 [],
 zr 81 6 3 [],
 zq 82 87 80 81 [0,1],
 zs 6 3 82 [2,2,0,1,2]]
abbrev r82_28:List AOper:=[
 zm 83 0 [],
 zr 84 6 3 [],
 zq 85 39 83 84 [0,1],
 zm 4 85 [2,2,0,1,2]]
def k82:List (List Nat):=[[0,3],[0,3,5],[0,3,5,12],[0,3,5],[0,3,5],[0,3,23],[0,3,23,24],[0,6],[6],[4],[0,3,23,31],[0,3],[0,3,23,37],[0,3],[0,3,23,46],[0,3],[0,3],[0,3,23,54],[0,3,7],[0,3,7],[0,3],[0,3],[0,3,23,68],[0,3],[0,3,23,73],[0,3],[0,3,78],[0,3],[4]]
def f82:AFunc:={ ntmps:=86,results:=[.tmp 4],body:=(
 .seq (
 .g r82_0 [0,3]) (
 .seq (
 .g r82_1 [0,3,5]) (
 .seq (
 .seq (
 .g r82_2 [0,3,5,12]) (
 .cond (.t 12) (
  .g r82_3 [0,3,5]) (
  .skip))) (
 .seq (
 .g r82_4 [0,3,5]) (
 .seq (
 .seq (
 .g r82_5 [0,3,23]) (
 .block 0 (
  .seq (
  .g r82_6 [0,3,23,24]) (
  .cond (.t 24) (
   .seq (
   .g r82_7 [0,6]) (
   .seq (
   .g r82_8 [6]) (
   .seq (
   .g r82_9 [4]) (
   .ret)))) (
   .seq (
   .g r82_10 [0,3,23,31]) (
   .cond (.t 31) (
    .g r82_11 [0,3]) (
    .seq (
    .g r82_12 [0,3,23,37]) (
    .cond (.t 37) (
     .g r82_13 [0,3]) (
     .seq (
     .g r82_14 [0,3,23,46]) (
     .cond (.t 46) (
      .seq (
      .g r82_15 [0,3]) (
      .g r82_16 [0,3])) (
      .seq (
      .g r82_17 [0,3,23,54]) (
      .cond (.t 54) (
       .seq (
       .g r82_18 [0,3,7]) (
       .seq (
       .g r82_19 [0,3,7]) (
       .seq (
       .g r82_20 [0,3]) (
       .g r82_21 [0,3])))) (
       .seq (
       .g r82_22 [0,3,23,68]) (
       .cond (.t 68) (
        .g r82_23 [0,3]) (
        .seq (
        .g r82_24 [0,3,23,73]) (
        .cond (.t 73) (
         .g r82_25 [0,3]) (
         .seq (
         .g r82_26 [0,3,78]) (
         .cond (.t 78) (
          .g r82_27 [0,3]) (
          .skip))))))))))))))))))) (
 .seq (
 .g r82_28 [4]) (
 .ret))))))) }
theorem c82:cfunc Tryd.prog (kof k82) Tryd.f82=some f82:=by kernel_rfl
abbrev r83_0:List AOper:=[
 zi 2 0 [],
 oo 3 (.mv (.c (.nils))) [0]]
abbrev r83_1:List AOper:=[
 zm 4 0 [],
 oo 5 (.callF 45 [(.t 4),(.c (.str ⟨#[93]⟩))]) [0]]
abbrev r83_2:List AOper:=[
 zi 2 7 [],
 oo 3 (.mv (.c (.nils))) [0,0]]
abbrev r83_3:List AOper:=[
 zm 6 0 [],
 zk 7 61 6 [0],
 zi 2 7 [1],
 zm 3 7 [1,2,0,1,2]]
abbrev r83_4:List AOper:=[
 zm 8 0 [],
 oo 9 (.callF 45 [(.t 8),(.c (.str ⟨#[124]⟩))]) [0]]
abbrev r83_5:List AOper:=[
 zm 10 3 [],
 zm 11 0 [],
 zk 12 67 11 [1],
 oo 13 (.bslice 3 1 [.int .i64 0] [(0,1,(.t 12))]) [2],
 oo 14 (.app 3 1 8 (.t 10) (.t 13)) [0,3,2],
 zi 2 8 [4],
 zm 3 14 [4,5,0,1,2,3,4,5]]
abbrev r83_6:List AOper:=[
 zm 15 0 [],
 oo 16 (.callF 34 [(.t 15),(.c (.str ⟨#[93]⟩))]) [0]]
abbrev r83_7:List AOper:=[
 zm 17 2 [],
 zm 18 3 [],
 zm 2 17 [0,0],
 zm 3 18 [1,2,0,1,2]]
def k83:List (List Nat):=[[0],[0,5],[2,3],[0,2,3],[0,2,3,9],[0,2,3],[2,3],[2,3]]
def f83:AFunc:={ ntmps:=19,results:=[.tmp 2,.tmp 3],body:=(
 .seq (
 .g r83_0 [0]) (
 .seq (
 .seq (
 .g r83_1 [0,5]) (
 .cond (.t 5) (
  .seq (
  .g r83_2 [2,3]) (
  .ret)) (
  .skip))) (
 .seq (
 .g r83_3 [0,2,3]) (
 .seq (
 .seq (
 .g r83_4 [0,2,3,9]) (
 .cond (.t 9) (
  .g r83_5 [0,2,3]) (
  .skip))) (
 .seq (
 .g r83_6 [2,3]) (
 .seq (
 .g r83_7 [2,3]) (
 .ret))))))) }
theorem c83:cfunc Tryd.prog (kof k83) Tryd.f83=some f83:=by kernel_rfl
abbrev r84_0:List AOper:=[
 zi 2 0 []]
abbrev r84_1:List AOper:=[
 zm 3 0 [],
 zm 4 0 [],
 oo 5 (.mkfn (.func 89) [(.t 4)] []) [1],
 zq 6 88 3 5 [0,2],
 zm 2 6 [3,3,0,1,2,3]]
def k84:List (List Nat):=[[0],[2]]
def f84:AFunc:={ ntmps:=7,results:=[.tmp 2],body:=(
 .seq (
 .g r84_0 [0]) (
 .seq (
 .g r84_1 [2]) (
 .ret))) }
theorem c84:cfunc Tryd.prog (kof k84) Tryd.f84=some f84:=by kernel_rfl
abbrev r85_0:List AOper:=[
 oo 2 (.box 59 (.t 0)) [],
 oo 3 (.box 42 (.t 1)) [],
 oo 4 (.alloc 42 (.agg [.int .i64 0,.str ⟨#[]⟩,.int .i64 0,.flt .f64 0,.nils,.int .i64 0])) []]
abbrev r85_1:List AOper:=[
 zl 6 2 [],
 zk 7 37 6 [0],
 oo 8 (.fld 0 none (.t 7)) [1],
 ze 9 8 1 [2]]
abbrev r85_2:List AOper:=[
 zl 10 2 [],
 oo 11 (.callF 35 [(.t 10),(.c (.int .i64 1))]) [0],
 oo 12 (.fld 1 none (.t 11)) [1],
 zf 13 0 3 [],
 on (.store 1 (.t 13) (.c (.int .i64 14))) [3,1],
 zf 14 1 3 [0,1,2,3,4],
 zs 1 14 12 [5,2,4,0,1,2,3,4]]
abbrev r85_3:List AOper:=[
 zl 15 2 [],
 oo 16 (.callF 34 [(.t 15),(.c (.str ⟨#[47]⟩))]) [0]]
abbrev r85_4:List AOper:=[
 zl 17 2 [],
 oo 18 (.callF 35 [(.t 17),(.c (.int .i64 3))]) [0],
 oo 5 (.alloc 31 (.agg [.int .i64 0,.str ⟨#[]⟩,.int .i64 0,.flt .f64 0,.int .i64 0])) [],
 zs 5 5 18 [2,1,1,0,1,2]]
abbrev r85_5:List AOper:=[
 zf 19 2 5 [],
 zl 20 19 [0],
 oo 21 (.bin .gtr (.t 20) (.c (.int .i64 16))) [1]]
abbrev r85_6:List AOper:=[
 zf 22 4 5 [],
 zl 23 22 [0],
 oo 24 (.callF 36 [(.c (.int .i64 2)),(.t 23)]) [1]]
abbrev r85_7:List AOper:=[
 zf 25 2 5 [],
 zl 26 25 [0],
 zf 27 2 3 [0,1],
 zs 1 27 26 [2,1,0,1]]
abbrev r85_8:List AOper:=[
 zr 28 6 3 [],
 zs 6 4 28 [0,0]]
abbrev r85_9:List AOper:=[
 zl 29 2 [],
 oo 30 (.mkfn (.func 90) [] [(.t 2)]) [],
 zq 31 88 29 30 [0,1],
 oo 32 (.bslice 3 1 [.int .i64 0] [(0,1,(.t 31))]) [2],
 zf 33 0 3 [],
 on (.store 1 (.t 33) (.c (.int .i64 13))) [4,2],
 zf 34 4 3 [0,1,2,3,4,5],
 zs 1 34 32 [6,3,5,0,1,2,3,4,5]]
abbrev r85_10:List AOper:=[
 zl 35 2 [],
 oo 36 (.callF 34 [(.t 35),(.c (.str ⟨#[101,110,100]⟩))]) [0]]
abbrev r85_11:List AOper:=[
 zr 37 6 3 [],
 zs 6 4 37 [0,0]]
def k85:List (List Nat):=[[2,3,4],[2,3,4,9],[2,3,4],[2,3,4],[3,4,5],[3,4,5,21],[3,4,5],[3,4],[4],[2,3,4],[3,4],[4]]
def f85:AFunc:={ ntmps:=38,results:=[.cell 4 (some 6)],body:=(
 .seq (
 .g r85_0 [2,3,4]) (
 .seq (
 .seq (
 .g r85_1 [2,3,4,9]) (
 .cond (.t 9) (
  .seq (
  .g r85_2 [2,3,4]) (
  .seq (
  .g r85_3 [2,3,4]) (
  .seq (
  .g r85_4 [3,4,5]) (
  .seq (
  .seq (
  .g r85_5 [3,4,5,21]) (
  .cond (.t 21) (
   .g r85_6 [3,4,5]) (
   .skip))) (
  .seq (
  .g r85_7 [3,4]) (
  .seq (
  .g r85_8 [4]) (
  .ret))))))) (
  .skip))) (
 .seq (
 .g r85_9 [2,3,4]) (
 .seq (
 .g r85_10 [3,4]) (
 .seq (
 .g r85_11 [4]) (
 .ret)))))) }
theorem c85:cfunc Tryd.prog (kof k85) Tryd.f85=some f85:=by kernel_rfl
abbrev r86_0:List AOper:=[
 oo 3 (.box 42 (.t 1)) [],
 oo 4 (.alloc 42 (.agg [.int .i64 0,.str ⟨#[]⟩,.int .i64 0,.flt .f64 0,.nils,.int .i64 0])) []]
abbrev r86_1:List AOper:=[
 zf 6 0 3 [],
 on (.store 1 (.t 6) (.c (.int .i64 16))) [0]]
abbrev r86_2:List AOper:=[
 zm 7 0 [],
 zk 8 62 7 [0],
 oo 9 (.bslice 3 1 [.int .i64 0] [(0,1,(.t 8))]) [1],
 zf 10 4 3 [0,1,2],
 zs 1 10 9 [3,2,1,0,1,2]]
abbrev r86_3:List AOper:=[
 zm 11 0 [],
 oo 12 (.callF 45 [(.t 11),(.c (.str ⟨#[111,102]⟩))]) [0]]
abbrev r86_4:List AOper:=[
 zf 13 4 3 [],
 zl 14 13 [0],
 zm 15 0 [],
 zk 16 84 15 [2],
 oo 17 (.bslice 3 1 [.int .i64 0] [(0,1,(.t 16))]) [3],
 oo 18 (.app 3 1 8 (.t 14) (.t 17)) [1,4,3],
 zf 19 4 3 [0,1,2,3,4,5],
 zs 1 19 18 [6,5,5,0,1,2,3,4,5]]
abbrev r86_5:List AOper:=[
 zf 20 4 3 [],
 zl 21 20 [0],
 zm 22 0 [],
 oo 23 (.callF 91 [(.t 22),(.c (.int .i64 20))]) [2],
 oo 24 (.bslice 3 1 [.int .i64 0] [(0,1,(.t 23))]) [3],
 oo 25 (.app 3 1 8 (.t 21) (.t 24)) [1,4,3],
 zf 26 4 3 [0,1,2,3,4,5],
 zs 1 26 25 [6,5,5,0,1,2,3,4,5]]
abbrev r86_6:List AOper:=[
 zm 27 0 [],
 oo 28 (.callF 45 [(.t 27),(.c (.str ⟨#[99,97,116,99,104]⟩))]) [0],
 zm 5 28 [1,1,0,1]]
abbrev r86_7:List AOper:=[
 zm 29 5 []]
abbrev r86_8:List AOper:=[
 zf 30 4 3 [],
 zl 31 30 [0],
 zm 32 0 [],
 zm 33 0 [],
 oo 34 (.mkfn (.func 92) [(.t 33)] []) [3],
 zq 35 88 32 34 [2,4],
 oo 36 (.bslice 3 1 [.int .i64 0] [(0,1,(.t 35))]) [5],
 oo 37 (.app 3 1 8 (.t 31) (.t 36)) [1,6,5],
 zf 38 4 3 [0,1,2,3,4,5,6,7],
 zs 1 38 37 [8,7,7,0,1,2,3,4,5,6,7]]
abbrev r86_9:List AOper:=[
 zf 39 4 3 [],
 zl 40 39 [0],
 zm 41 0 [],
 oo 42 (.callF 91 [(.t 41),(.c (.int .i64 20))]) [2],
 oo 43 (.bslice 3 1 [.int .i64 0] [(0,1,(.t 42))]) [3],
 oo 44 (.app 3 1 8 (.t 40) (.t 43)) [1,4,3],
 zf 45 4 3 [0,1,2,3,4,5],
 zs 1 45 44 [6,5,5,0,1,2,3,4,5]]
abbrev r86_11:List AOper:=[
 zm 50 0 [],
 oo 51 (.callF 45 [(.t 50),(.c (.str ⟨#[97,102,116,101,114]⟩))]) [0],
 zm 49 51 [1,1]]
abbrev r86_12:List AOper:=[
 zf 52 2 3 [],
 on (.store 1 (.t 52) (.c (.int .i64 1))) [0]]
abbrev r86_13:List AOper:=[
 zf 53 4 3 [],
 zl 54 53 [0],
 zm 55 0 [],
 zk 56 62 55 [2],
 oo 57 (.bslice 3 1 [.int .i64 0] [(0,1,(.t 56))]) [3],
 oo 58 (.app 3 1 8 (.t 54) (.t 57)) [1,4,3],
 zf 59 4 3 [0,1,2,3,4,5],
 zs 1 59 58 [6,5,5,0,1,2,3,4,5]]
abbrev r86_14:List AOper:=[
 zm 61 5 [],
 zm 60 61 [0]]
abbrev r86_15:List AOper:=[
 zf 62 4 3 [],
 zl 63 62 [0],
 zm 64 0 [],
 oo 65 (.callF 91 [(.t 64),(.c (.int .i64 19))]) [2],
 oo 66 (.bslice 3 1 [.int .i64 0] [(0,1,(.t 65))]) [3],
 oo 67 (.app 3 1 8 (.t 63) (.t 66)) [1,4,3],
 zf 68 4 3 [0,1,2,3,4,5],
 zs 1 68 67 [6,5,5,0,1,2,3,4,5]]
abbrev r86_10:List AOper:=[
 zm 46 0 [],
 zk 47 33 46 [0],
 oo 48 (.callF 36 [(.c (.int .i64 24)),(.t 47)]) [1,1]]
abbrev r86_16:List AOper:=[
 zm 69 0 [],
 oo 70 (.callF 34 [(.t 69),(.c (.str ⟨#[101,110,100]⟩))]) [0]]
abbrev r86_17:List AOper:=[
 zr 71 6 3 [],
 zs 6 4 71 [0,0]]
def m86_4:List Nat:=[0,1,0,4,12,31,63,127]
theorem d86_4:okDraw r86_4 m86_4=true:=by kernel_rfl
def m86_5:List Nat:=[0,1,0,4,12,31,63,127]
theorem d86_5:okDraw r86_5 m86_5=true:=by kernel_rfl
def m86_8:List Nat:=[0,1,0,0,8,28,60,127,255,511]
theorem d86_8:okDraw r86_8 m86_8=true:=by kernel_rfl
def m86_9:List Nat:=[0,1,0,4,12,31,63,127]
theorem d86_9:okDraw r86_9 m86_9=true:=by kernel_rfl
def m86_13:List Nat:=[0,1,0,4,12,31,63,127]
theorem d86_13:okDraw r86_13 m86_13=true:=by kernel_rfl
def m86_15:List Nat:=[0,1,0,4,12,31,63,127]
theorem d86_15:okDraw r86_15 m86_15=true:=by kernel_rfl
def k86:List (List Nat):=[[0,3,4],[0,3,4],[0,3,4],[0,3,4,12],[0,3,4],[0,3,4],[0,3,4,5],[0,3,4,5,29],[0,3,4,5],[0,3,4,5],[0,3,4],[0,3,4,5,49],[0,3,4],[0,3,4],[0,3,4,60],[0,3,4],[3,4],[4]]
def f86:AFunc:={ ntmps:=72,results:=[.cell 4 (some 6)],body:=(
 .seq (
 .g r86_0 [0,3,4]) (
 .seq (
 .g r86_1 [0,3,4]) (
 .seq (
 .g r86_2 [0,3,4]) (
 .seq (
 .seq (
 .g r86_3 [0,3,4,12]) (
 .cond (.t 12) (
  .region true r86_4 [0,3,4]) (
  .region true r86_5 [0,3,4]))) (
 .seq (
 .g r86_6 [0,3,4,5]) (
 .seq (
 .seq (
 .g r86_7 [0,3,4,5,29]) (
 .cond (.t 29) (
  .region true r86_8 [0,3,4,5]) (
  .region true r86_9 [0,3,4,5]))) (
 .seq (
 .block 0 (
  .seq (
  .g r86_11 [0,3,4,5,49]) (
  .cond (.t 49) (
   .seq (
   .g r86_12 [0,3,4]) (
   .region true r86_13 [0,3,4])) (
   .seq (
   .g r86_14 [0,3,4,60]) (
   .cond (.t 60) (
    .region true r86_15 [0,3,4]) (
    .g r86_10 [0,3,4])))))) (
 .seq (
 .g r86_16 [3,4]) (
 .seq (
 .g r86_17 [4]) (
 .ret)))))))))) }
theorem c86:cfunc Tryd.prog (kof k86) Tryd.f86=some f86:=by kernel_rfl
abbrev r87_0:List AOper:=[
 oo 3 (.box 42 (.t 1)) [],
 oo 4 (.alloc 42 (.agg [.int .i64 0,.str ⟨#[]⟩,.int .i64 0,.flt .f64 0,.nils,.int .i64 0])) []]
abbrev r87_1:List AOper:=[
 zf 7 0 3 [],
 on (.store 1 (.t 7) (.c (.int .i64 18))) [0]]
abbrev r87_2:List AOper:=[
 zm 8 0 [],
 oo 9 (.callF 53 [(.t 8),(.c (.str ⟨#[97,102,116,101,114]⟩))]) [0],
 oo 10 (.un .not (.t 9)) [1],
 zm 5 10 [2,1,0,1,2]]
abbrev r87_3:List AOper:=[
 zm 11 5 []]
abbrev r87_4:List AOper:=[
 zm 12 0 [],
 zk 13 84 12 [0],
 oo 14 (.bslice 3 1 [.int .i64 0] [(0,1,(.t 13))]) [1],
 zf 15 4 3 [0,1,2],
 zs 1 15 14 [3,2,1,0,1,2]]
abbrev r87_5:List AOper:=[
 zm 16 0 [],
 oo 17 (.callF 91 [(.t 16),(.c (.int .i64 20))]) [0],
 oo 18 (.bslice 3 1 [.int .i64 0] [(0,1,(.t 17))]) [1],
 zf 19 4 3 [0,1,2],
 zs 1 19 18 [3,2,1,0,1,2]]
abbrev r87_6:List AOper:=[
 zm 20 0 [],
 zk 21 37 20 [0],
 oo 6 (.alloc 31 (.agg [.int .i64 0,.str ⟨#[]⟩,.int .i64 0,.flt .f64 0,.int .i64 0])) [],
 zs 5 6 21 [2,1,1,0,1,2]]
abbrev r87_8:List AOper:=[
 zm 26 0 [],
 oo 27 (.callF 45 [(.t 26),(.c (.str ⟨#[97,102,116,101,114]⟩))]) [0],
 zm 25 27 [1,1]]
abbrev r87_9:List AOper:=[
 zm 28 0 [],
 zk 29 37 28 [0],
 zs 5 6 29 [1,1,0,1]]
abbrev r87_11:List AOper:=[
 zf 34 0 6 [],
 zl 35 34 [0],
 ze 36 35 3 [1],
 zm 37 36 [2],
 yf 38 2 6 37 true [3],
 yl 39 38 37 true [4,3],
 og 40 (.bin .eql (.t 39) (.c (.int .i64 0))) 37 true [5,3],
 zp 41 37 40 [3,6],
 zm 33 41 [7,3]]
abbrev r87_12:List AOper:=[
 zf 42 2 3 [],
 on (.store 1 (.t 42) (.c (.int .i64 1))) [0]]
abbrev r87_13:List AOper:=[
 zf 44 0 6 [],
 zl 45 44 [0],
 ze 46 45 1 [1],
 zm 47 46 [2],
 yf 48 1 6 47 true [3],
 yl 49 48 47 true [4,3],
 og 50 (.bin .eql (.t 49) (.c (.str ⟨#[105,110,102,105,110,105,116,121]⟩))) 47 true [5,3],
 zp 51 47 50 [3,6],
 zm 43 51 [7,3]]
abbrev r87_14:List AOper:=[
 zf 52 2 3 [],
 on (.store 1 (.t 52) (.c (.int .i64 2))) [0]]
abbrev r87_10:List AOper:=[
 zf 30 4 6 [],
 zl 31 30 [0],
 oo 32 (.callF 36 [(.c (.int .i64 24)),(.t 31)]) [1]]
abbrev r87_15:List AOper:=[
 zm 53 0 [],
 zn 54 53 [0],
 zf 55 1 54 [1],
 zl 56 55 [2],
 za 57 56 1 [3],
 zn 58 53 [0,0,1,2,3,4],
 zf 59 1 58 [5,0,1,2,3,4],
 zs 1 59 57 [6,4,0,1,2,3,4]]
abbrev r87_16:List AOper:=[
 zm 60 0 [],
 oo 61 (.callF 34 [(.t 60),(.c (.str ⟨#[45,62]⟩))]) [0]]
abbrev r87_17:List AOper:=[
 zf 62 4 3 [],
 zl 63 62 [0],
 zm 64 0 [],
 zk 65 62 64 [2],
 oo 66 (.bslice 3 1 [.int .i64 0] [(0,1,(.t 65))]) [3],
 oo 67 (.app 3 1 8 (.t 63) (.t 66)) [1,4,3],
 zf 68 4 3 [0,1,2,3,4,5],
 zs 1 68 67 [6,5,5,0,1,2,3,4,5]]
abbrev r87_18:List AOper:=[
 zm 70 5 [],
 zm 69 70 [0]]
abbrev r87_19:List AOper:=[
 zf 71 4 3 [],
 zl 72 71 [0],
 zm 73 0 [],
 oo 74 (.callF 91 [(.t 73),(.c (.int .i64 19))]) [2],
 oo 75 (.bslice 3 1 [.int .i64 0] [(0,1,(.t 74))]) [3],
 oo 76 (.app 3 1 8 (.t 72) (.t 75)) [1,4,3],
 zf 77 4 3 [0,1,2,3,4,5],
 zs 1 77 76 [6,5,5,0,1,2,3,4,5]]
abbrev r87_7:List AOper:=[
 zf 22 4 6 [],
 zl 23 22 [0],
 oo 24 (.callF 36 [(.c (.int .i64 24)),(.t 23)]) [1]]
abbrev r87_20:List AOper:=[
 zm 78 0 [],
 oo 79 (.callF 34 [(.t 78),(.c (.str ⟨#[101,110,100]⟩))]) [0]]
abbrev r87_21:List AOper:=[
 zr 80 6 3 [],
 zs 6 4 80 [0,0]]
def m87_17:List Nat:=[0,1,0,4,12,31,63,127]
theorem d87_17:okDraw r87_17 m87_17=true:=by kernel_rfl
def m87_19:List Nat:=[0,1,0,4,12,31,63,127]
theorem d87_19:okDraw r87_19 m87_19=true:=by kernel_rfl
def k87:List (List Nat):=[[0,3,4],[0,3,4],[0,3,4,5],[0,3,4,5,11],[0,3,4,5],[0,3,4,5],[0,3,4,5,6],[0,3,4],[0,3,4,5,6,25],[0,3,4,6],[0,3,4],[0,3,4,6,33],[0,3,4],[0,3,4,6,43],[0,3,4],[0,3,4],[0,3,4],[0,3,4],[0,3,4,6,69],[0,3,4],[3,4],[4]]
def f87:AFunc:={ ntmps:=81,results:=[.cell 4 (some 6)],body:=(
 .seq (
 .g r87_0 [0,3,4]) (
 .seq (
 .g r87_1 [0,3,4]) (
 .seq (
 .g r87_2 [0,3,4,5]) (
 .seq (
 .seq (
 .g r87_3 [0,3,4,5,11]) (
 .cond (.t 11) (
  .g r87_4 [0,3,4,5]) (
  .g r87_5 [0,3,4,5]))) (
 .seq (
 .seq (
 .g r87_6 [0,3,4,5,6]) (
 .block 0 (
  .seq (
  .g r87_8 [0,3,4,5,6,25]) (
  .cond (.t 25) (
   .seq (
   .g r87_9 [0,3,4,6]) (
   .seq (
   .block 1 (
    .seq (
    .g r87_11 [0,3,4,6,33]) (
    .cond (.t 33) (
     .g r87_12 [0,3,4]) (
     .seq (
     .g r87_13 [0,3,4,6,43]) (
     .cond (.t 43) (
      .g r87_14 [0,3,4]) (
      .g r87_10 [0,3,4])))))) (
   .seq (
   .g r87_15 [0,3,4]) (
   .seq (
   .g r87_16 [0,3,4]) (
   .region true r87_17 [0,3,4]))))) (
   .seq (
   .g r87_18 [0,3,4,6,69]) (
   .cond (.t 69) (
    .region true r87_19 [0,3,4]) (
    .g r87_7 [0,3,4]))))))) (
 .seq (
 .g r87_20 [3,4]) (
 .seq (
 .g r87_21 [4]) (
 .ret)))))))) }
theorem c87:cfunc Tryd.prog (kof k87) Tryd.f87=some f87:=by kernel_rfl
abbrev r88_0:List AOper:=[
 zi 4 0 []]
abbrev r88_1:List AOper:=[
 zm 7 0 [],
 zk 8 33 7 [0],
 zm 5 8 [1,1,0,1]]
abbrev r88_2:List AOper:=[
 zm 9 1 [],
 oo 10 (.callV (.t 9) []) [0],
 oo 11 (.bslice 3 1 [.int .i64 0] [(0,1,(.t 10))]) [1],
 zm 6 11 [2,1,0,1,2]]
abbrev r88_3:List AOper:=[
 zm 12 0 [],
 oo 13 (.callF 45 [(.t 12),(.c (.str ⟨#[59]⟩))]) [0]]
abbrev r88_4:List AOper:=[
 zm 14 6 [],
 zm 15 1 [],
 oo 16 (.callV (.t 15) []) [1],
 oo 17 (.bslice 3 1 [.int .i64 0] [(0,1,(.t 16))]) [2],
 oo 18 (.app 3 1 8 (.t 14) (.t 17)) [0,3,2],
 zm 6 18 [4,4,0,1,2,3,4]]
def l88_0:ACode:=
 .seq (
 .seq (
 .g r88_3 [0,1,5,6,13]) (
 .cond (.t 13) (
  .skip) (
  .exit 0))) (
 .block 1 (
  .g r88_4 [0,1,5,6]))
abbrev r88_5:List AOper:=[
 zm 19 0 [],
 zm 20 6 [],
 zm 21 5 [],
 oo 22 (.build [.int .i64 0,.str ⟨#[]⟩,.int .i64 0,.flt .f64 0,.nils,.int .i64 0] [(0,1,(.c (.int .i64 20))),(4,1,(.t 20)),(5,1,(.t 21))]) [1,2],
 zq 23 39 19 22 [0,3],
 zm 4 23 [4,4,0,1,2,3,4]]
def k88:List (List Nat):=[[0,1],[0,1,5],[0,1,5,6],[0,1,5,6,13],[0,1,5,6],[4]]
def f88:AFunc:={ ntmps:=24,results:=[.tmp 4],body:=(
 .seq (
 .g r88_0 [0,1]) (
 .seq (
 .g r88_1 [0,1,5]) (
 .seq (
 .g r88_2 [0,1,5,6]) (
 .seq (
 .block 0 (
  .loop l88_0)) (
 .seq (
 .g r88_5 [4]) (
 .ret)))))) }
theorem c88:cfunc Tryd.prog (kof k88) Tryd.f88=some f88:=by kernel_rfl
abbrev r89_0:List AOper:=[
 zi 2 0 []]
abbrev r89_1:List AOper:=[
 zm 4 0 [],
 zk 5 33 4 [0],
 oo 6 (.build [.int .i64 0,.str ⟨#[]⟩,.int .i64 0,.flt .f64 0,.nils,.int .i64 0] [(0,1,(.c (.int .i64 21))),(5,1,(.t 5))]) [1],
 oo 3 (.alloc 42 (.agg [.int .i64 0,.str ⟨#[]⟩,.int .i64 0,.flt .f64 0,.nils,.int .i64 0])) [],
 zs 6 3 6 [3,2,1,0,1,2,3]]
abbrev r89_2:List AOper:=[
 zm 7 0 [],
 zr 8 6 3 [],
 zm 9 0 [],
 zk 10 67 9 [2],
 oo 11 (.bslice 3 1 [.int .i64 0] [(0,1,(.t 10))]) [3],
 oo 12 (.callF 55 [(.t 7),(.t 8),(.t 11)]) [0,1,4,3],
 zm 2 12 [5,5,0,1,2,3,4,5]]
def m89_2:List Nat:=[0,0,0,4,12,31,63]
theorem d89_2:okDraw r89_2 m89_2=true:=by kernel_rfl
def k89:List (List Nat):=[[0],[0,3],[2]]
def f89:AFunc:={ ntmps:=13,results:=[.tmp 2],body:=(
 .seq (
 .g r89_0 [0]) (
 .seq (
 .g r89_1 [0,3]) (
 .seq (
 .region true r89_2 [2]) (
 .ret)))) }
theorem c89:cfunc Tryd.prog (kof k89) Tryd.f89=some f89:=by kernel_rfl
abbrev r90_0:List AOper:=[
 zi 1 0 []]
abbrev r90_1:List AOper:=[
 zl 3 0 [],
 zk 4 33 3 [0],
 oo 5 (.build [.int .i64 0,.str ⟨#[]⟩,.int .i64 0,.flt .f64 0,.nils,.int .i64 0] [(0,1,(.c (.int .i64 21))),(5,1,(.t 4))]) [1],
 oo 2 (.alloc 42 (.agg [.int .i64 0,.str ⟨#[]⟩,.int .i64 0,.flt .f64 0,.nils,.int .i64 0])) [],
 zs 6 2 5 [3,2,1,0,1,2,3]]
abbrev r90_2:List AOper:=[
 zl 6 0 [],
 oo 7 (.callF 34 [(.t 6),(.c (.str ⟨#[40]⟩))]) [0]]
abbrev r90_3:List AOper:=[
 zl 8 0 [],
 zr 9 6 2 [],
 zl 10 0 [],
 oo 11 (.callF 54 [(.t 10),(.c (.str ⟨#[41]⟩)),(.c (.int .i64 16))]) [2],
 oo 12 (.callF 55 [(.t 8),(.t 9),(.t 11)]) [0,1,3,3],
 zm 1 12 [4,4,0,1,2,3,4]]
def m90_3:List Nat:=[0,0,0,4,15,31]
theorem d90_3:okDraw r90_3 m90_3=true:=by kernel_rfl
def k90:List (List Nat):=[[0],[0,2],[0,2],[1]]
def f90:AFunc:={ ntmps:=13,results:=[.tmp 1],body:=(
 .seq (
 .g r90_0 [0]) (
 .seq (
 .g r90_1 [0,2]) (
 .seq (
 .g r90_2 [0,2]) (
 .seq (
 .region true r90_3 [1]) (
 .ret))))) }
theorem c90:cfunc Tryd.prog (kof k90) Tryd.f90=some f90:=by kernel_rfl
abbrev r91_0:List AOper:=[
 zi 4 0 []]
abbrev r91_1:List AOper:=[
 zm 5 0 [],
 zm 6 1 [],
 zm 7 0 [],
 zk 8 33 7 [2],
 oo 9 (.build [.int .i64 0,.str ⟨#[]⟩,.int .i64 0,.flt .f64 0,.nils,.int .i64 0] [(0,1,(.t 6)),(5,1,(.t 8))]) [1,3],
 zq 10 39 5 9 [0,4,3],
 zm 4 10 [5,5,0,1,2,3,4,5]]
def k91:List (List Nat):=[[0,1],[4]]
def f91:AFunc:={ ntmps:=11,results:=[.tmp 4],body:=(
 .seq (
 .g r91_0 [0,1]) (
 .seq (
 .g r91_1 [4]) (
 .ret))) }
theorem c91:cfunc Tryd.prog (kof k91) Tryd.f91=some f91:=by kernel_rfl
abbrev r92_0:List AOper:=[
 zi 2 0 []]
abbrev r92_1:List AOper:=[
 zm 8 0 [],
 zk 9 37 8 [0],
 oo 3 (.alloc 31 (.agg [.int .i64 0,.str ⟨#[]⟩,.int .i64 0,.flt .f64 0,.int .i64 0])) [],
 zs 5 3 9 [2,1,1,0,1,2]]
abbrev r92_2:List AOper:=[
 zf 10 4 3 [],
 zl 11 10 [0],
 oo 12 (.build [.int .i64 0,.str ⟨#[]⟩,.int .i64 0,.flt .f64 0,.nils,.int .i64 0] [(0,1,(.c (.int .i64 21))),(5,1,(.t 11))]) [1],
 oo 4 (.alloc 42 (.agg [.int .i64 0,.str ⟨#[]⟩,.int .i64 0,.flt .f64 0,.nils,.int .i64 0])) [],
 zs 6 4 12 [3,2,0,1,2,3]]
abbrev r92_3:List AOper:=[
 zf 13 4 3 [],
 zl 14 13 [0],
 oo 15 (.build [.int .i64 0,.str ⟨#[]⟩,.int .i64 0,.flt .f64 0,.nils,.int .i64 0] [(0,1,(.c (.int .i64 3))),(1,1,(.c (.str ⟨#[116,104,114,111,119]⟩))),(5,1,(.t 14))]) [1],
 oo 5 (.alloc 42 (.agg [.int .i64 0,.str ⟨#[]⟩,.int .i64 0,.flt .f64 0,.nils,.int .i64 0])) [],
 zs 6 5 15 [3,2,0,1,2,3]]
abbrev r92_4:List AOper:=[
 zf 16 0 3 [],
 zl 17 16 [0],
 ze 18 17 1 [1],
 zm 19 18 [2],
 yf 20 0 3 19 false [3],
 yl 21 20 19 false [4,3],
 og 22 (.bin .eql (.t 21) (.c (.int .i64 2))) 19 false [5,3],
 zo 23 19 22 [3,6],
 zm 6 23 [7,3,0,1,2,3,4,5,6,7]]
abbrev r92_5:List AOper:=[
 zm 24 6 [],
 zm 25 24 [0],
 ym 26 0 25 true [1],
 yn 27 26 25 true [2,1],
 yf 28 0 27 25 true [3,1],
 yl 29 28 25 true [4,1],
 ym 30 0 25 true [1],
 yn 31 30 25 true [6,1],
 yf 32 1 31 25 true [7,1],
 yl 33 32 25 true [8,1],
 og 34 (.bin .add (.t 33) (.c (.int .i64 1))) 25 true [9,1],
 og 35 (.iaddr 5 (.t 29) (.t 34)) 25 true [5,10,1],
 yf 36 0 35 25 true [11,1],
 yl 37 36 25 true [12,1],
 og 38 (.bin .eql (.t 37) (.c (.int .i64 6))) 25 true [13,1],
 zp 39 25 38 [1,14],
 zm 40 39 [15,1],
 ym 41 0 40 true [16],
 yn 42 41 40 true [17,16],
 yf 43 0 42 40 true [18,16],
 yl 44 43 40 true [19,16],
 ym 45 0 40 true [16],
 yn 46 45 40 true [21,16],
 yf 47 1 46 40 true [22,16],
 yl 48 47 40 true [23,16],
 og 49 (.bin .add (.t 48) (.c (.int .i64 1))) 40 true [24,16],
 og 50 (.iaddr 5 (.t 44) (.t 49)) 40 true [20,25,16],
 yf 51 1 50 40 true [26,16],
 yl 52 51 40 true [27,16],
 og 53 (.bin .eql (.t 52) (.c (.str ⟨#[58]⟩))) 40 true [28,16],
 zp 54 40 53 [16,29]]
abbrev r92_7:List AOper:=[
 zf 59 0 3 [],
 zl 60 59 [0],
 ze 61 60 2 [1],
 zm 62 61 [2],
 yf 63 1 3 62 true [3],
 yl 64 63 62 true [4,3],
 og 65 (.bin .eql (.t 64) (.c (.str ⟨#[95]⟩))) 62 true [5,3],
 zp 66 62 65 [3,6],
 zm 58 66 [7,3]]
abbrev r92_8:List AOper:=[
 zf 67 0 5 [],
 on (.store 1 (.t 67) (.c (.int .i64 4))) [0]]
abbrev r92_9:List AOper:=[
 zf 69 0 3 [],
 zl 70 69 [0],
 ze 71 70 1 [1],
 zm 72 71 [2],
 yf 73 1 3 72 true [3],
 yl 74 73 72 true [4,3],
 og 75 (.bin .eql (.t 74) (.c (.str ⟨#[101,114,114,111,114]⟩))) 72 true [5,3],
 ym 76 75 72 true [6,3,3],
 yf 77 1 3 76 false [7],
 yl 78 77 76 false [8,7],
 og 79 (.bin .eql (.t 78) (.c (.str ⟨#[101,120,105,116]⟩))) 76 false [9,7],
 og 80 (.pick (.t 76) (.c (.bool true)) (.t 79)) 72 true [7,10,3],
 ym 81 80 72 true [11,7,3],
 yf 82 1 3 81 false [12],
 yl 83 82 81 false [13,12],
 og 84 (.bin .eql (.t 83) (.c (.str ⟨#[116,104,114,111,119]⟩))) 81 false [14,12],
 og 85 (.pick (.t 81) (.c (.bool true)) (.t 84)) 72 true [12,15,3],
 zp 86 72 85 [3,16],
 zm 68 86 [17,12]]
abbrev r92_6:List AOper:=[
 zf 55 4 3 [],
 zl 56 55 [0],
 oo 57 (.callF 36 [(.c (.int .i64 24)),(.t 56)]) [1]]
abbrev r92_10:List AOper:=[
 zf 87 1 3 [],
 zl 88 87 [0],
 zf 89 1 5 [0,1],
 zs 1 89 88 [2,1,0,1]]
abbrev r92_11:List AOper:=[
 zm 90 0 [],
 zn 91 90 [0],
 zf 92 1 91 [1],
 zl 93 92 [2],
 za 94 93 2 [3],
 zn 95 90 [0,0,1,2,3,4],
 zf 96 1 95 [5,0,1,2,3,4],
 zs 1 96 94 [6,4,0,1,2,3,4]]
abbrev r92_12:List AOper:=[
 zm 97 0 [],
 zr 98 6 5 [],
 zq 99 39 97 98 [0,1],
 zm 7 99 [2,2,0,1,2]]
abbrev r92_13:List AOper:=[
 zm 100 0 [],
 zr 101 6 4 [],
 zm 102 7 [],
 zm 103 0 [],
 zk 104 67 103 [3],
 oo 105 (.bslice 3 2 [.int .i64 0,.int .i64 0] [(0,1,(.t 102)),(1,1,(.t 104))]) [2,4],
 oo 106 (.callF 55 [(.t 100),(.t 101),(.t 105)]) [0,1,5,4],
 zm 2 106 [6,6,0,1,2,3,4,5,6]]
def m92_5:List Nat:=[0,1,3,7,15,31,3,67,195,451,963,2047,4095,8191,16383,32767,65535,131071,262143,524287,1048575,131071,2228223,6422527,14811135,31588351,67108863,134217727,268435455,536870911,1073741823]
theorem d92_5:okDraw r92_5 m92_5=true:=by kernel_rfl
def m92_13:List Nat:=[0,0,0,0,8,28,63,127]
theorem d92_13:okDraw r92_13 m92_13=true:=by kernel_rfl
def k92:List (List Nat):=[[0],[0,3],[0,3,4],[0,3,4,5],[0,3,4,5,6],[0,3,4,5,54],[0,3,4,5],[0,3,4,5,58],[0,3,4,5],[0,3,4,5,68],[0,4,5],[0,4,5],[0,4,7],[2]]
def f92:AFunc:={ ntmps:=107,results:=[.tmp 2],body:=(
 .seq (
 .g r92_0 [0]) (
 .seq (
 .g r92_1 [0,3]) (
 .seq (
 .g r92_2 [0,3,4]) (
 .seq (
 .g r92_3 [0,3,4,5]) (
 .seq (
 .seq (
 .g r92_4 [0,3,4,5,6]) (
 .seq (
 .region true r92_5 [0,3,4,5,54]) (
 .cond (.t 54) (
  .seq (
  .block 0 (
   .seq (
   .g r92_7 [0,3,4,5,58]) (
   .cond (.t 58) (
    .g r92_8 [0,3,4,5]) (
    .seq (
    .g r92_9 [0,3,4,5,68]) (
    .cond (.t 68) (
     .skip) (
     .g r92_6 [0,3,4,5])))))) (
  .seq (
  .g r92_10 [0,4,5]) (
  .g r92_11 [0,4,5]))) (
  .skip)))) (
 .seq (
 .g r92_12 [0,4,7]) (
 .seq (
 .region true r92_13 [2]) (
 .ret)))))))) }
theorem c92:cfunc Tryd.prog (kof k92) Tryd.f92=some f92:=by kernel_rfl
end Go.Am.Rl
