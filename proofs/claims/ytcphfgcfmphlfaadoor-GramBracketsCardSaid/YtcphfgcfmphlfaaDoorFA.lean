/- Parts: Fn. -/
import Derived.Test.YtcphfgcfmphlfaaDoorAmP
import Derived.Test.YtcphfgcfmphlfaaDoorProg
set_option linter.unusedVariables false
set_option maxRecDepth 20000
namespace Go.Am.Rl
open Go.Proofs
abbrev r9_0:List AOper:=[
 oo 2 (.mv (.c (.nils))) [],
 oo 3 (.alloc 26 (.agg [.int .i64 0,.int .i64 0])) []]
abbrev r9_1:List AOper:=[
 zm 9 0 [],
 zL 10 0 9 [0],
 oo 11 (.bin .gtr (.t 10) (.c (.int .i64 65536))) [1]]
abbrev r9_2:List AOper:=[
 oo 12 (.build [.int .i64 0,.int .i64 0] [(0,1,(.c (.int .i64 3)))]) [],
 oo 2 (.mv (.c (.nils))) [],
 zs 2 3 12 [0,1,0,1]]
abbrev r9_3:List AOper:=[
 zm 13 0 [],
 oo 14 (.build [.str ⟨#[]⟩,.int .i64 0,.int .i64 0] [(0,1,(.t 13))]) [0],
 oo 15 (.box 54 (.t 14)) [1],
 zm 4 15 [2,0,1,2]]
abbrev r9_4:List AOper:=[
 oo 5 (.mv (.c (.nils))) []]
abbrev r9_5:List AOper:=[
 zm 16 4 [],
 zn 17 16 [0],
 zf 18 1 17 [1],
 zl 19 18 [2],
 zm 20 0 [],
 zL 21 0 20 [4],
 oo 22 (.bin .lss (.t 19) (.t 21)) [3,5]]
abbrev r9_6:List AOper:=[
 zm 23 0 [],
 zm 24 4 [],
 zn 25 24 [1],
 zf 26 1 25 [2],
 zl 27 26 [3],
 oo 28 (.idxS (.t 23) (.t 27)) [0,4],
 zm 6 28 [5,0,1,2,3,4,5]]
abbrev r9_7:List AOper:=[
 zm 30 6 [],
 oo 31 (.bin .eql (.t 30) (.c (.int .u8 32))) [0],
 zm 32 31 [1],
 ym 33 6 32 false [2],
 og 34 (.bin .eql (.t 33) (.c (.int .u8 9))) 32 false [3,2],
 zo 35 32 34 [2,4],
 zm 36 35 [5,2],
 ym 37 6 36 false [6],
 og 38 (.bin .eql (.t 37) (.c (.int .u8 10))) 36 false [7,6],
 zo 39 36 38 [6,8],
 zm 40 39 [9,6],
 ym 41 6 40 false [10],
 og 42 (.bin .eql (.t 41) (.c (.int .u8 13))) 40 false [11,10],
 zo 43 40 42 [10,12],
 zm 29 43 [13,10]]
abbrev r9_8:List AOper:=[
 zm 44 4 [],
 zn 45 44 [0],
 zf 46 1 45 [1],
 zl 47 46 [2],
 za 48 47 1 [3],
 zn 49 44 [0,0,1,2,3,4],
 zf 50 1 49 [5,0,1,2,3,4],
 zs 1 50 48 [6,4,0,1,2,3,4]]
abbrev r9_9:List AOper:=[
 zm 52 6 [],
 oo 53 (.bin .eql (.t 52) (.c (.int .u8 37))) [0],
 zm 51 53 [1]]
abbrev r9_10:List AOper:=[
 zm 54 4 [],
 zm 55 4 [],
 zm 56 4 [],
 zn 57 56 [2],
 zf 58 1 57 [3],
 zl 59 58 [4],
 oo 60 (.callF 17 [(.t 55),(.t 59),(.c (.fn (.func 18) [] []))]) [1,5],
 zn 61 54 [0,0,1,2,3,4,5,6],
 zf 62 1 61 [7,0,1,2,3,4,5,6],
 zs 1 62 60 [8,6,6,0,1,2,3,4,5,6]]
abbrev r9_11:List AOper:=[
 zm 64 4 [],
 zk 65 19 64 [0],
 zm 63 65 [1],
 zx 66 63 0 [2],
 zx 67 63 1 [2],
 oo 7 (.alloc 31 (.agg [.int .i64 0,.str ⟨#[]⟩,.int .i64 0,.flt .f64 0,.int .i64 0])) [],
 zs 5 7 66 [5,3,1,0,1,2,3,5],
 zm 8 67 [4,6,0,1,2,3,4,5,6]]
abbrev r9_12:List AOper:=[
 zm 68 4 [],
 zn 69 68 [0],
 zf 70 2 69 [1],
 zl 71 70 [2],
 oo 72 (.bin .neq (.t 71) (.c (.int .i64 0))) [3]]
abbrev r9_13:List AOper:=[
 zm 73 4 [],
 zn 74 73 [0],
 zf 75 2 74 [1],
 zl 76 75 [2],
 zm 77 4 [],
 zn 78 77 [4],
 zf 79 1 78 [5],
 zl 80 79 [6],
 oo 81 (.build [.int .i64 0,.int .i64 0] [(0,1,(.t 76)),(1,1,(.t 80))]) [3,7],
 oo 2 (.mv (.c (.nils))) [],
 zs 2 3 81 [8,9,0,1,2,3,4,5,6,7,8,9]]
abbrev r9_14:List AOper:=[
 zm 82 4 [],
 zn 83 82 [0],
 zf 84 1 83 [1],
 zl 85 84 [2],
 zf 86 4 7 [0,1,2,3],
 zs 1 86 85 [4,3,0,1,2,3]]
abbrev r9_15:List AOper:=[
 zm 87 5 [],
 zr 88 5 7 [],
 oo 89 (.bslice 31 1 [.int .i64 0,.str ⟨#[]⟩,.int .i64 0,.flt .f64 0,.int .i64 0] [(0,5,(.t 88))]) [1],
 oo 90 (.app 31 5 48 (.t 87) (.t 89)) [0,2],
 zm 5 90 [3,3,0,1,2,3]]
abbrev r9_16:List AOper:=[
 zm 91 4 [],
 zm 92 8 [],
 zn 93 91 [0,0,1],
 zf 94 1 93 [2,0,1],
 zs 1 94 92 [3,1,0,1]]
def l9_0:ACode:=
 .seq (
 .seq (
 .g r9_5 [0,3,4,5,22]) (
 .cond (.t 22) (
  .skip) (
  .exit 0))) (
 .block 1 (
  .seq (
  .seq (
  .g r9_6 [0,3,4,5,6]) (
  .block 2 (
   .seq (
   .g r9_7 [0,3,4,5,6,29]) (
   .cond (.t 29) (
    .seq (
    .g r9_8 [0,3,4,5]) (
    .exit 1)) (
    .seq (
    .g r9_9 [0,3,4,5,51]) (
    .cond (.t 51) (
     .seq (
     .g r9_10 [0,3,4,5]) (
     .exit 1)) (
     .skip))))))) (
  .seq (
  .g r9_11 [0,3,4,5,7,8]) (
  .seq (
  .seq (
  .g r9_12 [0,3,4,5,7,8,72]) (
  .cond (.t 72) (
   .seq (
   .region true r9_13 [2,3]) (
   .ret)) (
   .skip))) (
  .seq (
  .g r9_14 [0,3,4,5,7,8]) (
  .seq (
  .g r9_15 [0,3,4,5,8]) (
  .g r9_16 [0,3,4,5])))))))
abbrev r9_17:List AOper:=[
 zm 95 5 [],
 zm 96 0 [],
 zL 97 0 96 [1],
 oo 98 (.build [.int .i64 0,.str ⟨#[]⟩,.int .i64 0,.flt .f64 0,.int .i64 0] [(0,1,(.c (.int .i64 8))),(4,1,(.t 97))]) [2],
 oo 99 (.bslice 31 1 [.int .i64 0,.str ⟨#[]⟩,.int .i64 0,.flt .f64 0,.int .i64 0] [(0,5,(.t 98))]) [3],
 oo 100 (.app 31 5 48 (.t 95) (.t 99)) [0,4],
 oo 101 (.build [.int .i64 0,.int .i64 0] []) [],
 zm 2 100 [5,5,0,1,2,3,4,5],
 zs 2 3 101 [6,7,0,1,2,3,4,5,6,7]]
def m9_13:List Nat:=[0,1,3,7,0,16,48,112,255,0,1023]
theorem d9_13:okDraw r9_13 m9_13=true:=by kernel_rfl
def k9:List (List Nat):=[[0,3],[0,3,11],[2,3],[0,3,4],[0,3,4,5],[0,3,4,5,22],[0,3,4,5,6],[0,3,4,5,6,29],[0,3,4,5],[0,3,4,5,51],[0,3,4,5],[0,3,4,5,7,8],[0,3,4,5,7,8,72],[2,3],[0,3,4,5,7,8],[0,3,4,5,8],[0,3,4,5],[2,3]]
def f9:AFunc:={ ntmps:=102,results:=[.tmp 2,.cell 3 (some 2)],body:=(
 .seq (
 .g r9_0 [0,3]) (
 .scope (
  .seq (
  .seq (
  .g r9_1 [0,3,11]) (
  .cond (.t 11) (
   .seq (
   .g r9_2 [2,3]) (
   .ret)) (
   .skip))) (
  .seq (
  .g r9_3 [0,3,4]) (
  .seq (
  .g r9_4 [0,3,4,5]) (
  .seq (
  .label 0) (
  .seq (
  .block 0 (
   .loop l9_0)) (
  .seq (
  .g r9_17 [2,3]) (
  .ret))))))))) }
theorem c9:cfunc Tryd.prog (kof k9) Tryd.f9=some f9:=by kernel_rfl
abbrev r17_0:List AOper:=[
 zi 6 0 []]
abbrev r17_1:List AOper:=[
 zm 7 1 [],
 zm 8 0 [],
 zn 9 8 [1],
 zf 10 0 9 [2],
 zl 11 10 [3],
 zL 12 0 11 [4],
 oo 13 (.bin .lss (.t 7) (.t 12)) [0,5],
 zm 14 13 [6],
 ym 15 2 14 true [7],
 ym 16 0 14 true [7],
 yn 17 16 14 true [9,7],
 yf 18 0 17 14 true [10,7],
 yl 19 18 14 true [11,7],
 ym 20 1 14 true [7],
 og 21 (.idxS (.t 19) (.t 20)) 14 true [12,13,7],
 og 22 (.callV (.t 15) [(.t 21)]) 14 true [8,14,7,7],
 zp 23 14 22 [7,15]]
abbrev r17_2:List AOper:=[
 zm 24 1 [],
 za 25 24 1 [0],
 zm 1 25 [1,0,1]]
def l17_0:ACode:=
 .seq (
 .seq (
 .g r17_1 [0,1,2,23]) (
 .cond (.t 23) (
  .skip) (
  .exit 0))) (
 .block 1 (
  .g r17_2 [0,1,2]))
abbrev r17_3:List AOper:=[
 zm 26 1 [],
 zm 6 26 [0,0]]
def k17:List (List Nat):=[[0,1,2],[0,1,2,23],[0,1,2],[6]]
def f17:AFunc:={ ntmps:=27,results:=[.tmp 6],body:=(
 .seq (
 .g r17_0 [0,1,2]) (
 .seq (
 .block 0 (
  .loop l17_0)) (
 .seq (
 .g r17_3 [6]) (
 .ret)))) }
theorem c17:cfunc Tryd.prog (kof k17) Tryd.f17=some f17:=by kernel_rfl
abbrev r18_0:List AOper:=[
 oo 2 (.mv (.c (.bool false))) []]
abbrev r18_1:List AOper:=[
 zm 3 0 [],
 oo 4 (.bin .neq (.t 3) (.c (.int .u8 10))) [0],
 zm 2 4 [1,0,1]]
def k18:List (List Nat):=[[0],[2]]
def f18:AFunc:={ ntmps:=5,results:=[.tmp 2],body:=(
 .seq (
 .g r18_0 [0]) (
 .seq (
 .g r18_1 [2]) (
 .ret))) }
theorem c18:cfunc Tryd.prog (kof k18) Tryd.f18=some f18:=by kernel_rfl
abbrev r19_0:List AOper:=[
 oo 2 (.alloc 31 (.agg [.int .i64 0,.str ⟨#[]⟩,.int .i64 0,.flt .f64 0,.int .i64 0])) [],
 zi 3 0 []]
abbrev r19_1:List AOper:=[
 zm 6 0 [],
 zn 7 6 [0],
 zf 8 0 7 [1],
 zl 9 8 [2],
 zm 10 0 [],
 zn 11 10 [4],
 zf 12 1 11 [5],
 zl 13 12 [6],
 oo 14 (.idxS (.t 9) (.t 13)) [3,7],
 oo 4 (.mv (.c (.str ⟨#[]⟩))) [],
 zm 5 14 [8,9,0,1,2,3,4,5,6,7,8,9]]
abbrev r19_2:List AOper:=[
 zm 16 5 [],
 zk 17 24 16 [0],
 zm 15 17 [1,1]]
abbrev r19_3:List AOper:=[
 zm 19 5 [],
 zk 20 25 19 [0],
 zm 21 20 [1,1],
 ym 22 5 21 false [2],
 og 23 (.bin .eql (.t 22) (.c (.int .u8 95))) 21 false [3,2],
 zo 24 21 23 [2,4],
 zm 18 24 [5,2]]
abbrev r19_4:List AOper:=[
 zm 26 5 [],
 zk 27 26 26 [0],
 zm 25 27 [1,1]]
abbrev r19_5:List AOper:=[
 zm 28 0 [],
 zk 29 27 28 [0],
 zx 30 29 0 [1],
 zx 31 29 1 [1],
 zs 5 2 30 [2,1,0,1,2,3],
 zm 3 31 [3,4,0,1,2,3,4]]
abbrev r19_6:List AOper:=[
 zm 33 5 [],
 oo 34 (.bin .eql (.t 33) (.c (.int .u8 35))) [0],
 zm 32 34 [1]]
abbrev r19_7:List AOper:=[
 zm 35 0 [],
 zk 36 28 35 [0],
 zx 37 36 0 [1],
 zx 38 36 1 [1],
 zs 5 2 37 [2,1,0,1,2,3],
 zm 3 38 [3,4,0,1,2,3,4]]
abbrev r19_8:List AOper:=[
 zm 40 5 [],
 oo 41 (.bin .eql (.t 40) (.c (.int .u8 39))) [0],
 zm 39 41 [1]]
abbrev r19_9:List AOper:=[
 zm 43 5 [],
 oo 44 (.bin .eql (.t 43) (.c (.int .u8 34))) [0],
 zm 42 44 [1]]
abbrev r19_10:List AOper:=[
 zm 46 0 [],
 zm 47 5 [],
 zq 48 29 46 47 [0,1],
 zm 45 48 [2],
 zx 49 45 0 [3],
 zx 50 45 1 [3],
 zm 4 49 [4,2,0,1,2,3,4],
 zm 3 50 [5,6,0,1,2,3,4,5,6]]
abbrev r19_11:List AOper:=[
 zm 51 4 [],
 oo 52 (.build [.int .i64 0,.str ⟨#[]⟩,.int .i64 0,.flt .f64 0,.int .i64 0] [(0,1,(.c (.int .i64 5))),(1,1,(.t 51))]) [0],
 zm 53 3 [],
 zs 5 2 52 [1,0,1],
 zm 3 53 [2,3,0,1,2,3]]
abbrev r19_12:List AOper:=[
 zm 54 0 [],
 zk 55 30 54 [0],
 zm 4 55 [1,1,0,1]]
abbrev r19_13:List AOper:=[
 zm 56 4 [],
 oo 57 (.bin .eql (.t 56) (.c (.str ⟨#[]⟩))) [0]]
abbrev r19_14:List AOper:=[
 zm 58 0 [],
 zn 59 58 [0,0],
 zf 60 2 59 [1,0],
 on (.store 1 (.t 60) (.c (.int .i64 21))) [2,0]]
abbrev r19_15:List AOper:=[
 zm 61 4 [],
 oo 62 (.build [.int .i64 0,.str ⟨#[]⟩,.int .i64 0,.flt .f64 0,.int .i64 0] [(0,1,(.c (.int .i64 6))),(1,1,(.t 61))]) [0],
 zm 63 0 [],
 zn 64 63 [2],
 zf 65 1 64 [3],
 zl 66 65 [4],
 zm 67 4 [],
 zL 68 0 67 [6],
 oo 69 (.bin .add (.t 66) (.t 68)) [5,7],
 zs 5 2 62 [1,0,1],
 zm 3 69 [8,9,0,1,2,3,4,5,6,7,8,9]]
abbrev r19_16:List AOper:=[
 zm 70 0 [],
 zm 71 0 [],
 zn 72 71 [1],
 zf 73 1 72 [2],
 zl 74 73 [3],
 oo 75 (.callF 17 [(.t 70),(.t 74),(.c (.fn (.func 31) [] []))]) [0,4],
 zm 3 75 [5,5,0,1,2,3,4,5]]
abbrev r19_17:List AOper:=[
 zm 76 0 [],
 zn 77 76 [0],
 zf 78 0 77 [1],
 zl 79 78 [2],
 zm 80 0 [],
 zn 81 80 [4],
 zf 82 1 81 [5],
 zl 83 82 [6],
 zm 84 3 [],
 oo 85 (.slcS (.t 79) (some (.t 83)) (some (.t 84))) [3,7,8],
 zm 4 85 [9,0,1,2,3,4,5,6,7,8,9]]
abbrev r19_18:List AOper:=[
 zm 86 4 [],
 zk 87 32 86 [0]]
abbrev r19_19:List AOper:=[
 zm 88 4 [],
 oo 89 (.build [.int .i64 0,.str ⟨#[]⟩,.int .i64 0,.flt .f64 0,.int .i64 0] [(0,1,(.c (.int .i64 7))),(1,1,(.t 88))]) [0],
 zm 90 3 [],
 zs 5 2 89 [1,0,1],
 zm 3 90 [2,3,0,1,2,3]]
abbrev r19_20:List AOper:=[
 zm 91 0 [],
 zm 92 0 [],
 zn 93 92 [1],
 zf 94 1 93 [2],
 zl 95 94 [3],
 oo 96 (.callF 17 [(.t 91),(.t 95),(.c (.fn (.func 31) [] []))]) [0,4],
 zm 3 96 [5,5,0,1,2,3,4,5]]
abbrev r19_21:List AOper:=[
 zm 97 0 [],
 zn 98 97 [0],
 zf 99 0 98 [1],
 zl 100 99 [2],
 zm 101 0 [],
 zn 102 101 [4],
 zf 103 1 102 [5],
 zl 104 103 [6],
 zm 105 3 [],
 oo 106 (.slcS (.t 100) (some (.t 104)) (some (.t 105))) [3,7,8],
 oo 107 (.build [.int .i64 0,.str ⟨#[]⟩,.int .i64 0,.flt .f64 0,.int .i64 0] [(0,1,(.c (.int .i64 2))),(1,1,(.t 106))]) [9],
 zm 108 3 [],
 zs 5 2 107 [10,0,1,2,3,4,5,6,7,8,9,10],
 zm 3 108 [11,12,0,1,2,3,4,5,6,7,8,9,10,11,12]]
abbrev r19_22:List AOper:=[
 zm 110 0 [],
 zm 111 5 [],
 zq 112 29 110 111 [0,1],
 zm 109 112 [2],
 zx 113 109 0 [3],
 zx 114 109 1 [3],
 zm 4 113 [4,2,0,1,2,3,4],
 zm 3 114 [5,6,0,1,2,3,4,5,6]]
abbrev r19_23:List AOper:=[
 zm 115 0 [],
 zn 116 115 [0],
 zf 117 2 116 [1],
 zl 118 117 [2],
 ze 119 118 0 [3],
 zm 120 119 [4],
 ym 121 4 120 true [5],
 og 122 (.len 0 (.t 121)) 120 true [6,5],
 og 123 (.bin .gtr (.t 122) (.c (.int .i64 64))) 120 true [7,5],
 zp 124 120 123 [5,8]]
abbrev r19_24:List AOper:=[
 zm 125 0 [],
 zn 126 125 [0,0],
 zf 127 2 126 [1,0],
 on (.store 1 (.t 127) (.c (.int .i64 23))) [2,0]]
abbrev r19_25:List AOper:=[
 zm 128 4 [],
 oo 129 (.build [.int .i64 0,.str ⟨#[]⟩,.int .i64 0,.flt .f64 0,.int .i64 0] [(0,1,(.c (.int .i64 1))),(1,1,(.t 128))]) [0],
 zm 130 3 [],
 zs 5 2 129 [1,0,1],
 zm 3 130 [2,3,0,1,2,3]]
def m19_1:List Nat:=[0,1,3,7,0,16,48,112,255,0,1023]
theorem d19_1:okDraw r19_1 m19_1=true:=by kernel_rfl
def m19_15:List Nat:=[0,1,0,4,12,28,0,64,252,3,1023]
theorem d19_15:okDraw r19_15 m19_15=true:=by kernel_rfl
def m19_17:List Nat:=[0,1,3,7,0,16,48,112,0,511,1023]
theorem d19_17:okDraw r19_17 m19_17=true:=by kernel_rfl
def m19_21:List Nat:=[0,1,3,7,0,16,48,112,0,511,1023,0,2047,8191]
theorem d19_21:okDraw r19_21 m19_21=true:=by kernel_rfl
def k19:List (List Nat):=[[0,2],[0,2,5],[0,2,5,15],[0,2,5,18],[0,2,5,25],[2,3],[0,2,5,32],[2,3],[0,2,5,39],[0,2,5,42],[2,3,4],[2,3],[0,2,4],[0,2,4,57],[0,2,4],[2,3],[0,2,3],[0,2,3,4],[0,2,3,4,87],[2,3],[0,2,3],[2,3],[0,2,3,4],[0,2,3,4,124],[2,3,4],[2,3]]
def f19:AFunc:={ ntmps:=131,results:=[.cell 2 (some 5),.tmp 3],body:=(
 .seq (
 .g r19_0 [0,2]) (
 .scope (
  .seq (
  .region true r19_1 [0,2,5]) (
  .seq (
  .block 0 (
   .seq (
   .g r19_2 [0,2,5,15]) (
   .cond (.t 15) (
    .goto 0) (
    .seq (
    .g r19_3 [0,2,5,18]) (
    .cond (.t 18) (
     .goto 1) (
     .seq (
     .g r19_4 [0,2,5,25]) (
     .cond (.t 25) (
      .seq (
      .g r19_5 [2,3]) (
      .ret)) (
      .seq (
      .g r19_6 [0,2,5,32]) (
      .cond (.t 32) (
       .seq (
       .g r19_7 [2,3]) (
       .ret)) (
       .seq (
       .g r19_8 [0,2,5,39]) (
       .cond (.t 39) (
        .goto 2) (
        .seq (
        .g r19_9 [0,2,5,42]) (
        .cond (.t 42) (
         .seq (
         .g r19_10 [2,3,4]) (
         .seq (
         .g r19_11 [2,3]) (
         .ret))) (
         .skip)))))))))))))) (
  .seq (
  .seq (
  .g r19_12 [0,2,4]) (
  .seq (
  .g r19_13 [0,2,4,57]) (
  .cond (.t 57) (
   .g r19_14 [0,2,4]) (
   .skip)))) (
  .seq (
  .seq (
  .region true r19_15 [2,3]) (
  .ret)) (
  .seq (
  .label 0) (
  .seq (
  .g r19_16 [0,2,3]) (
  .seq (
  .region true r19_17 [0,2,3,4]) (
  .seq (
  .seq (
  .g r19_18 [0,2,3,4,87]) (
  .cond (.t 87) (
   .seq (
   .g r19_19 [2,3]) (
   .ret)) (
   .skip))) (
  .seq (
  .goto 3) (
  .seq (
  .label 1) (
  .seq (
  .g r19_20 [0,2,3]) (
  .seq (
  .seq (
  .region true r19_21 [2,3]) (
  .ret)) (
  .seq (
  .label 2) (
  .seq (
  .g r19_22 [0,2,3,4]) (
  .seq (
  .label 3) (
  .seq (
  .seq (
  .g r19_23 [0,2,3,4,124]) (
  .cond (.t 124) (
   .g r19_24 [2,3,4]) (
   .skip))) (
  .seq (
  .g r19_25 [2,3]) (
  .ret)))))))))))))))))))) }
theorem c19:cfunc Tryd.prog (kof k19) Tryd.f19=some f19:=by kernel_rfl
abbrev r24_0:List AOper:=[
 oo 2 (.mv (.c (.bool false))) []]
abbrev r24_1:List AOper:=[
 zm 3 0 [],
 oo 4 (.bin .geq (.t 3) (.c (.int .u8 97))) [0],
 zm 5 4 [1],
 ym 6 0 5 true [2],
 og 7 (.bin .leq (.t 6) (.c (.int .u8 122))) 5 true [3,2],
 zp 8 5 7 [2,4],
 zm 2 8 [5,2,0,1,2,3,4,5]]
def k24:List (List Nat):=[[0],[2]]
def f24:AFunc:={ ntmps:=9,results:=[.tmp 2],body:=(
 .seq (
 .g r24_0 [0]) (
 .seq (
 .g r24_1 [2]) (
 .ret))) }
theorem c24:cfunc Tryd.prog (kof k24) Tryd.f24=some f24:=by kernel_rfl
abbrev r25_0:List AOper:=[
 oo 2 (.mv (.c (.bool false))) []]
abbrev r25_1:List AOper:=[
 zm 3 0 [],
 oo 4 (.bin .geq (.t 3) (.c (.int .u8 65))) [0],
 zm 5 4 [1],
 ym 6 0 5 true [2],
 og 7 (.bin .leq (.t 6) (.c (.int .u8 90))) 5 true [3,2],
 zp 8 5 7 [2,4],
 zm 2 8 [5,2,0,1,2,3,4,5]]
def k25:List (List Nat):=[[0],[2]]
def f25:AFunc:={ ntmps:=9,results:=[.tmp 2],body:=(
 .seq (
 .g r25_0 [0]) (
 .seq (
 .g r25_1 [2]) (
 .ret))) }
theorem c25:cfunc Tryd.prog (kof k25) Tryd.f25=some f25:=by kernel_rfl
abbrev r26_0:List AOper:=[
 oo 2 (.mv (.c (.bool false))) []]
abbrev r26_1:List AOper:=[
 zm 3 0 [],
 oo 4 (.bin .geq (.t 3) (.c (.int .u8 48))) [0],
 zm 5 4 [1],
 ym 6 0 5 true [2],
 og 7 (.bin .leq (.t 6) (.c (.int .u8 57))) 5 true [3,2],
 zp 8 5 7 [2,4],
 zm 2 8 [5,2,0,1,2,3,4,5]]
def k26:List (List Nat):=[[0],[2]]
def f26:AFunc:={ ntmps:=9,results:=[.tmp 2],body:=(
 .seq (
 .g r26_0 [0]) (
 .seq (
 .g r26_1 [2]) (
 .ret))) }
theorem c26:cfunc Tryd.prog (kof k26) Tryd.f26=some f26:=by kernel_rfl
abbrev r27_0:List AOper:=[
 oo 2 (.alloc 31 (.agg [.int .i64 0,.str ⟨#[]⟩,.int .i64 0,.flt .f64 0,.int .i64 0])) [],
 zi 3 0 []]
abbrev r27_1:List AOper:=[
 zm 12 0 [],
 zm 13 0 [],
 zn 14 13 [1],
 zf 15 1 14 [2],
 zl 16 15 [3],
 oo 17 (.callF 17 [(.t 12),(.t 16),(.c (.fn (.func 26) [] []))]) [0,4],
 zm 4 17 [5,5,0,1,2,3,4,5]]
abbrev r27_2:List AOper:=[
 zm 18 0 [],
 zn 19 18 [0],
 zf 20 0 19 [1],
 zl 21 20 [2],
 zm 22 0 [],
 zn 23 22 [4],
 zf 24 1 23 [5],
 zl 25 24 [6],
 zm 26 4 [],
 oo 27 (.slcS (.t 21) (some (.t 25)) (some (.t 26))) [3,7,8],
 zm 5 27 [9,0,1,2,3,4,5,6,7,8,9]]
abbrev r27_3:List AOper:=[
 oo 6 (.mv (.c (.str ⟨#[]⟩))) []]
abbrev r27_4:List AOper:=[
 zm 28 4 [],
 za 29 28 1 [0],
 zm 30 0 [],
 zn 31 30 [2],
 zf 32 0 31 [3],
 zl 33 32 [4],
 zL 34 0 33 [5],
 oo 35 (.bin .lss (.t 29) (.t 34)) [1,6],
 zm 36 35 [7],
 ym 37 0 36 true [8],
 yn 38 37 36 true [9,8],
 yf 39 0 38 36 true [10,8],
 yl 40 39 36 true [11,8],
 ym 41 4 36 true [8],
 og 42 (.idxS (.t 40) (.t 41)) 36 true [12,13,8],
 og 43 (.bin .eql (.t 42) (.c (.int .u8 46))) 36 true [14,8],
 zp 44 36 43 [8,15],
 zm 45 44 [16,8],
 ym 46 0 45 true [17],
 yn 47 46 45 true [18,17],
 yf 48 0 47 45 true [19,17],
 yl 49 48 45 true [20,17],
 ym 50 4 45 true [17],
 og 51 (.bin .add (.t 50) (.c (.int .i64 1))) 45 true [22,17],
 og 52 (.idxS (.t 49) (.t 51)) 45 true [21,23,17],
 og 53 (.callF 26 [(.t 52)]) 45 true [24,17,17],
 zp 54 45 53 [17,25]]
abbrev r27_5:List AOper:=[
 zm 55 4 [],
 za 56 55 1 [0],
 zm 7 56 [1,0,1]]
abbrev r27_6:List AOper:=[
 zm 57 0 [],
 zm 58 7 [],
 oo 59 (.callF 17 [(.t 57),(.t 58),(.c (.fn (.func 26) [] []))]) [0,1],
 zm 4 59 [2,2,0,1,2]]
abbrev r27_7:List AOper:=[
 zm 60 0 [],
 zn 61 60 [0],
 zf 62 0 61 [1],
 zl 63 62 [2],
 zm 64 7 [],
 zm 65 4 [],
 oo 66 (.slcS (.t 63) (some (.t 64)) (some (.t 65))) [3,4,5],
 zm 6 66 [6,0,1,2,3,4,5,6]]
abbrev r27_8:List AOper:=[
 zm 67 5 [],
 zL 68 0 67 [0],
 oo 69 (.bin .gtr (.t 68) (.c (.int .i64 1))) [1],
 zm 70 69 [2],
 ym 71 5 70 true [3],
 og 72 (.idxS (.t 71) (.c (.int .i64 0))) 70 true [4,3],
 og 73 (.bin .eql (.t 72) (.c (.int .u8 48))) 70 true [5,3],
 zp 74 70 73 [3,6],
 zm 75 74 [7,3],
 ym 76 6 75 false [8],
 og 77 (.bin .neq (.t 76) (.c (.str ⟨#[]⟩))) 75 false [9,8],
 ym 78 77 75 false [10,8,8],
 ym 79 5 78 true [11],
 og 80 (.len 0 (.t 79)) 78 true [12,11],
 ym 81 6 78 true [11],
 og 82 (.len 0 (.t 81)) 78 true [14,11],
 og 83 (.bin .add (.t 80) (.t 82)) 78 true [13,15,11],
 og 84 (.bin .gtr (.t 83) (.c (.int .i64 15))) 78 true [16,11],
 og 85 (.pick (.t 78) (.t 84) (.c (.bool false))) 75 false [11,17,8],
 zo 86 75 85 [8,18],
 zm 87 86 [19,11],
 ym 88 5 87 false [20],
 og 89 (.len 0 (.t 88)) 87 false [21,20],
 og 90 (.bin .gtr (.t 89) (.c (.int .i64 18))) 87 false [22,20],
 zo 91 87 90 [20,23]]
abbrev r27_9:List AOper:=[
 zm 92 0 [],
 zn 93 92 [0,0],
 zf 94 2 93 [1,0],
 on (.store 1 (.t 94) (.c (.int .i64 22))) [2,0]]
abbrev r27_10:List AOper:=[
 oo 95 (.build [.int .i64 0,.str ⟨#[]⟩,.int .i64 0,.flt .f64 0,.int .i64 0] []) [],
 zm 96 4 [],
 zs 5 2 95 [0,0],
 zm 3 96 [1,2,0,1,2]]
abbrev r27_11:List AOper:=[
 zi 8 0 []]
abbrev r27_12:List AOper:=[
 zm 97 5 [],
 zm 98 6 [],
 oo 99 (.bin .add (.t 97) (.t 98)) [0,1],
 oo 100 (.conv (.strBytes 5) (.t 99)) [2],
 zL 101 1 100 [3],
 zi 102 0 []]
abbrev r27_13:List AOper:=[
 oo 103 (.bin .lss (.t 102) (.t 101)) []]
abbrev r27_14:List AOper:=[
 zd 104 1 100 102 [],
 zl 105 104 [0],
 zm 10 105 [1,0,1]]
abbrev r27_15:List AOper:=[
 zm 106 8 [],
 oo 107 (.bin .mul (.c (.int .i64 10)) (.t 106)) [0],
 zm 108 10 [],
 oo 109 (.bin .sub (.t 108) (.c (.int .u8 48))) [2],
 oo 110 (.conv (.toInt .i64) (.t 109)) [3],
 oo 111 (.bin .add (.t 107) (.t 110)) [1,4],
 zm 8 111 [5,0,1,2,3,4,5]]
abbrev r27_16:List AOper:=[
 za 112 102 1 [],
 zm 102 112 [0]]
def l27_0:ACode:=
 .seq (
 .g r27_13 [0,2,4,6,8,100,101,102,103]) (
 .seq (
 .cond (.t 103) (
  .skip) (
  .exit 0)) (
 .seq (
 .block 1 (
  .seq (
  .g r27_14 [0,2,4,6,8,10,100,101,102]) (
  .g r27_15 [0,2,4,6,8,100,101,102]))) (
 .g r27_16 [0,2,4,6,8,100,101,102])))
abbrev r27_17:List AOper:=[
 zm 113 6 [],
 oo 114 (.bin .eql (.t 113) (.c (.str ⟨#[]⟩))) [0]]
abbrev r27_18:List AOper:=[
 zm 115 8 [],
 oo 116 (.bin .gtr (.t 115) (.c (.int .i64 576460752303423487))) [0]]
abbrev r27_19:List AOper:=[
 zm 117 0 [],
 zn 118 117 [0,0],
 zf 119 2 118 [1,0],
 on (.store 1 (.t 119) (.c (.int .i64 22))) [2,0]]
abbrev r27_20:List AOper:=[
 zm 120 8 [],
 oo 121 (.build [.int .i64 0,.str ⟨#[]⟩,.int .i64 0,.flt .f64 0,.int .i64 0] [(0,1,(.c (.int .i64 3))),(2,1,(.t 120))]) [0],
 zm 122 4 [],
 zs 5 2 121 [1,0,1],
 zm 3 122 [2,3,0,1,2,3]]
abbrev r27_21:List AOper:=[
 oo 11 (.mv (.c (.flt .f64 4607182418800017408))) []]
abbrev r27_22:List AOper:=[
 zm 123 6 [],
 oo 124 (.rngS (.t 123)) [0]]
abbrev r27_23:List AOper:=[
 oo 125 (.nxtS (.t 124)) [],
 zx 126 125 0 [0]]
abbrev r27_24:List AOper:=[
 zm 127 11 [],
 oo 128 (.bin .mul (.t 127) (.c (.flt .f64 4621819117588971520))) [0],
 zm 11 128 [1,0,1]]
def l27_1:ACode:=
 .seq (
 .g r27_23 [2,4,8,11,124,126]) (
 .seq (
 .cond (.t 126) (
  .skip) (
  .exit 2)) (
 .block 3 (
  .g r27_24 [2,4,8,11,124])))
abbrev r27_25:List AOper:=[
 zm 129 8 [],
 oo 130 (.conv (.toFlt .f64) (.t 129)) [0],
 zm 131 11 [],
 oo 132 (.bin .quo (.t 130) (.t 131)) [1,2],
 oo 133 (.build [.int .i64 0,.str ⟨#[]⟩,.int .i64 0,.flt .f64 0,.int .i64 0] [(0,1,(.c (.int .i64 4))),(3,1,(.t 132))]) [3],
 zm 134 4 [],
 zs 5 2 133 [4,0,1,2,3,4],
 zm 3 134 [5,6,0,1,2,3,4,5,6]]
def m27_2:List Nat:=[0,1,3,7,0,16,48,112,0,511,1023]
theorem d27_2:okDraw r27_2 m27_2=true:=by kernel_rfl
def k27:List (List Nat):=[[0,2],[0,2,4],[0,2,4,5],[0,2,4,5,6],[0,2,4,5,6,54],[0,2,5,7],[0,2,4,5,7],[0,2,4,5,6],[0,2,4,5,6,91],[2,4],[2,3],[0,2,4,5,6,8],[0,2,4,6,8,100,101,102],[0,2,4,6,8,100,101,102,103],[0,2,4,6,8,10,100,101,102],[0,2,4,6,8,100,101,102],[0,2,4,6,8,100,101,102],[0,2,4,6,8,114],[0,2,4,8,116],[2,4,8],[2,3],[2,4,6,8,11],[2,4,8,11,124],[2,4,8,11,124,126],[2,4,8,11,124],[2,3]]
def f27:AFunc:={ ntmps:=135,results:=[.cell 2 (some 5),.tmp 3],body:=(
 .seq (
 .g r27_0 [0,2]) (
 .seq (
 .g r27_1 [0,2,4]) (
 .seq (
 .region true r27_2 [0,2,4,5]) (
 .seq (
 .g r27_3 [0,2,4,5,6]) (
 .seq (
 .seq (
 .g r27_4 [0,2,4,5,6,54]) (
 .cond (.t 54) (
  .seq (
  .g r27_5 [0,2,5,7]) (
  .seq (
  .g r27_6 [0,2,4,5,7]) (
  .g r27_7 [0,2,4,5,6]))) (
  .skip))) (
 .seq (
 .seq (
 .g r27_8 [0,2,4,5,6,91]) (
 .cond (.t 91) (
  .seq (
  .g r27_9 [2,4]) (
  .seq (
  .g r27_10 [2,3]) (
  .ret))) (
  .skip))) (
 .seq (
 .g r27_11 [0,2,4,5,6,8]) (
 .seq (
 .seq (
 .g r27_12 [0,2,4,6,8,100,101,102]) (
 .block 0 (
  .loop l27_0))) (
 .seq (
 .seq (
 .g r27_17 [0,2,4,6,8,114]) (
 .cond (.t 114) (
  .seq (
  .seq (
  .g r27_18 [0,2,4,8,116]) (
  .cond (.t 116) (
   .g r27_19 [2,4,8]) (
   .skip))) (
  .seq (
  .g r27_20 [2,3]) (
  .ret))) (
  .skip))) (
 .seq (
 .g r27_21 [2,4,6,8,11]) (
 .seq (
 .seq (
 .g r27_22 [2,4,8,11,124]) (
 .block 2 (
  .loop l27_1))) (
 .seq (
 .g r27_25 [2,3]) (
 .ret))))))))))))) }
theorem c27:cfunc Tryd.prog (kof k27) Tryd.f27=some f27:=by kernel_rfl
abbrev r28_0:List AOper:=[
 oo 2 (.alloc 31 (.agg [.int .i64 0,.str ⟨#[]⟩,.int .i64 0,.flt .f64 0,.int .i64 0])) [],
 zi 3 0 []]
abbrev r28_1:List AOper:=[
 zm 8 0 [],
 zn 9 8 [0],
 zf 10 1 9 [1],
 zl 11 10 [2],
 za 12 11 1 [3],
 zm 4 12 [4,0,1,2,3,4]]
abbrev r28_2:List AOper:=[
 oo 5 (.mv (.c (.int .u64 0))) []]
abbrev r28_3:List AOper:=[
 zm 13 4 [],
 zm 14 0 [],
 zn 15 14 [1],
 zf 16 1 15 [2],
 zl 17 16 [3],
 za 18 17 17 [4],
 oo 19 (.bin .lss (.t 13) (.t 18)) [0,5]]
abbrev r28_5:List AOper:=[
 zm 22 4 [],
 zm 23 0 [],
 zn 24 23 [1],
 zf 25 0 24 [2],
 zl 26 25 [3],
 zL 27 0 26 [4],
 oo 28 (.bin .eql (.t 22) (.t 27)) [0,5],
 zm 29 28 [6],
 ym 30 0 29 false [7],
 yn 31 30 29 false [8,7],
 yf 32 0 31 29 false [9,7],
 yl 33 32 29 false [10,7],
 ym 34 4 29 false [7],
 og 35 (.idxS (.t 33) (.t 34)) 29 false [11,12,7],
 og 36 (.callF 40 [(.t 35)]) 29 false [13,7,7],
 og 37 (.bin .lss (.t 36) (.c (.int .i64 0))) 29 false [14,7],
 zo 38 29 37 [7,15]]
abbrev r28_6:List AOper:=[
 zm 39 0 [],
 zn 40 39 [0,0],
 zf 41 2 40 [1,0],
 on (.store 1 (.t 41) (.c (.int .i64 22))) [2,0]]
abbrev r28_7:List AOper:=[
 oo 42 (.build [.int .i64 0,.str ⟨#[]⟩,.int .i64 0,.flt .f64 0,.int .i64 0] []) [],
 zm 43 4 [],
 zs 5 2 42 [0,0],
 zm 3 43 [1,2,0,1,2]]
abbrev r28_8:List AOper:=[
 zm 44 5 [],
 oo 45 (.bin .shl (.t 44) (.c (.int .u64 4))) [0],
 zm 46 0 [],
 zn 47 46 [2],
 zf 48 0 47 [3],
 zl 49 48 [4],
 zm 50 4 [],
 oo 51 (.idxS (.t 49) (.t 50)) [5,6],
 zk 52 40 51 [7],
 oo 53 (.conv (.toInt .u64) (.t 52)) [8],
 oo 54 (.bin .or (.t 45) (.t 53)) [1,9],
 zm 5 54 [10,8,0,1,2,3,4,5,6,7,8,9,10]]
abbrev r28_4:List AOper:=[
 zm 20 4 [],
 za 21 20 1 [0],
 zm 4 21 [1,0,1]]
def l28_0:ACode:=
 .seq (
 .seq (
 .g r28_3 [0,2,4,5,19]) (
 .cond (.t 19) (
  .skip) (
  .exit 0))) (
 .seq (
 .block 1 (
  .seq (
  .seq (
  .g r28_5 [0,2,4,5,38]) (
  .cond (.t 38) (
   .seq (
   .g r28_6 [2,4]) (
   .seq (
   .g r28_7 [2,3]) (
   .ret))) (
   .skip))) (
  .g r28_8 [0,2,4,5]))) (
 .g r28_4 [0,2,4,5]))
abbrev r28_9:List AOper:=[
 zm 56 5 [],
 zk 57 41 56 [0],
 zm 55 57 [1],
 zx 58 55 0 [2],
 zx 59 55 1 [2],
 oo 6 (.alloc 78 (.agg [.int .i64 0,.int .i64 0,.flt .f64 0,.str ⟨#[]⟩,.nils])) [],
 zs 5 6 58 [5,3,1,0,1,2,3,5],
 zm 7 59 [4,6,0,1,2,3,4,5,6]]
abbrev r28_10:List AOper:=[
 zm 60 7 [],
 oo 61 (.bin .neq (.t 60) (.c (.int .i64 0))) [0]]
abbrev r28_11:List AOper:=[
 zm 62 0 [],
 zn 63 62 [0,0],
 zf 64 2 63 [1,0],
 on (.store 1 (.t 64) (.c (.int .i64 22))) [2,0]]
abbrev r28_12:List AOper:=[
 zf 65 2 6 [],
 zl 66 65 [0],
 oo 67 (.build [.int .i64 0,.str ⟨#[]⟩,.int .i64 0,.flt .f64 0,.int .i64 0] [(0,1,(.c (.int .i64 4))),(3,1,(.t 66))]) [1],
 zm 68 4 [],
 zs 5 2 67 [2,0,1,2],
 zm 3 68 [3,4,0,1,2,3,4]]
def k28:List (List Nat):=[[0,2],[0,2,4],[0,2,4,5],[0,2,4,5,19],[0,2,4,5],[0,2,4,5,38],[2,4],[2,3],[0,2,4,5],[0,2,4,6,7],[0,2,4,6,61],[2,4,6],[2,3]]
def f28:AFunc:={ ntmps:=69,results:=[.cell 2 (some 5),.tmp 3],body:=(
 .seq (
 .g r28_0 [0,2]) (
 .seq (
 .g r28_1 [0,2,4]) (
 .seq (
 .g r28_2 [0,2,4,5]) (
 .seq (
 .block 0 (
  .loop l28_0)) (
 .seq (
 .g r28_9 [0,2,4,6,7]) (
 .seq (
 .seq (
 .g r28_10 [0,2,4,6,61]) (
 .cond (.t 61) (
  .g r28_11 [2,4,6]) (
  .skip))) (
 .seq (
 .g r28_12 [2,3]) (
 .ret)))))))) }
theorem c28:cfunc Tryd.prog (kof k28) Tryd.f28=some f28:=by kernel_rfl
abbrev r29_0:List AOper:=[
 oo 4 (.mv (.c (.str ⟨#[]⟩))) [],
 zi 5 0 [0]]
abbrev r29_1:List AOper:=[
 oo 6 (.mv (.c (.nils))) []]
abbrev r29_2:List AOper:=[
 zm 10 0 [],
 zn 11 10 [0],
 zf 12 1 11 [1],
 zl 13 12 [2],
 za 14 13 1 [3],
 zm 7 14 [4,0,1,2,3,4]]
abbrev r29_3:List AOper:=[
 zm 15 7 [],
 zm 16 0 [],
 zn 17 16 [1],
 zf 18 0 17 [2],
 zl 19 18 [3],
 zL 20 0 19 [4],
 oo 21 (.bin .lss (.t 15) (.t 20)) [0,5]]
abbrev r29_4:List AOper:=[
 zm 22 0 [],
 zn 23 22 [0],
 zf 24 0 23 [1],
 zl 25 24 [2],
 zm 26 7 [],
 oo 27 (.idxS (.t 25) (.t 26)) [3,4],
 zm 8 27 [5,0,1,2,3,4,5]]
abbrev r29_5:List AOper:=[
 zm 29 8 [],
 zm 30 1 [],
 oo 31 (.bin .eql (.t 29) (.t 30)) [0,1],
 zm 28 31 [2]]
abbrev r29_6:List AOper:=[
 zm 32 6 [],
 oo 33 (.conv .bytesStr (.t 32)) [0],
 zm 34 7 [],
 za 35 34 1 [2],
 zm 4 33 [1,0,1],
 zm 5 35 [3,4,0,1,2,3,4]]
abbrev r29_7:List AOper:=[
 zm 37 8 [],
 oo 38 (.bin .neq (.t 37) (.c (.int .u8 92))) [0],
 zm 36 38 [1]]
abbrev r29_8:List AOper:=[
 zm 39 6 [],
 zm 40 8 [],
 oo 41 (.bslice 5 1 [.int .u8 0] [(0,1,(.t 40))]) [1],
 oo 42 (.app 5 1 1 (.t 39) (.t 41)) [0,2],
 zm 6 42 [3,3,0,1,2,3]]
abbrev r29_9:List AOper:=[
 zm 43 7 [],
 za 44 43 1 [0],
 zm 7 44 [1,0,1]]
abbrev r29_10:List AOper:=[
 zm 46 0 [],
 zn 47 46 [0],
 zf 48 0 47 [1],
 zl 49 48 [2],
 zm 50 7 [],
 oo 51 (.slcS (.t 49) (some (.t 50)) none) [3,4],
 zk 52 42 51 [5],
 zm 45 52 [6],
 zx 53 45 0 [7],
 zx 54 45 1 [7],
 zm 8 53 [8,6,0,1,2,3,4,5,6,7,8],
 zm 9 54 [9,10,0,1,2,3,4,5,6,7,8,9,10]]
abbrev r29_11:List AOper:=[
 zm 55 9 [],
 ze 56 55 0 [0]]
abbrev r29_12:List AOper:=[
 zm 57 6 [],
 zm 58 8 [],
 oo 59 (.bslice 5 1 [.int .u8 0] [(0,1,(.t 58))]) [1],
 oo 60 (.app 5 1 1 (.t 57) (.t 59)) [0,2],
 zm 6 60 [3,3,0,1,2,3]]
abbrev r29_13:List AOper:=[
 zm 61 7 [],
 zm 62 9 [],
 oo 63 (.bin .add (.t 61) (.t 62)) [0,1],
 zm 7 63 [2,0,1,2]]
def l29_0:ACode:=
 .seq (
 .seq (
 .g r29_3 [0,1,6,7,21]) (
 .cond (.t 21) (
  .skip) (
  .exit 0))) (
 .block 1 (
  .seq (
  .g r29_4 [0,1,6,7,8]) (
  .seq (
  .block 2 (
   .seq (
   .g r29_5 [0,1,6,7,8,28]) (
   .cond (.t 28) (
    .seq (
    .g r29_6 [4,5]) (
    .ret)) (
    .seq (
    .g r29_7 [0,1,6,7,8,36]) (
    .cond (.t 36) (
     .seq (
     .g r29_8 [0,1,6,7]) (
     .seq (
     .g r29_9 [0,1,6,7]) (
     .exit 1))) (
     .skip)))))) (
  .seq (
  .g r29_10 [0,1,6,7,8,9]) (
  .seq (
  .seq (
  .g r29_11 [0,1,6,7,8,9,56]) (
  .cond (.t 56) (
   .exit 0) (
   .skip))) (
  .seq (
  .g r29_12 [0,1,6,7,9]) (
  .g r29_13 [0,1,6,7])))))))
abbrev r29_14:List AOper:=[
 zm 64 0 [],
 zn 65 64 [0,0],
 zf 66 2 65 [1,0],
 on (.store 1 (.t 66) (.c (.int .i64 23))) [2,0]]
abbrev r29_15:List AOper:=[
 zm 67 7 [],
 oo 4 (.mv (.c (.str ⟨#[]⟩))) [],
 zm 5 67 [0,1,0,1]]
def k29:List (List Nat):=[[0,1],[0,1,6],[0,1,6,7],[0,1,6,7,21],[0,1,6,7,8],[0,1,6,7,8,28],[4,5],[0,1,6,7,8,36],[0,1,6,7],[0,1,6,7],[0,1,6,7,8,9],[0,1,6,7,8,9,56],[0,1,6,7,9],[0,1,6,7],[7],[4,5]]
def f29:AFunc:={ ntmps:=68,results:=[.tmp 4,.tmp 5],body:=(
 .seq (
 .g r29_0 [0,1]) (
 .seq (
 .g r29_1 [0,1,6]) (
 .seq (
 .g r29_2 [0,1,6,7]) (
 .seq (
 .block 0 (
  .loop l29_0)) (
 .seq (
 .g r29_14 [7]) (
 .seq (
 .g r29_15 [4,5]) (
 .ret))))))) }
theorem c29:cfunc Tryd.prog (kof k29) Tryd.f29=some f29:=by kernel_rfl
abbrev r30_0:List AOper:=[
 oo 2 (.mv (.c (.str ⟨#[]⟩))) []]
abbrev r30_1:List AOper:=[
 zm 6 0 [],
 zn 7 6 [0],
 zf 8 0 7 [1],
 zl 9 8 [2],
 zm 10 0 [],
 zn 11 10 [4],
 zf 12 1 11 [5],
 zl 13 12 [6],
 oo 14 (.slcS (.t 9) (some (.t 13)) none) [3,7],
 zm 3 14 [8,0,1,2,3,4,5,6,7,8]]
abbrev r30_2:List AOper:=[
 oo 15 (.callF 43 [(.c (.str ⟨#[61,58,61,32,61,47,61,32,45,62,32,61,61,32,47,61,32,61,60,32,62,61,32,43,43,32,40,32,41,32,123,32,125,32,91,32,93,32,44,32,59,32,46,32,124,32,61,32,60,32,62,32,43,32,45,32,42,32,47,32,33,32,58]⟩))]) [],
 zL 16 1 15 [0],
 zi 17 0 []]
abbrev r30_3:List AOper:=[
 oo 18 (.bin .lss (.t 17) (.t 16)) []]
abbrev r30_4:List AOper:=[
 zd 19 1 15 17 [],
 zl 20 19 [0],
 zm 5 20 [1,0,1]]
abbrev r30_5:List AOper:=[
 zm 21 3 [],
 zm 22 5 [],
 zq 23 44 21 22 [0,1]]
abbrev r30_6:List AOper:=[
 zm 24 5 [],
 zm 2 24 [0,0]]
abbrev r30_7:List AOper:=[
 za 25 17 1 [],
 zm 17 25 [0]]
def l30_0:ACode:=
 .seq (
 .g r30_3 [3,15,16,17,18]) (
 .seq (
 .cond (.t 18) (
  .skip) (
  .exit 0)) (
 .seq (
 .block 1 (
  .seq (
  .g r30_4 [3,5,15,16,17]) (
  .seq (
  .g r30_5 [3,5,15,16,17,23]) (
  .cond (.t 23) (
   .seq (
   .g r30_6 [2]) (
   .ret)) (
   .skip))))) (
 .g r30_7 [3,15,16,17])))
abbrev r30_8:List AOper:=[
 oo 2 (.mv (.c (.str ⟨#[]⟩))) []]
def m30_1:List Nat:=[0,1,3,7,0,16,48,112,255,511]
theorem d30_1:okDraw r30_1 m30_1=true:=by kernel_rfl
def k30:List (List Nat):=[[0],[3],[3,15,16,17],[3,15,16,17,18],[3,5,15,16,17],[3,5,15,16,17,23],[2],[3,15,16,17],[2]]
def f30:AFunc:={ ntmps:=26,results:=[.tmp 2],body:=(
 .seq (
 .g r30_0 [0]) (
 .seq (
 .region true r30_1 [3]) (
 .seq (
 .seq (
 .g r30_2 [3,15,16,17]) (
 .block 0 (
  .loop l30_0))) (
 .seq (
 .g r30_8 [2]) (
 .ret))))) }
theorem c30:cfunc Tryd.prog (kof k30) Tryd.f30=some f30:=by kernel_rfl
abbrev r31_0:List AOper:=[
 oo 2 (.mv (.c (.bool false))) []]
abbrev r31_1:List AOper:=[
 zm 3 0 [],
 zk 4 24 3 [0],
 zm 5 4 [1,1],
 ym 6 0 5 false [2],
 og 7 (.callF 25 [(.t 6)]) 5 false [3,2,2],
 zo 8 5 7 [2,4],
 zm 9 8 [5,4],
 ym 10 0 9 false [6],
 og 11 (.callF 26 [(.t 10)]) 9 false [7,6,6],
 zo 12 9 11 [6,8],
 zm 13 12 [9,8],
 ym 14 0 13 false [10],
 og 15 (.bin .eql (.t 14) (.c (.int .u8 95))) 13 false [11,10],
 zo 16 13 15 [10,12],
 zm 17 16 [13,10],
 ym 18 0 17 false [14],
 og 19 (.bin .eql (.t 18) (.c (.int .u8 64))) 17 false [15,14],
 zo 20 17 19 [14,16],
 zm 2 20 [17,14,0,1,2,3,4,5,6,7,8,9,10,11,12,13,14,15,16,17]]
def k31:List (List Nat):=[[0],[2]]
def f31:AFunc:={ ntmps:=21,results:=[.tmp 2],body:=(
 .seq (
 .g r31_0 [0]) (
 .seq (
 .g r31_1 [2]) (
 .ret))) }
theorem c31:cfunc Tryd.prog (kof k31) Tryd.f31=some f31:=by kernel_rfl
abbrev r32_0:List AOper:=[
 oo 2 (.mv (.c (.bool false))) []]
abbrev r32_1:List AOper:=[
 zm 3 0 []]
abbrev r32_2:List AOper:=[
 oo 5 (.bin .eql (.t 3) (.c (.str ⟨#[97,102,116,101,114]⟩))) [],
 zm 4 5 [0]]
abbrev r32_3:List AOper:=[
 oo 6 (.bin .eql (.t 3) (.c (.str ⟨#[97,110,100,97,108,115,111]⟩))) [],
 zm 4 6 [0]]
abbrev r32_4:List AOper:=[
 oo 7 (.bin .eql (.t 3) (.c (.str ⟨#[98,101,103,105,110]⟩))) [],
 zm 4 7 [0]]
abbrev r32_5:List AOper:=[
 oo 8 (.bin .eql (.t 3) (.c (.str ⟨#[99,97,115,101]⟩))) [],
 zm 4 8 [0]]
abbrev r32_6:List AOper:=[
 oo 9 (.bin .eql (.t 3) (.c (.str ⟨#[99,97,116,99,104]⟩))) [],
 zm 4 9 [0]]
abbrev r32_7:List AOper:=[
 oo 10 (.bin .eql (.t 3) (.c (.str ⟨#[100,105,118]⟩))) [],
 zm 4 10 [0]]
abbrev r32_8:List AOper:=[
 oo 11 (.bin .eql (.t 3) (.c (.str ⟨#[101,110,100]⟩))) [],
 zm 4 11 [0]]
abbrev r32_9:List AOper:=[
 oo 12 (.bin .eql (.t 3) (.c (.str ⟨#[102,117,110]⟩))) [],
 zm 4 12 [0]]
abbrev r32_10:List AOper:=[
 oo 13 (.bin .eql (.t 3) (.c (.str ⟨#[110,111,116]⟩))) [],
 zm 4 13 [0]]
abbrev r32_11:List AOper:=[
 oo 14 (.bin .eql (.t 3) (.c (.str ⟨#[111,102]⟩))) [],
 zm 4 14 [0]]
abbrev r32_12:List AOper:=[
 oo 15 (.bin .eql (.t 3) (.c (.str ⟨#[111,114,101,108,115,101]⟩))) [],
 zm 4 15 [0]]
abbrev r32_13:List AOper:=[
 oo 16 (.bin .eql (.t 3) (.c (.str ⟨#[114,101,99,101,105,118,101]⟩))) [],
 zm 4 16 [0]]
abbrev r32_14:List AOper:=[
 oo 17 (.bin .eql (.t 3) (.c (.str ⟨#[114,101,109]⟩))) [],
 zm 4 17 [0]]
abbrev r32_15:List AOper:=[
 oo 18 (.bin .eql (.t 3) (.c (.str ⟨#[116,114,121]⟩))) [],
 zm 4 18 [0]]
abbrev r32_16:List AOper:=[
 oo 19 (.bin .eql (.t 3) (.c (.str ⟨#[119,104,101,110]⟩))) [],
 zm 4 19 [0]]
abbrev r32_17:List AOper:=[
 oo 2 (.mv (.c (.bool true))) []]
abbrev r32_18:List AOper:=[
 oo 2 (.mv (.c (.bool false))) []]
def k32:List (List Nat):=[[0],[3],[3,4],[3,4],[3,4],[3,4],[3,4],[3,4],[3,4],[3,4],[3,4],[3,4],[3,4],[3,4],[3,4],[3,4],[4],[2],[2]]
def f32:AFunc:={ ntmps:=20,results:=[.tmp 2],body:=(
 .seq (
 .g r32_0 [0]) (
 .seq (
 .seq (
 .g r32_1 [3]) (
 .block 0 (
  .seq (
  .seq (
  .g r32_2 [3,4]) (
  .cond (.t 4) (
   .skip) (
   .seq (
   .g r32_3 [3,4]) (
   .cond (.t 4) (
    .skip) (
    .seq (
    .g r32_4 [3,4]) (
    .cond (.t 4) (
     .skip) (
     .seq (
     .g r32_5 [3,4]) (
     .cond (.t 4) (
      .skip) (
      .seq (
      .g r32_6 [3,4]) (
      .cond (.t 4) (
       .skip) (
       .seq (
       .g r32_7 [3,4]) (
       .cond (.t 4) (
        .skip) (
        .seq (
        .g r32_8 [3,4]) (
        .cond (.t 4) (
         .skip) (
         .seq (
         .g r32_9 [3,4]) (
         .cond (.t 4) (
          .skip) (
          .seq (
          .g r32_10 [3,4]) (
          .cond (.t 4) (
           .skip) (
           .seq (
           .g r32_11 [3,4]) (
           .cond (.t 4) (
            .skip) (
            .seq (
            .g r32_12 [3,4]) (
            .cond (.t 4) (
             .skip) (
             .seq (
             .g r32_13 [3,4]) (
             .cond (.t 4) (
              .skip) (
              .seq (
              .g r32_14 [3,4]) (
              .cond (.t 4) (
               .skip) (
               .seq (
               .g r32_15 [3,4]) (
               .cond (.t 4) (
                .skip) (
                .g r32_16 [4]))))))))))))))))))))))))))))) (
  .cond (.t 4) (
   .seq (
   .g r32_17 [2]) (
   .ret)) (
   .skip))))) (
 .seq (
 .g r32_18 [2]) (
 .ret)))) }
theorem c32:cfunc Tryd.prog (kof k32) Tryd.f32=some f32:=by kernel_rfl
abbrev r40_0:List AOper:=[
 zi 2 0 []]
abbrev r40_1:List AOper:=[
 zm 3 0 [],
 oo 4 (.callF 47 [(.c (.str ⟨#[48,49,50,51,52,53,54,55,56,57,97,98,99,100,101,102]⟩)),(.t 3)]) [0],
 zm 2 4 [1,1,0,1]]
def k40:List (List Nat):=[[0],[2]]
def f40:AFunc:={ ntmps:=5,results:=[.tmp 2],body:=(
 .seq (
 .g r40_0 [0]) (
 .seq (
 .g r40_1 [2]) (
 .ret))) }
theorem c40:cfunc Tryd.prog (kof k40) Tryd.f40=some f40:=by kernel_rfl
abbrev r41_0:List AOper:=[
 oo 2 (.alloc 78 (.agg [.int .i64 0,.int .i64 0,.flt .f64 0,.str ⟨#[]⟩,.nils])) [],
 zi 3 0 []]
abbrev r41_1:List AOper:=[
 zm 4 0 [],
 oo 5 (.ext 1 [(.t 4)]) [0],
 zk 6 48 5 [1,1],
 zx 7 6 0 [2],
 zx 8 6 1 [2],
 zs 5 2 7 [3,2,0,1,2,3,4],
 zm 3 8 [4,5,0,1,2,3,4,5]]
def k41:List (List Nat):=[[0,2],[2,3]]
def f41:AFunc:={ ntmps:=9,results:=[.cell 2 (some 5),.tmp 3],body:=(
 .seq (
 .g r41_0 [0,2]) (
 .seq (
 .g r41_1 [2,3]) (
 .ret))) }
theorem c41:cfunc Tryd.prog (kof k41) Tryd.f41=some f41:=by kernel_rfl
abbrev r42_0:List AOper:=[
 oo 2 (.mv (.c (.int .u8 0))) [],
 zi 3 0 [0]]
abbrev r42_1:List AOper:=[
 zm 5 0 [],
 zL 6 0 5 [0],
 oo 7 (.bin .lss (.t 6) (.c (.int .i64 2))) [1]]
abbrev r42_2:List AOper:=[
 oo 2 (.mv (.c (.int .u8 0))) [],
 zi 3 0 [0,0]]
abbrev r42_3:List AOper:=[
 zm 8 0 [],
 oo 9 (.idxS (.t 8) (.c (.int .i64 1))) [0],
 zm 4 9 [1,0,1]]
abbrev r42_4:List AOper:=[
 zm 10 4 []]
abbrev r42_5:List AOper:=[
 oo 12 (.bin .eql (.t 10) (.c (.int .u8 92))) [],
 zm 11 12 [0]]
abbrev r42_6:List AOper:=[
 oo 13 (.bin .eql (.t 10) (.c (.int .u8 39))) [],
 zm 11 13 [0]]
abbrev r42_7:List AOper:=[
 oo 14 (.bin .eql (.t 10) (.c (.int .u8 34))) [],
 zm 11 14 [0]]
abbrev r42_8:List AOper:=[
 zm 15 4 [],
 zm 2 15 [0,0],
 zi 3 2 [1,0,1]]
abbrev r42_9:List AOper:=[
 oo 17 (.bin .eql (.t 10) (.c (.int .u8 110))) [],
 zm 16 17 [0]]
abbrev r42_10:List AOper:=[
 oo 2 (.mv (.c (.int .u8 10))) [],
 zi 3 2 [0,0]]
abbrev r42_11:List AOper:=[
 oo 19 (.bin .eql (.t 10) (.c (.int .u8 116))) [],
 zm 18 19 [0]]
abbrev r42_12:List AOper:=[
 oo 2 (.mv (.c (.int .u8 9))) [],
 zi 3 2 [0,0]]
abbrev r42_13:List AOper:=[
 oo 21 (.bin .eql (.t 10) (.c (.int .u8 120))) [],
 zm 20 21 [0]]
abbrev r42_14:List AOper:=[
 zm 22 0 [],
 zL 23 0 22 [0],
 oo 24 (.bin .gtr (.t 23) (.c (.int .i64 3))) [1],
 zm 25 24 [2],
 ym 26 0 25 true [3],
 og 27 (.idxS (.t 26) (.c (.int .i64 2))) 25 true [4,3],
 og 28 (.callF 40 [(.t 27)]) 25 true [5,3,3],
 og 29 (.bin .geq (.t 28) (.c (.int .i64 0))) 25 true [6,3],
 zp 30 25 29 [3,7],
 zm 31 30 [8,6],
 ym 32 0 31 true [9],
 og 33 (.idxS (.t 32) (.c (.int .i64 3))) 31 true [10,9],
 og 34 (.callF 40 [(.t 33)]) 31 true [11,9,9],
 og 35 (.bin .geq (.t 34) (.c (.int .i64 0))) 31 true [12,9],
 zp 36 31 35 [9,13]]
abbrev r42_15:List AOper:=[
 zm 37 0 [],
 oo 38 (.idxS (.t 37) (.c (.int .i64 2))) [0],
 zk 39 40 38 [1],
 oo 40 (.bin .mul (.c (.int .i64 16)) (.t 39)) [2],
 zm 41 0 [],
 oo 42 (.idxS (.t 41) (.c (.int .i64 3))) [4],
 zk 43 40 42 [5,2],
 oo 44 (.bin .add (.t 40) (.t 43)) [3,6],
 oo 45 (.conv (.toInt .u8) (.t 44)) [7],
 zm 2 45 [8,6,0,1,2,3,4,5,6,7,8],
 zi 3 4 [9,0,1,2,3,4,5,6,7,8,9]]
abbrev r42_16:List AOper:=[
 oo 2 (.mv (.c (.int .u8 0))) [],
 zi 3 0 [0,0]]
def m42_15:List Nat:=[0,1,3,7,0,16,55,127,255,511,1023]
theorem d42_15:okDraw r42_15 m42_15=true:=by kernel_rfl
def k42:List (List Nat):=[[0],[0,7],[2,3],[0,4],[0,4,10],[0,4,10,11],[0,4,10,11],[0,4,10,11],[2,3],[0,10,16],[2,3],[0,10,18],[2,3],[0,20],[0,36],[2,3],[2,3]]
def f42:AFunc:={ ntmps:=46,results:=[.tmp 2,.tmp 3],body:=(
 .seq (
 .g r42_0 [0]) (
 .seq (
 .seq (
 .g r42_1 [0,7]) (
 .cond (.t 7) (
  .seq (
  .g r42_2 [2,3]) (
  .ret)) (
  .skip))) (
 .seq (
 .seq (
 .g r42_3 [0,4]) (
 .seq (
 .g r42_4 [0,4,10]) (
 .block 0 (
  .seq (
  .seq (
  .g r42_5 [0,4,10,11]) (
  .cond (.t 11) (
   .skip) (
   .seq (
   .g r42_6 [0,4,10,11]) (
   .cond (.t 11) (
    .skip) (
    .g r42_7 [0,4,10,11]))))) (
  .cond (.t 11) (
   .seq (
   .g r42_8 [2,3]) (
   .ret)) (
   .seq (
   .g r42_9 [0,10,16]) (
   .cond (.t 16) (
    .seq (
    .g r42_10 [2,3]) (
    .ret)) (
    .seq (
    .g r42_11 [0,10,18]) (
    .cond (.t 18) (
     .seq (
     .g r42_12 [2,3]) (
     .ret)) (
     .seq (
     .g r42_13 [0,20]) (
     .cond (.t 20) (
      .seq (
      .g r42_14 [0,36]) (
      .cond (.t 36) (
       .seq (
       .region true r42_15 [2,3]) (
       .ret)) (
       .skip))) (
      .skip)))))))))))) (
 .seq (
 .g r42_16 [2,3]) (
 .ret))))) }
theorem c42:cfunc Tryd.prog (kof k42) Tryd.f42=some f42:=by kernel_rfl
abbrev r43_0:List AOper:=[
 oo 2 (.mv (.c (.nils))) []]
abbrev r43_1:List AOper:=[
 zi 3 0 []]
abbrev r43_2:List AOper:=[
 zi 4 1 []]
abbrev r43_3:List AOper:=[
 oo 5 (.mv (.c (.int .u8 0))) []]
abbrev r43_4:List AOper:=[
 zi 6 0 []]
abbrev r43_5:List AOper:=[
 zm 13 6 [],
 zm 14 0 [],
 zL 15 0 14 [1],
 oo 16 (.bin .lss (.t 13) (.t 15)) [0,2]]
abbrev r43_7:List AOper:=[
 zm 19 0 [],
 zm 20 6 [],
 oo 21 (.idxS (.t 19) (.t 20)) [0,1],
 zm 7 21 [2,0,1,2]]
abbrev r43_8:List AOper:=[
 zm 22 5 [],
 zm 23 7 [],
 oo 24 (.bin .or (.t 22) (.t 23)) [0,1],
 zm 5 24 [2,0,1,2]]
abbrev r43_9:List AOper:=[
 zm 25 7 [],
 oo 26 (.iaddrA 256 1 (gl 1) (.t 25)) [0],
 zl 27 26 [1],
 oo 28 (.conv (.toInt .i64) (.t 27)) [2],
 zm 8 28 [3,0,1,2,3]]
abbrev r43_10:List AOper:=[
 zm 29 3 [],
 zm 30 4 [],
 zm 31 8 [],
 oo 32 (.un .xor (.t 31)) [2],
 oo 33 (.bin .and (.t 30) (.t 32)) [1,3],
 oo 34 (.bin .add (.t 29) (.t 33)) [0,4],
 zm 3 34 [5,0,1,2,3,4,5]]
abbrev r43_11:List AOper:=[
 zm 35 8 [],
 zm 4 35 [0,0]]
abbrev r43_6:List AOper:=[
 zm 17 6 [],
 za 18 17 1 [0],
 zm 6 18 [1,0,1]]
def l43_0:ACode:=
 .seq (
 .seq (
 .g r43_5 [0,3,4,5,6,16]) (
 .cond (.t 16) (
  .skip) (
  .exit 0))) (
 .seq (
 .block 1 (
  .seq (
  .g r43_7 [0,3,4,5,6,7]) (
  .seq (
  .g r43_8 [0,3,4,5,6,7]) (
  .seq (
  .g r43_9 [0,3,4,5,6,8]) (
  .seq (
  .g r43_10 [0,3,5,6,8]) (
  .g r43_11 [0,3,4,5,6])))))) (
 .g r43_6 [0,3,4,5,6]))
abbrev r43_12:List AOper:=[
 zm 36 5 [],
 oo 37 (.bin .geq (.t 36) (.c (.int .u8 128))) [0]]
abbrev r43_13:List AOper:=[
 zm 38 0 [],
 oo 39 (.callF 50 [(.t 38),(.c (.fn (.func 51) [] []))]) [0],
 zm 2 39 [1,1,0,1]]
abbrev r43_14:List AOper:=[
 zm 40 3 [],
 oo 41 (.mkslice 9 [.str ⟨#[]⟩] 16 (.t 40) (.t 40)) [0,0],
 zm 9 41 [1,0,1]]
abbrev r43_15:List AOper:=[
 zi 10 0 []]
abbrev r43_16:List AOper:=[
 zi 11 0 []]
abbrev r43_17:List AOper:=[
 zi 12 0 []]
abbrev r43_18:List AOper:=[
 zm 42 12 [],
 zm 43 0 [],
 zL 44 0 43 [1],
 oo 45 (.bin .lss (.t 42) (.t 44)) [0,2],
 zm 46 45 [3],
 ym 47 0 46 true [4],
 ym 48 12 46 true [4],
 og 49 (.idxS (.t 47) (.t 48)) 46 true [5,6,4],
 og 50 (.iaddrA 256 1 (gl 1) (.t 49)) 46 true [7,4],
 yl 51 50 46 true [8,4],
 og 52 (.bin .neq (.t 51) (.c (.int .u8 0))) 46 true [9,4],
 zp 53 46 52 [4,10]]
abbrev r43_19:List AOper:=[
 zm 54 12 [],
 za 55 54 1 [0],
 zm 12 55 [1,0,1]]
def l43_1:ACode:=
 .seq (
 .seq (
 .g r43_18 [0,9,10,12,53]) (
 .cond (.t 53) (
  .skip) (
  .exit 2))) (
 .block 3 (
  .g r43_19 [0,9,10,12]))
abbrev r43_20:List AOper:=[
 zm 56 12 [],
 zm 11 56 [0,0]]
abbrev r43_21:List AOper:=[
 zm 57 12 [],
 zm 58 0 [],
 zL 59 0 58 [1],
 oo 60 (.bin .lss (.t 57) (.t 59)) [0,2]]
abbrev r43_22:List AOper:=[
 zm 61 0 [],
 zm 62 12 [],
 oo 63 (.idxS (.t 61) (.t 62)) [0,1],
 oo 64 (.iaddrA 256 1 (gl 1) (.t 63)) [2],
 zl 65 64 [3],
 oo 66 (.bin .eql (.t 65) (.c (.int .u8 0))) [4]]
abbrev r43_23:List AOper:=[
 zm 67 12 [],
 za 68 67 1 [0],
 zm 12 68 [1,0,1]]
abbrev r43_24:List AOper:=[
 zm 69 9 [],
 zm 70 10 [],
 zm 71 0 [],
 zm 72 11 [],
 zm 73 12 [],
 oo 74 (.slcS (.t 71) (some (.t 72)) (some (.t 73))) [2,3,4],
 zd 75 1 69 70 [0,1,0,1,2,3,4,5],
 zs 1 75 74 [6,5,0,1,2,3,4,5]]
abbrev r43_25:List AOper:=[
 zm 76 10 [],
 za 77 76 1 [0],
 zm 10 77 [1,0,1]]
abbrev r43_26:List AOper:=[
 zm 78 12 [],
 za 79 78 1 [0],
 zm 12 79 [1,0,1]]
abbrev r43_27:List AOper:=[
 zm 80 12 [],
 zm 81 0 [],
 zL 82 0 81 [1],
 oo 83 (.bin .lss (.t 80) (.t 82)) [0,2],
 zm 84 83 [3],
 ym 85 0 84 true [4],
 ym 86 12 84 true [4],
 og 87 (.idxS (.t 85) (.t 86)) 84 true [5,6,4],
 og 88 (.iaddrA 256 1 (gl 1) (.t 87)) 84 true [7,4],
 yl 89 88 84 true [8,4],
 og 90 (.bin .neq (.t 89) (.c (.int .u8 0))) 84 true [9,4],
 zp 91 84 90 [4,10]]
abbrev r43_28:List AOper:=[
 zm 92 12 [],
 za 93 92 1 [0],
 zm 12 93 [1,0,1]]
def l43_2:ACode:=
 .seq (
 .seq (
 .g r43_27 [0,9,10,12,91]) (
 .cond (.t 91) (
  .skip) (
  .exit 6))) (
 .block 7 (
  .g r43_28 [0,9,10,12]))
abbrev r43_29:List AOper:=[
 zm 94 12 [],
 zm 11 94 [0,0]]
def l43_3:ACode:=
 .seq (
 .seq (
 .g r43_21 [0,9,10,11,12,60]) (
 .cond (.t 60) (
  .skip) (
  .exit 4))) (
 .block 5 (
  .seq (
  .seq (
  .g r43_22 [0,9,10,11,12,66]) (
  .cond (.t 66) (
   .seq (
   .g r43_23 [0,9,10,11,12]) (
   .exit 5)) (
   .skip))) (
  .seq (
  .g r43_24 [0,9,10,12]) (
  .seq (
  .g r43_25 [0,9,10,12]) (
  .seq (
  .g r43_26 [0,9,10,12]) (
  .seq (
  .block 6 (
   .loop l43_2)) (
  .g r43_29 [0,9,10,11,12])))))))
abbrev r43_30:List AOper:=[
 zm 95 11 [],
 zm 96 0 [],
 zL 97 0 96 [1],
 oo 98 (.bin .lss (.t 95) (.t 97)) [0,2]]
abbrev r43_31:List AOper:=[
 zm 99 9 [],
 zm 100 10 [],
 zm 101 0 [],
 zm 102 11 [],
 oo 103 (.slcS (.t 101) (some (.t 102)) none) [2,3],
 zd 104 1 99 100 [0,1,0,1,2,3,4],
 zs 1 104 103 [5,4,0,1,2,3,4]]
abbrev r43_32:List AOper:=[
 zm 105 9 [],
 zm 2 105 [0,0]]
def k43:List (List Nat):=[[0],[0,3],[0,3,4],[0,3,4,5],[0,3,4,5,6],[0,3,4,5,6,16],[0,3,4,5,6],[0,3,4,5,6,7],[0,3,4,5,6,7],[0,3,4,5,6,8],[0,3,5,6,8],[0,3,4,5,6],[0,3,37],[2],[0,9],[0,9,10],[0,9,10],[0,9,10,12],[0,9,10,12,53],[0,9,10,12],[0,9,10,11,12],[0,9,10,11,12,60],[0,9,10,11,12,66],[0,9,10,11,12],[0,9,10,12],[0,9,10,12],[0,9,10,12],[0,9,10,12,91],[0,9,10,12],[0,9,10,11,12],[0,9,10,11,98],[9],[2]]
def f43:AFunc:={ ntmps:=106,results:=[.tmp 2],body:=(
 .seq (
 .g r43_0 [0]) (
 .seq (
 .g r43_1 [0,3]) (
 .seq (
 .g r43_2 [0,3,4]) (
 .seq (
 .g r43_3 [0,3,4,5]) (
 .seq (
 .seq (
 .g r43_4 [0,3,4,5,6]) (
 .block 0 (
  .loop l43_0))) (
 .seq (
 .seq (
 .g r43_12 [0,3,37]) (
 .cond (.t 37) (
  .seq (
  .g r43_13 [2]) (
  .ret)) (
  .skip))) (
 .seq (
 .g r43_14 [0,9]) (
 .seq (
 .g r43_15 [0,9,10]) (
 .seq (
 .g r43_16 [0,9,10]) (
 .seq (
 .g r43_17 [0,9,10,12]) (
 .seq (
 .block 2 (
  .loop l43_1)) (
 .seq (
 .g r43_20 [0,9,10,11,12]) (
 .seq (
 .block 4 (
  .loop l43_3)) (
 .seq (
 .seq (
 .g r43_30 [0,9,10,11,98]) (
 .cond (.t 98) (
  .g r43_31 [9]) (
  .skip))) (
 .seq (
 .g r43_32 [2]) (
 .ret)))))))))))))))) }
theorem c43:cfunc Tryd.prog (kof k43) Tryd.f43=some f43:=by kernel_rfl
abbrev r44_0:List AOper:=[
 oo 4 (.mv (.c (.bool false))) []]
abbrev r44_1:List AOper:=[
 zm 5 0 [],
 zm 6 1 [],
 zq 7 52 5 6 [0,1],
 zm 4 7 [2,2,0,1,2]]
def k44:List (List Nat):=[[0,1],[4]]
def f44:AFunc:={ ntmps:=8,results:=[.tmp 4],body:=(
 .seq (
 .g r44_0 [0,1]) (
 .seq (
 .g r44_1 [4]) (
 .ret))) }
theorem c44:cfunc Tryd.prog (kof k44) Tryd.f44=some f44:=by kernel_rfl
abbrev r47_0:List AOper:=[
 zi 4 0 []]
abbrev r47_1:List AOper:=[
 zm 5 0 [],
 zm 6 1 [],
 zq 7 56 5 6 [0,1],
 zm 4 7 [2,2,0,1,2]]
def k47:List (List Nat):=[[0,1],[4]]
def f47:AFunc:={ ntmps:=8,results:=[.tmp 4],body:=(
 .seq (
 .g r47_0 [0,1]) (
 .seq (
 .g r47_1 [4]) (
 .ret))) }
theorem c47:cfunc Tryd.prog (kof k47) Tryd.f47=some f47:=by kernel_rfl
abbrev r48_0:List AOper:=[
 oo 2 (.alloc 78 (.agg [.int .i64 0,.int .i64 0,.flt .f64 0,.str ⟨#[]⟩,.nils])) [],
 zi 3 0 []]
abbrev r48_1:List AOper:=[
 zm 4 0 [],
 zk 5 57 4 [0],
 zm 6 5 [1,1],
 ym 7 0 6 false [2],
 og 8 (.callF 58 [(.t 7),(.c (.int .i64 0))]) 6 false [3,2,2],
 zo 9 6 8 [2,4]]
abbrev r48_2:List AOper:=[
 oo 10 (.build [.int .i64 0,.int .i64 0,.flt .f64 0,.str ⟨#[]⟩,.nils] []) [],
 zs 5 2 10 [0,0],
 zi 3 11 [1,0,1]]
abbrev r48_3:List AOper:=[
 zm 11 0 [],
 oo 12 (.build [.int .i64 0,.int .i64 0,.flt .f64 0,.str ⟨#[]⟩,.nils] [(0,1,(.c (.int .i64 2))),(2,1,(.t 11))]) [0],
 zs 5 2 12 [1,0,1],
 zi 3 0 [2,0,1,2]]
def k48:List (List Nat):=[[0,2],[0,2,9],[2,3],[2,3]]
def f48:AFunc:={ ntmps:=13,results:=[.cell 2 (some 5),.tmp 3],body:=(
 .seq (
 .g r48_0 [0,2]) (
 .seq (
 .seq (
 .g r48_1 [0,2,9]) (
 .cond (.t 9) (
  .seq (
  .g r48_2 [2,3]) (
  .ret)) (
  .skip))) (
 .seq (
 .g r48_3 [2,3]) (
 .ret)))) }
theorem c48:cfunc Tryd.prog (kof k48) Tryd.f48=some f48:=by kernel_rfl
abbrev r50_0:List AOper:=[
 oo 4 (.mv (.c (.nils))) []]
abbrev r50_1:List AOper:=[
 oo 12 (.mkslice 96 [.int .i64 0,.int .i64 0] 16 (.c (.int .i64 0)) (.c (.int .i64 32))) [],
 zm 5 12 [0,0]]
abbrev r50_2:List AOper:=[
 oo 6 (.mv (.c (.int .i64 (-1)))) []]
abbrev r50_3:List AOper:=[
 zm 13 0 [],
 oo 14 (.rngS (.t 13)) [0]]
abbrev r50_4:List AOper:=[
 oo 15 (.nxtS (.t 14)) [],
 zx 16 15 0 [0]]
abbrev r50_5:List AOper:=[
 zx 17 15 1 [],
 zx 18 15 2 [],
 zm 7 17 [0,0],
 zm 8 18 [1,2,0,1,2]]
abbrev r50_6:List AOper:=[
 zm 19 1 [],
 zm 20 8 [],
 oo 21 (.callV (.t 19) [(.t 20)]) [0,1]]
abbrev r50_7:List AOper:=[
 zm 22 6 [],
 oo 23 (.bin .geq (.t 22) (.c (.int .i64 0))) [0]]
abbrev r50_8:List AOper:=[
 zm 24 5 [],
 zm 25 6 [],
 zm 26 7 [],
 oo 27 (.build [.int .i64 0,.int .i64 0] [(0,1,(.t 25)),(1,1,(.t 26))]) [1,2],
 oo 28 (.bslice 96 1 [.int .i64 0,.int .i64 0] [(0,2,(.t 27))]) [3],
 oo 29 (.app 96 2 16 (.t 24) (.t 28)) [0,4],
 zm 5 29 [5,5,0,1,2,3,4,5]]
abbrev r50_9:List AOper:=[
 zm 30 6 [],
 oo 31 (.un .xor (.t 30)) [0],
 zm 6 31 [1,0,1]]
abbrev r50_10:List AOper:=[
 zm 32 6 [],
 oo 33 (.bin .lss (.t 32) (.c (.int .i64 0))) [0]]
abbrev r50_11:List AOper:=[
 zm 34 7 [],
 zm 6 34 [0,0]]
def l50_0:ACode:=
 .seq (
 .g r50_4 [0,1,5,6,14,15,16]) (
 .seq (
 .cond (.t 16) (
  .skip) (
  .exit 0)) (
 .block 1 (
  .seq (
  .g r50_5 [0,1,5,6,7,8,14]) (
  .seq (
  .g r50_6 [0,1,5,6,7,14,21]) (
  .cond (.t 21) (
   .seq (
   .g r50_7 [0,1,5,6,7,14,23]) (
   .cond (.t 23) (
    .seq (
    .g r50_8 [0,1,5,6,14]) (
    .g r50_9 [0,1,5,6,14])) (
    .skip))) (
   .seq (
   .g r50_10 [0,1,5,6,7,14,33]) (
   .cond (.t 33) (
    .g r50_11 [0,1,5,6,14]) (
    .skip))))))))
abbrev r50_12:List AOper:=[
 zm 35 6 [],
 oo 36 (.bin .geq (.t 35) (.c (.int .i64 0))) [0]]
abbrev r50_13:List AOper:=[
 zm 37 5 [],
 zm 38 6 [],
 zm 39 0 [],
 zL 40 0 39 [2],
 oo 41 (.build [.int .i64 0,.int .i64 0] [(0,1,(.t 38)),(1,1,(.t 40))]) [1,3],
 oo 42 (.bslice 96 1 [.int .i64 0,.int .i64 0] [(0,2,(.t 41))]) [4],
 oo 43 (.app 96 2 16 (.t 37) (.t 42)) [0,5],
 zm 5 43 [6,6,0,1,2,3,4,5,6]]
abbrev r50_14:List AOper:=[
 zm 44 5 [],
 zL 45 1 44 [0],
 oo 46 (.mkslice 9 [.str ⟨#[]⟩] 16 (.t 45) (.t 45)) [1,1],
 zm 9 46 [2,0,1,2]]
abbrev r50_15:List AOper:=[
 zm 47 5 [],
 zL 48 1 47 [0],
 zi 49 0 []]
abbrev r50_16:List AOper:=[
 oo 50 (.bin .lss (.t 49) (.t 48)) []]
abbrev r50_17:List AOper:=[
 zm 51 49 [],
 zd 52 2 47 49 [],
 zr 53 2 52 [1],
 oo 11 (.alloc 96 (.agg [.int .i64 0,.int .i64 0])) [],
 zm 10 51 [0,0,1,2,3],
 zs 2 11 53 [3,2,4,0,1,2,3,4]]
abbrev r50_18:List AOper:=[
 zm 54 9 [],
 zm 55 10 [],
 zm 56 0 [],
 zf 57 0 11 [],
 zl 58 57 [3],
 zf 59 1 11 [],
 zl 60 59 [5],
 oo 61 (.slcS (.t 56) (some (.t 58)) (some (.t 60))) [2,4,6],
 zd 62 1 54 55 [0,1,0,1,2,3,4,5,6,7],
 zs 1 62 61 [8,7,0,1,2,3,4,5,6,7]]
abbrev r50_19:List AOper:=[
 za 63 49 1 [],
 zm 49 63 [0]]
def l50_1:ACode:=
 .seq (
 .g r50_16 [0,9,47,48,49,50]) (
 .seq (
 .cond (.t 50) (
  .skip) (
  .exit 2)) (
 .seq (
 .block 3 (
  .seq (
  .g r50_17 [0,9,10,11,47,48,49]) (
  .g r50_18 [0,9,47,48,49]))) (
 .g r50_19 [0,9,47,48,49])))
abbrev r50_20:List AOper:=[
 zm 64 9 [],
 zm 4 64 [0,0]]
def k50:List (List Nat):=[[0,1],[0,1,5],[0,1,5,6],[0,1,5,6,14],[0,1,5,6,14,15,16],[0,1,5,6,7,8,14],[0,1,5,6,7,14,21],[0,1,5,6,7,14,23],[0,1,5,6,14],[0,1,5,6,14],[0,1,5,6,7,14,33],[0,1,5,6,14],[0,5,6,36],[0,5],[0,5,9],[0,9,47,48,49],[0,9,47,48,49,50],[0,9,10,11,47,48,49],[0,9,47,48,49],[0,9,47,48,49],[4]]
def f50:AFunc:={ ntmps:=65,results:=[.tmp 4],body:=(
 .seq (
 .g r50_0 [0,1]) (
 .seq (
 .g r50_1 [0,1,5]) (
 .seq (
 .g r50_2 [0,1,5,6]) (
 .seq (
 .seq (
 .g r50_3 [0,1,5,6,14]) (
 .block 0 (
  .loop l50_0))) (
 .seq (
 .seq (
 .g r50_12 [0,5,6,36]) (
 .cond (.t 36) (
  .g r50_13 [0,5]) (
  .skip))) (
 .seq (
 .g r50_14 [0,5,9]) (
 .seq (
 .seq (
 .g r50_15 [0,9,47,48,49]) (
 .block 2 (
  .loop l50_1))) (
 .seq (
 .g r50_20 [4]) (
 .ret))))))))) }
theorem c50:cfunc Tryd.prog (kof k50) Tryd.f50=some f50:=by kernel_rfl
abbrev r51_0:List AOper:=[
 oo 2 (.mv (.c (.bool false))) []]
abbrev r51_1:List AOper:=[
 zm 3 0 [],
 oo 4 (.conv (.toInt .u32) (.t 3)) [0],
 oo 5 (.bin .leq (.t 4) (.c (.int .u32 255))) [1]]
abbrev r51_2:List AOper:=[
 zm 6 0 []]
abbrev r51_3:List AOper:=[
 oo 8 (.bin .eql (.t 6) (.c (.int .i32 9))) [],
 zm 7 8 [0]]
abbrev r51_4:List AOper:=[
 oo 9 (.bin .eql (.t 6) (.c (.int .i32 10))) [],
 zm 7 9 [0]]
abbrev r51_5:List AOper:=[
 oo 10 (.bin .eql (.t 6) (.c (.int .i32 11))) [],
 zm 7 10 [0]]
abbrev r51_6:List AOper:=[
 oo 11 (.bin .eql (.t 6) (.c (.int .i32 12))) [],
 zm 7 11 [0]]
abbrev r51_7:List AOper:=[
 oo 12 (.bin .eql (.t 6) (.c (.int .i32 13))) [],
 zm 7 12 [0]]
abbrev r51_8:List AOper:=[
 oo 13 (.bin .eql (.t 6) (.c (.int .i32 32))) [],
 zm 7 13 [0]]
abbrev r51_9:List AOper:=[
 oo 14 (.bin .eql (.t 6) (.c (.int .i32 133))) [],
 zm 7 14 [0]]
abbrev r51_10:List AOper:=[
 oo 15 (.bin .eql (.t 6) (.c (.int .i32 160))) [],
 zm 7 15 [0]]
abbrev r51_11:List AOper:=[
 oo 2 (.mv (.c (.bool true))) []]
abbrev r51_12:List AOper:=[
 oo 2 (.mv (.c (.bool false))) []]
abbrev r51_13:List AOper:=[
 oo 16 (.load none (gl 2)) [],
 zm 17 0 [],
 zq 18 59 16 17 [0,1],
 zm 2 18 [2,2,0,1,2]]
def k51:List (List Nat):=[[0],[0,5],[6],[6,7],[6,7],[6,7],[6,7],[6,7],[6,7],[6,7],[7],[2],[2],[2]]
def f51:AFunc:={ ntmps:=19,results:=[.tmp 2],body:=(
 .seq (
 .g r51_0 [0]) (
 .seq (
 .seq (
 .g r51_1 [0,5]) (
 .cond (.t 5) (
  .seq (
  .seq (
  .g r51_2 [6]) (
  .block 0 (
   .seq (
   .seq (
   .g r51_3 [6,7]) (
   .cond (.t 7) (
    .skip) (
    .seq (
    .g r51_4 [6,7]) (
    .cond (.t 7) (
     .skip) (
     .seq (
     .g r51_5 [6,7]) (
     .cond (.t 7) (
      .skip) (
      .seq (
      .g r51_6 [6,7]) (
      .cond (.t 7) (
       .skip) (
       .seq (
       .g r51_7 [6,7]) (
       .cond (.t 7) (
        .skip) (
        .seq (
        .g r51_8 [6,7]) (
        .cond (.t 7) (
         .skip) (
         .seq (
         .g r51_9 [6,7]) (
         .cond (.t 7) (
          .skip) (
          .g r51_10 [7]))))))))))))))) (
   .cond (.t 7) (
    .seq (
    .g r51_11 [2]) (
    .ret)) (
    .skip))))) (
  .seq (
  .g r51_12 [2]) (
  .ret))) (
  .skip))) (
 .seq (
 .g r51_13 [2]) (
 .ret)))) }
theorem c51:cfunc Tryd.prog (kof k51) Tryd.f51=some f51:=by kernel_rfl
abbrev r52_0:List AOper:=[
 oo 4 (.mv (.c (.bool false))) []]
abbrev r52_1:List AOper:=[
 zm 5 0 [],
 zL 6 0 5 [0],
 zm 7 1 [],
 zL 8 0 7 [2],
 oo 9 (.bin .geq (.t 6) (.t 8)) [1,3],
 zm 10 9 [4],
 ym 11 0 10 true [5],
 ym 12 1 10 true [5],
 og 13 (.len 0 (.t 12)) 10 true [7,5],
 og 14 (.slcS (.t 11) none (some (.t 13))) 10 true [6,8,5],
 ym 15 1 10 true [5],
 og 16 (.bin .eql (.t 14) (.t 15)) 10 true [9,10,5],
 zp 17 10 16 [5,11],
 zm 4 17 [12,5,0,1,2,3,4,5,6,7,8,9,10,11,12]]
def k52:List (List Nat):=[[0,1],[4]]
def f52:AFunc:={ ntmps:=18,results:=[.tmp 4],body:=(
 .seq (
 .g r52_0 [0,1]) (
 .seq (
 .g r52_1 [4]) (
 .ret))) }
theorem c52:cfunc Tryd.prog (kof k52) Tryd.f52=some f52:=by kernel_rfl
abbrev r56_0:List AOper:=[
 zi 4 0 []]
abbrev r56_1:List AOper:=[
 zm 5 0 [],
 zm 6 1 [],
 oo 7 (.ext 2 [(.t 5),(.t 6)]) [0,1],
 zm 4 7 [2,2,0,1,2]]
def k56:List (List Nat):=[[0,1],[4]]
def f56:AFunc:={ ntmps:=8,results:=[.tmp 4],body:=(
 .seq (
 .g r56_0 [0,1]) (
 .seq (
 .g r56_1 [4]) (
 .ret))) }
theorem c56:cfunc Tryd.prog (kof k56) Tryd.f56=some f56:=by kernel_rfl
abbrev r57_0:List AOper:=[
 oo 2 (.mv (.c (.bool false))) []]
abbrev r57_1:List AOper:=[
 zm 3 0 [],
 zm 4 0 [],
 oo 5 (.bin .neq (.t 3) (.t 4)) [0,1],
 zm 2 5 [2,0,1,2]]
def k57:List (List Nat):=[[0],[2]]
def f57:AFunc:={ ntmps:=6,results:=[.tmp 2],body:=(
 .seq (
 .g r57_0 [0]) (
 .seq (
 .g r57_1 [2]) (
 .ret))) }
theorem c57:cfunc Tryd.prog (kof k57) Tryd.f57=some f57:=by kernel_rfl
abbrev r58_0:List AOper:=[
 oo 4 (.mv (.c (.bool false))) []]
abbrev r58_1:List AOper:=[
 zm 5 1 [],
 ze 6 5 0 [0]]
abbrev r58_2:List AOper:=[
 zm 7 0 [],
 zk 8 64 7 [0],
 zm 0 8 [1,1,0,1]]
abbrev r58_3:List AOper:=[
 zm 9 1 [],
 oo 10 (.bin .lss (.t 9) (.c (.int .i64 0))) [0]]
abbrev r58_4:List AOper:=[
 zm 11 0 [],
 oo 12 (.un .neg (.t 11)) [0],
 zm 0 12 [1,0,1]]
abbrev r58_5:List AOper:=[
 zm 13 0 [],
 oo 14 (.bin .gtr (.t 13) (.c (.flt .f64 9218868437227405311))) [0],
 zm 4 14 [1,0,1]]
def k58:List (List Nat):=[[0,1],[0,1,6],[0],[0,10],[0],[4]]
def f58:AFunc:={ ntmps:=15,results:=[.tmp 4],body:=(
 .seq (
 .g r58_0 [0,1]) (
 .seq (
 .seq (
 .g r58_1 [0,1,6]) (
 .cond (.t 6) (
  .g r58_2 [0]) (
  .seq (
  .g r58_3 [0,10]) (
  .cond (.t 10) (
   .g r58_4 [0]) (
   .skip))))) (
 .seq (
 .g r58_5 [4]) (
 .ret)))) }
theorem c58:cfunc Tryd.prog (kof k58) Tryd.f58=some f58:=by kernel_rfl
abbrev r59_0:List AOper:=[
 oo 4 (.mv (.c (.bool false))) []]
abbrev r59_1:List AOper:=[
 zm 8 0 [],
 zn 9 8 [0],
 zf 10 0 9 [1],
 zl 11 10 [2],
 zm 5 11 [3,0,1,2,3]]
abbrev r59_2:List AOper:=[
 zm 12 0 [],
 zn 13 12 [0],
 zf 14 2 13 [1],
 zl 15 14 [2],
 zm 6 15 [3,0,1,2,3]]
abbrev r59_3:List AOper:=[
 zm 16 5 [],
 zL 17 1 16 [0],
 zm 18 6 [],
 oo 19 (.bin .gtr (.t 17) (.t 18)) [1,2],
 zm 20 19 [3],
 ym 21 1 20 true [4],
 og 22 (.conv (.toInt .u32) (.t 21)) 20 true [5,4],
 ym 23 5 20 true [4],
 ym 24 5 20 true [4],
 og 25 (.len 1 (.t 24)) 20 true [8,4],
 og 26 (.bin .sub (.t 25) (.c (.int .i64 1))) 20 true [9,4],
 og 27 (.iaddr 3 (.t 23) (.t 26)) 20 true [7,10,4],
 yf 28 1 27 20 true [11,4],
 yl 29 28 20 true [12,4],
 og 30 (.conv (.toInt .u32) (.t 29)) 20 true [13,4],
 og 31 (.bin .leq (.t 22) (.t 30)) 20 true [6,14,4],
 zp 32 20 31 [4,15]]
abbrev r59_4:List AOper:=[
 zm 33 5 [],
 zm 34 6 [],
 oo 35 (.slc 109 3 (.t 33) (some (.t 34)) none none) [0,1],
 zm 36 1 [],
 oo 37 (.conv (.toInt .u16) (.t 36)) [3],
 zq 38 65 35 37 [2,4],
 zm 4 38 [5,5,0,1,2,3,4,5]]
abbrev r59_5:List AOper:=[
 zm 39 0 [],
 zn 40 39 [0],
 zf 41 1 40 [1],
 zl 42 41 [2],
 zm 7 42 [3,0,1,2,3]]
abbrev r59_6:List AOper:=[
 zm 43 7 [],
 zL 44 1 43 [0],
 oo 45 (.bin .gtr (.t 44) (.c (.int .i64 0))) [1],
 zm 46 45 [2],
 ym 47 1 46 true [3],
 ym 48 7 46 true [3],
 og 49 (.iaddr 3 (.t 48) (.c (.int .i64 0))) 46 true [5,3],
 yf 50 0 49 46 true [6,3],
 yl 51 50 46 true [7,3],
 og 52 (.conv (.toInt .i32) (.t 51)) 46 true [8,3],
 og 53 (.bin .geq (.t 47) (.t 52)) 46 true [4,9,3],
 zp 54 46 53 [3,10]]
abbrev r59_7:List AOper:=[
 zm 55 7 [],
 zm 56 1 [],
 oo 57 (.conv (.toInt .u32) (.t 56)) [1],
 zq 58 66 55 57 [0,2],
 zm 4 58 [3,3,0,1,2,3]]
abbrev r59_8:List AOper:=[
 oo 4 (.mv (.c (.bool false))) []]
def k59:List (List Nat):=[[0,1],[0,1,5],[0,1,5,6],[0,1,5,6,32],[4],[1,7],[1,7,54],[4],[4]]
def f59:AFunc:={ ntmps:=59,results:=[.tmp 4],body:=(
 .seq (
 .g r59_0 [0,1]) (
 .seq (
 .g r59_1 [0,1,5]) (
 .seq (
 .seq (
 .g r59_2 [0,1,5,6]) (
 .seq (
 .g r59_3 [0,1,5,6,32]) (
 .cond (.t 32) (
  .seq (
  .g r59_4 [4]) (
  .ret)) (
  .skip)))) (
 .seq (
 .g r59_5 [1,7]) (
 .seq (
 .seq (
 .g r59_6 [1,7,54]) (
 .cond (.t 54) (
  .seq (
  .g r59_7 [4]) (
  .ret)) (
  .skip))) (
 .seq (
 .g r59_8 [4]) (
 .ret))))))) }
theorem c59:cfunc Tryd.prog (kof k59) Tryd.f59=some f59:=by kernel_rfl
abbrev r64_0:List AOper:=[
 oo 2 (.mv (.c (.flt .f64 0))) []]
abbrev r64_1:List AOper:=[
 zm 3 0 [],
 oo 4 (.ext 0 [(.t 3)]) [0],
 oo 5 (.bin .andNot (.t 4) (.c (.int .u64 9223372036854775808))) [1],
 oo 6 (.ext 1 [(.t 5)]) [2,1],
 zm 2 6 [3,3,0,1,2,3]]
def k64:List (List Nat):=[[0],[2]]
def f64:AFunc:={ ntmps:=7,results:=[.tmp 2],body:=(
 .seq (
 .g r64_0 [0]) (
 .seq (
 .g r64_1 [2]) (
 .ret))) }
theorem c64:cfunc Tryd.prog (kof k64) Tryd.f64=some f64:=by kernel_rfl
abbrev r65_0:List AOper:=[
 oo 4 (.mv (.c (.bool false))) []]
abbrev r65_1:List AOper:=[
 zm 11 0 [],
 zL 12 1 11 [0],
 oo 13 (.bin .leq (.t 12) (.c (.int .i64 18))) [1],
 zm 14 13 [2],
 ym 15 1 14 false [3],
 og 16 (.bin .leq (.t 15) (.c (.int .u16 255))) 14 false [4,3],
 zo 17 14 16 [3,5]]
abbrev r65_2:List AOper:=[
 zm 18 0 [],
 zL 19 1 18 [0],
 zi 20 0 []]
abbrev r65_3:List AOper:=[
 oo 21 (.bin .lss (.t 20) (.t 19)) []]
abbrev r65_4:List AOper:=[
 zm 22 20 [],
 zm 5 22 [0,0]]
abbrev r65_5:List AOper:=[
 zm 23 0 [],
 zm 24 5 [],
 zd 25 3 23 24 [0,1],
 zm 6 25 [2,0,1,2]]
abbrev r65_6:List AOper:=[
 zm 26 1 [],
 zm 27 6 [],
 zn 28 27 [1],
 zf 29 0 28 [2],
 zl 30 29 [3],
 oo 31 (.bin .lss (.t 26) (.t 30)) [0,4]]
abbrev r65_7:List AOper:=[
 oo 4 (.mv (.c (.bool false))) []]
abbrev r65_8:List AOper:=[
 zm 32 1 [],
 zm 33 6 [],
 zn 34 33 [1],
 zf 35 1 34 [2],
 zl 36 35 [3],
 oo 37 (.bin .leq (.t 32) (.t 36)) [0,4]]
abbrev r65_9:List AOper:=[
 zm 38 6 [],
 zn 39 38 [0],
 zf 40 2 39 [1],
 zl 41 40 [2],
 oo 42 (.bin .eql (.t 41) (.c (.int .u16 1))) [3],
 zm 43 42 [4],
 ym 44 1 43 false [5],
 ym 45 6 43 false [5],
 yn 46 45 43 false [7,5],
 yf 47 0 46 43 false [8,5],
 yl 48 47 43 false [9,5],
 og 49 (.bin .sub (.t 44) (.t 48)) 43 false [6,10,5],
 ym 50 6 43 false [5],
 yn 51 50 43 false [12,5],
 yf 52 2 51 43 false [13,5],
 yl 53 52 43 false [14,5],
 og 54 (.bin .rem (.t 49) (.t 53)) 43 false [11,15,5],
 og 55 (.bin .eql (.t 54) (.c (.int .u16 0))) 43 false [16,5],
 zo 56 43 55 [5,17],
 zm 4 56 [18,5,0,1,2,3,4,5,6,7,8,9,10,11,12,13,14,15,16,17,18]]
abbrev r65_10:List AOper:=[
 za 57 20 1 [],
 zm 20 57 [0]]
def l65_0:ACode:=
 .seq (
 .g r65_3 [0,1,19,20,21]) (
 .seq (
 .cond (.t 21) (
  .skip) (
  .exit 0)) (
 .seq (
 .block 1 (
  .seq (
  .g r65_4 [0,1,5,19,20]) (
  .seq (
  .g r65_5 [0,1,6,19,20]) (
  .seq (
  .seq (
  .g r65_6 [0,1,6,19,20,31]) (
  .cond (.t 31) (
   .seq (
   .g r65_7 [4]) (
   .ret)) (
   .skip))) (
  .seq (
  .g r65_8 [0,1,6,19,20,37]) (
  .cond (.t 37) (
   .seq (
   .region true r65_9 [4]) (
   .ret)) (
   .skip))))))) (
 .g r65_10 [0,1,19,20])))
abbrev r65_11:List AOper:=[
 oo 4 (.mv (.c (.bool false))) []]
abbrev r65_12:List AOper:=[
 zi 7 0 []]
abbrev r65_13:List AOper:=[
 zm 58 0 [],
 zL 59 1 58 [0],
 zm 8 59 [1,0,1]]
abbrev r65_14:List AOper:=[
 zm 60 7 [],
 zm 61 8 [],
 oo 62 (.bin .lss (.t 60) (.t 61)) [0,1]]
abbrev r65_15:List AOper:=[
 zm 63 7 [],
 zm 64 8 [],
 oo 65 (.bin .add (.t 63) (.t 64)) [0,1],
 oo 66 (.conv (.toInt .u64) (.t 65)) [2],
 oo 67 (.bin .shr (.t 66) (.c (.int .u64 1))) [3],
 oo 68 (.conv (.toInt .i64) (.t 67)) [4],
 zm 9 68 [5,0,1,2,3,4,5]]
abbrev r65_16:List AOper:=[
 zm 69 0 [],
 zm 70 9 [],
 zd 71 3 69 70 [0,1],
 zm 10 71 [2,0,1,2]]
abbrev r65_17:List AOper:=[
 zm 72 10 [],
 zn 73 72 [0],
 zf 74 0 73 [1],
 zl 75 74 [2],
 zm 76 1 [],
 oo 77 (.bin .leq (.t 75) (.t 76)) [3,4],
 zm 78 77 [5],
 ym 79 1 78 true [6],
 ym 80 10 78 true [6],
 yn 81 80 78 true [8,6],
 yf 82 1 81 78 true [9,6],
 yl 83 82 78 true [10,6],
 og 84 (.bin .leq (.t 79) (.t 83)) 78 true [7,11,6],
 zp 85 78 84 [6,12]]
abbrev r65_18:List AOper:=[
 zm 86 10 [],
 zn 87 86 [0],
 zf 88 2 87 [1],
 zl 89 88 [2],
 oo 90 (.bin .eql (.t 89) (.c (.int .u16 1))) [3],
 zm 91 90 [4],
 ym 92 1 91 false [5],
 ym 93 10 91 false [5],
 yn 94 93 91 false [7,5],
 yf 95 0 94 91 false [8,5],
 yl 96 95 91 false [9,5],
 og 97 (.bin .sub (.t 92) (.t 96)) 91 false [6,10,5],
 ym 98 10 91 false [5],
 yn 99 98 91 false [12,5],
 yf 100 2 99 91 false [13,5],
 yl 101 100 91 false [14,5],
 og 102 (.bin .rem (.t 97) (.t 101)) 91 false [11,15,5],
 og 103 (.bin .eql (.t 102) (.c (.int .u16 0))) 91 false [16,5],
 zo 104 91 103 [5,17],
 zm 4 104 [18,5,0,1,2,3,4,5,6,7,8,9,10,11,12,13,14,15,16,17,18]]
abbrev r65_19:List AOper:=[
 zm 105 1 [],
 zm 106 10 [],
 zn 107 106 [1],
 zf 108 0 107 [2],
 zl 109 108 [3],
 oo 110 (.bin .lss (.t 105) (.t 109)) [0,4]]
abbrev r65_20:List AOper:=[
 zm 111 9 [],
 zm 8 111 [0,0]]
abbrev r65_21:List AOper:=[
 zm 112 9 [],
 za 113 112 1 [0],
 zm 7 113 [1,0,1]]
def l65_1:ACode:=
 .seq (
 .seq (
 .g r65_14 [0,1,7,8,62]) (
 .cond (.t 62) (
  .skip) (
  .exit 2))) (
 .block 3 (
  .seq (
  .g r65_15 [0,1,7,8,9]) (
  .seq (
  .g r65_16 [0,1,7,8,9,10]) (
  .seq (
  .seq (
  .g r65_17 [0,1,7,8,9,10,85]) (
  .cond (.t 85) (
   .seq (
   .region true r65_18 [4]) (
   .ret)) (
   .skip))) (
  .seq (
  .g r65_19 [0,1,7,8,9,110]) (
  .cond (.t 110) (
   .g r65_20 [0,1,7,8]) (
   .g r65_21 [0,1,7,8])))))))
abbrev r65_22:List AOper:=[
 oo 4 (.mv (.c (.bool false))) []]
def k65:List (List Nat):=[[0,1],[0,1,17],[0,1,19,20],[0,1,19,20,21],[0,1,5,19,20],[0,1,6,19,20],[0,1,6,19,20,31],[4],[0,1,6,19,20,37],[4],[0,1,19,20],[4],[0,1,7],[0,1,7,8],[0,1,7,8,62],[0,1,7,8,9],[0,1,7,8,9,10],[0,1,7,8,9,10,85],[4],[0,1,7,8,9,110],[0,1,7,8],[0,1,7,8],[4]]
def f65:AFunc:={ ntmps:=114,results:=[.tmp 4],body:=(
 .seq (
 .g r65_0 [0,1]) (
 .seq (
 .seq (
 .g r65_1 [0,1,17]) (
 .cond (.t 17) (
  .seq (
  .seq (
  .g r65_2 [0,1,19,20]) (
  .block 0 (
   .loop l65_0))) (
  .seq (
  .g r65_11 [4]) (
  .ret))) (
  .skip))) (
 .seq (
 .g r65_12 [0,1,7]) (
 .seq (
 .g r65_13 [0,1,7,8]) (
 .seq (
 .block 2 (
  .loop l65_1)) (
 .seq (
 .g r65_22 [4]) (
 .ret))))))) }
theorem c65:cfunc Tryd.prog (kof k65) Tryd.f65=some f65:=by kernel_rfl
abbrev r66_0:List AOper:=[
 oo 4 (.mv (.c (.bool false))) []]
abbrev r66_1:List AOper:=[
 zm 11 0 [],
 zL 12 1 11 [0],
 oo 13 (.bin .leq (.t 12) (.c (.int .i64 18))) [1]]
abbrev r66_2:List AOper:=[
 zm 14 0 [],
 zL 15 1 14 [0],
 zi 16 0 []]
abbrev r66_3:List AOper:=[
 oo 17 (.bin .lss (.t 16) (.t 15)) []]
abbrev r66_4:List AOper:=[
 zm 18 16 [],
 zm 5 18 [0,0]]
abbrev r66_5:List AOper:=[
 zm 19 0 [],
 zm 20 5 [],
 zd 21 3 19 20 [0,1],
 zm 6 21 [2,0,1,2]]
abbrev r66_6:List AOper:=[
 zm 22 1 [],
 zm 23 6 [],
 zn 24 23 [1],
 zf 25 0 24 [2],
 zl 26 25 [3],
 oo 27 (.bin .lss (.t 22) (.t 26)) [0,4]]
abbrev r66_7:List AOper:=[
 oo 4 (.mv (.c (.bool false))) []]
abbrev r66_8:List AOper:=[
 zm 28 1 [],
 zm 29 6 [],
 zn 30 29 [1],
 zf 31 1 30 [2],
 zl 32 31 [3],
 oo 33 (.bin .leq (.t 28) (.t 32)) [0,4]]
abbrev r66_9:List AOper:=[
 zm 34 6 [],
 zn 35 34 [0],
 zf 36 2 35 [1],
 zl 37 36 [2],
 oo 38 (.bin .eql (.t 37) (.c (.int .u32 1))) [3],
 zm 39 38 [4],
 ym 40 1 39 false [5],
 ym 41 6 39 false [5],
 yn 42 41 39 false [7,5],
 yf 43 0 42 39 false [8,5],
 yl 44 43 39 false [9,5],
 og 45 (.bin .sub (.t 40) (.t 44)) 39 false [6,10,5],
 ym 46 6 39 false [5],
 yn 47 46 39 false [12,5],
 yf 48 2 47 39 false [13,5],
 yl 49 48 39 false [14,5],
 og 50 (.bin .rem (.t 45) (.t 49)) 39 false [11,15,5],
 og 51 (.bin .eql (.t 50) (.c (.int .u32 0))) 39 false [16,5],
 zo 52 39 51 [5,17],
 zm 4 52 [18,5,0,1,2,3,4,5,6,7,8,9,10,11,12,13,14,15,16,17,18]]
abbrev r66_10:List AOper:=[
 za 53 16 1 [],
 zm 16 53 [0]]
def l66_0:ACode:=
 .seq (
 .g r66_3 [0,1,15,16,17]) (
 .seq (
 .cond (.t 17) (
  .skip) (
  .exit 0)) (
 .seq (
 .block 1 (
  .seq (
  .g r66_4 [0,1,5,15,16]) (
  .seq (
  .g r66_5 [0,1,6,15,16]) (
  .seq (
  .seq (
  .g r66_6 [0,1,6,15,16,27]) (
  .cond (.t 27) (
   .seq (
   .g r66_7 [4]) (
   .ret)) (
   .skip))) (
  .seq (
  .g r66_8 [0,1,6,15,16,33]) (
  .cond (.t 33) (
   .seq (
   .region true r66_9 [4]) (
   .ret)) (
   .skip))))))) (
 .g r66_10 [0,1,15,16])))
abbrev r66_11:List AOper:=[
 oo 4 (.mv (.c (.bool false))) []]
abbrev r66_12:List AOper:=[
 zi 7 0 []]
abbrev r66_13:List AOper:=[
 zm 54 0 [],
 zL 55 1 54 [0],
 zm 8 55 [1,0,1]]
abbrev r66_14:List AOper:=[
 zm 56 7 [],
 zm 57 8 [],
 oo 58 (.bin .lss (.t 56) (.t 57)) [0,1]]
abbrev r66_15:List AOper:=[
 zm 59 7 [],
 zm 60 8 [],
 oo 61 (.bin .add (.t 59) (.t 60)) [0,1],
 oo 62 (.conv (.toInt .u64) (.t 61)) [2],
 oo 63 (.bin .shr (.t 62) (.c (.int .u64 1))) [3],
 oo 64 (.conv (.toInt .i64) (.t 63)) [4],
 zm 9 64 [5,0,1,2,3,4,5]]
abbrev r66_16:List AOper:=[
 zm 65 0 [],
 zm 66 9 [],
 zd 67 3 65 66 [0,1],
 zr 68 3 67 [2],
 oo 10 (.alloc 112 (.agg [.int .u32 0,.int .u32 0,.int .u32 0])) [],
 zs 3 10 68 [4,3,0,1,2,3,4]]
abbrev r66_17:List AOper:=[
 zf 69 0 10 [],
 zl 70 69 [0],
 zm 71 1 [],
 oo 72 (.bin .leq (.t 70) (.t 71)) [1,2],
 zm 73 72 [3],
 ym 74 1 73 true [4],
 yf 75 1 10 73 true [4],
 yl 76 75 73 true [6,4],
 og 77 (.bin .leq (.t 74) (.t 76)) 73 true [5,7,4],
 zp 78 73 77 [4,8]]
abbrev r66_18:List AOper:=[
 zf 79 2 10 [],
 zl 80 79 [0],
 oo 81 (.bin .eql (.t 80) (.c (.int .u32 1))) [1],
 zm 82 81 [2],
 ym 83 1 82 false [3],
 yf 84 0 10 82 false [3],
 yl 85 84 82 false [5,3],
 og 86 (.bin .sub (.t 83) (.t 85)) 82 false [4,6,3],
 yf 87 2 10 82 false [3],
 yl 88 87 82 false [8,3],
 og 89 (.bin .rem (.t 86) (.t 88)) 82 false [7,9,3],
 og 90 (.bin .eql (.t 89) (.c (.int .u32 0))) 82 false [10,3],
 zo 91 82 90 [3,11],
 zm 4 91 [12,3,0,1,2,3,4,5,6,7,8,9,10,11,12]]
abbrev r66_19:List AOper:=[
 zm 92 1 [],
 zf 93 0 10 [],
 zl 94 93 [1],
 oo 95 (.bin .lss (.t 92) (.t 94)) [0,2]]
abbrev r66_20:List AOper:=[
 zm 96 9 [],
 zm 8 96 [0,0]]
abbrev r66_21:List AOper:=[
 zm 97 9 [],
 za 98 97 1 [0],
 zm 7 98 [1,0,1]]
def l66_1:ACode:=
 .seq (
 .seq (
 .g r66_14 [0,1,7,8,58]) (
 .cond (.t 58) (
  .skip) (
  .exit 2))) (
 .block 3 (
  .seq (
  .g r66_15 [0,1,7,8,9]) (
  .seq (
  .g r66_16 [0,1,7,8,9,10]) (
  .seq (
  .seq (
  .g r66_17 [0,1,7,8,9,10,78]) (
  .cond (.t 78) (
   .seq (
   .g r66_18 [4]) (
   .ret)) (
   .skip))) (
  .seq (
  .g r66_19 [0,1,7,8,9,95]) (
  .cond (.t 95) (
   .g r66_20 [0,1,7,8]) (
   .g r66_21 [0,1,7,8])))))))
abbrev r66_22:List AOper:=[
 oo 4 (.mv (.c (.bool false))) []]
def k66:List (List Nat):=[[0,1],[0,1,13],[0,1,15,16],[0,1,15,16,17],[0,1,5,15,16],[0,1,6,15,16],[0,1,6,15,16,27],[4],[0,1,6,15,16,33],[4],[0,1,15,16],[4],[0,1,7],[0,1,7,8],[0,1,7,8,58],[0,1,7,8,9],[0,1,7,8,9,10],[0,1,7,8,9,10,78],[4],[0,1,7,8,9,95],[0,1,7,8],[0,1,7,8],[4]]
def f66:AFunc:={ ntmps:=99,results:=[.tmp 4],body:=(
 .seq (
 .g r66_0 [0,1]) (
 .seq (
 .seq (
 .g r66_1 [0,1,13]) (
 .cond (.t 13) (
  .seq (
  .seq (
  .g r66_2 [0,1,15,16]) (
  .block 0 (
   .loop l66_0))) (
  .seq (
  .g r66_11 [4]) (
  .ret))) (
  .skip))) (
 .seq (
 .g r66_12 [0,1,7]) (
 .seq (
 .g r66_13 [0,1,7,8]) (
 .seq (
 .block 2 (
  .loop l66_1)) (
 .seq (
 .g r66_22 [4]) (
 .ret))))))) }
theorem c66:cfunc Tryd.prog (kof k66) Tryd.f66=some f66:=by kernel_rfl
end Go.Am.Rl
