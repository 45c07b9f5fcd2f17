/- Parts: Fn6, GW1, GW2, GB5, GW3, ZC. -/
import Derived.Test.YtcphfgcfmphlfaaDoorFB
import Derived.Test.YtcphfgcfmphlfaaDoorProg
import Derived.Test.YtcphfgcfmphlfaaDoorGA
import Derived.Test.YtcphfgcfmphlfaaDoorAmP
set_option linter.unusedVariables false
set_option maxRecDepth 20000
set_option linter.unusedSimpArgs false
namespace Go.Am.Rl
open Go.Proofs
abbrev r6_0:List AOper:=[
 oo 2 (.mv (.c (.bool false))) []]
abbrev r6_1:List AOper:=[
 oo 18 (.callF 8 []) [],
 oo 19 (.un .not (.t 18)) [0]]
abbrev r6_2:List AOper:=[
 oo 2 (.mv (.c (.bool false))) []]
abbrev r6_3:List AOper:=[
 zm 20 0 [],
 zL 21 1 20 [0],
 oo 22 (.bin .gtr (.t 21) (.c (.int .i64 30))) [1]]
abbrev r6_4:List AOper:=[
 oo 2 (.mv (.c (.bool true))) []]
abbrev r6_5:List AOper:=[
 oo 23 (.callF 14 []) [],
 zm 3 23 [0,0,0]]
abbrev r6_6:List AOper:=[
 oo 4 (.mv (.c (.nils))) []]
abbrev r6_7:List AOper:=[
 oo 24 (.bslice 9 1 [.str ⟨#[]⟩] [(0,1,(.c (.str ⟨#[48]⟩)))]) [],
 zm 5 24 [0,0]]
abbrev r6_8:List AOper:=[
 oo 6 (.mv (.c (.str ⟨#[48]⟩))) []]
abbrev r6_9:List AOper:=[
 oo 7 (.mv (.c (.bool false))) []]
abbrev r6_10:List AOper:=[
 zi 8 0 []]
abbrev r6_11:List AOper:=[
 zm 25 8 [],
 zm 26 0 [],
 zL 27 1 26 [1],
 oo 28 (.bin .lss (.t 25) (.t 27)) [0,2]]
abbrev r6_13:List AOper:=[
 zm 31 0 [],
 zm 32 8 [],
 zd 33 1 31 32 [0,1],
 zl 34 33 [2],
 zm 35 3 [],
 zL 36 1 35 [4],
 oo 37 (.bin .rem (.t 34) (.t 36)) [3,5],
 zm 9 37 [6,0,1,2,3,4,5,6]]
abbrev r6_14:List AOper:=[
 zm 38 9 [],
 oo 39 (.bin .lss (.t 38) (.c (.int .i64 0))) [0]]
abbrev r6_15:List AOper:=[
 zm 40 9 [],
 oo 41 (.bin .sub (.c (.int .i64 0)) (.t 40)) [0],
 zm 9 41 [1,0,1]]
abbrev r6_16:List AOper:=[
 zm 42 3 [],
 zm 43 9 [],
 zd 44 1 42 43 [0,1],
 zl 45 44 [2],
 zm 10 45 [3,0,1,2,3]]
abbrev r6_17:List AOper:=[
 zm 47 10 [],
 zk 48 15 47 [0],
 zm 46 48 [1],
 zx 49 46 0 [2],
 zx 50 46 1 [2],
 zm 11 49 [3,1,0,1,2,3],
 zm 12 50 [4,5,0,1,2,3,4,5]]
abbrev r6_18:List AOper:=[
 zm 51 11 [],
 ze 52 51 3 [0]]
abbrev r6_19:List AOper:=[
 zm 53 7 []]
abbrev r6_20:List AOper:=[
 oo 7 (.mv (.c (.bool true))) []]
abbrev r6_21:List AOper:=[
 zm 54 11 [],
 oo 55 (.bin .lss (.t 54) (.c (.int .i64 3))) [0]]
abbrev r6_22:List AOper:=[
 oo 7 (.mv (.c (.bool false))) []]
abbrev r6_23:List AOper:=[
 zm 56 4 [],
 zm 57 10 [],
 oo 58 (.bslice 9 1 [.str ⟨#[]⟩] [(0,1,(.t 57))]) [1],
 oo 59 (.app 9 1 16 (.t 56) (.t 58)) [0,2],
 zm 4 59 [3,3,0,1,2,3]]
abbrev r6_24:List AOper:=[
 zm 60 8 [],
 za 61 60 1 [0],
 oo 62 (.bin .rem (.t 61) (.c (.int .i64 10))) [1],
 oo 63 (.bin .add (.c (.int .i64 48)) (.t 62)) [2],
 oo 64 (.conv (.toInt .u8) (.t 63)) [3],
 oo 65 (.bslice 5 1 [.int .u8 0] [(0,1,(.t 64))]) [4],
 oo 66 (.conv .bytesStr (.t 65)) [5],
 zm 13 66 [6,0,1,2,3,4,5,6]]
abbrev r6_25:List AOper:=[
 zm 67 5 [],
 zm 68 13 [],
 oo 69 (.bslice 9 1 [.str ⟨#[]⟩] [(0,1,(.t 68))]) [1],
 oo 70 (.app 9 1 16 (.t 67) (.t 69)) [0,2],
 zm 5 70 [3,3,0,1,2,3]]
abbrev r6_26:List AOper:=[
 zm 71 6 [],
 oo 72 (.bin .add (.t 71) (.c (.str ⟨#[32]⟩))) [0],
 zm 73 10 [],
 oo 74 (.bin .add (.t 72) (.t 73)) [1,2],
 oo 75 (.bin .add (.t 74) (.c (.str ⟨#[32]⟩))) [3],
 zm 76 13 [],
 oo 77 (.bin .add (.t 75) (.t 76)) [4,5],
 zm 6 77 [6,0,1,2,3,4,5,6]]
abbrev r6_12:List AOper:=[
 zm 29 8 [],
 za 30 29 1 [0],
 zm 8 30 [1,0,1]]
def l6_0:ACode:=
 .seq (
 .seq (
 .g r6_11 [0,3,4,5,6,7,8,28]) (
 .cond (.t 28) (
  .skip) (
  .exit 0))) (
 .seq (
 .block 1 (
  .seq (
  .g r6_13 [0,3,4,5,6,7,8,9]) (
  .seq (
  .seq (
  .g r6_14 [0,3,4,5,6,7,8,9,39]) (
  .cond (.t 39) (
   .g r6_15 [0,3,4,5,6,7,8,9]) (
   .skip))) (
  .seq (
  .g r6_16 [0,3,4,5,6,7,8,10]) (
  .seq (
  .g r6_17 [0,3,4,5,6,7,8,10,11]) (
  .seq (
  .seq (
  .g r6_18 [0,3,4,5,6,7,8,10,11,52]) (
  .cond (.t 52) (
   .seq (
   .seq (
   .g r6_19 [0,3,4,5,6,7,8,10,11,53]) (
   .cond (.t 53) (
    .exit 1) (
    .skip))) (
   .g r6_20 [0,3,4,5,6,7,8,10,11])) (
   .skip))) (
  .seq (
  .seq (
  .g r6_21 [0,3,4,5,6,7,8,10,55]) (
  .cond (.t 55) (
   .g r6_22 [0,3,4,5,6,7,8,10]) (
   .skip))) (
  .seq (
  .g r6_23 [0,3,4,5,6,7,8,10]) (
  .seq (
  .g r6_24 [0,3,4,5,6,7,8,10,13]) (
  .seq (
  .g r6_25 [0,3,4,5,6,7,8,10,13]) (
  .g r6_26 [0,3,4,5,6,7,8]))))))))))) (
 .g r6_12 [0,3,4,5,6,7,8]))
abbrev r6_27:List AOper:=[
 zm 79 6 [],
 oo 80 (.bin .add (.c (.str ⟨#[45,109,111,100,117,108,101,40,109,41,46,32,102,40,41,32,45,62,32]⟩)) (.t 79)) [0],
 oo 81 (.bin .add (.t 80) (.c (.str ⟨#[46]⟩))) [1],
 zk 82 10 81 [2],
 zm 78 82 [3],
 zx 83 78 0 [4],
 zx 84 78 1 [4],
 oo 14 (.alloc 34 (.agg [.nils,.int .i64 0])) [],
 oo 15 (.alloc 26 (.agg [.int .i64 0,.int .i64 0])) [],
 zs 2 14 83 [7,5,3,0,1,2,3,4,5,7,8],
 zs 2 15 84 [8,6,9,0,1,2,3,4,5,6,7,8,9]]
abbrev r6_28:List AOper:=[
 zm 86 5 [],
 zm 87 4 [],
 zq 88 16 86 87 [0,1],
 oo 89 (.bin .add (.c (.str ⟨#[45,109,111,100,117,108,101,40,109,41,46,32,102,40,41,32,45,62,32]⟩)) (.t 88)) [2],
 oo 90 (.bin .add (.t 89) (.c (.str ⟨#[46]⟩))) [3],
 zk 91 10 90 [4,2],
 zm 85 91 [5],
 zx 92 85 0 [6],
 zx 93 85 1 [6],
 oo 16 (.alloc 34 (.agg [.nils,.int .i64 0])) [],
 oo 17 (.alloc 26 (.agg [.int .i64 0,.int .i64 0])) [],
 zs 2 16 92 [9,7,5,0,1,2,3,4,5,6,7,9,10],
 zs 2 17 93 [10,8,11,0,1,2,3,4,5,6,7,8,9,10,11]]
abbrev r6_29:List AOper:=[
 zr 94 2 15 [],
 oo 95 (.build [.int .i64 0,.int .i64 0] []) [],
 oo 96 (.eqAgg [1,1] false (.t 94) (.t 95)) [0,1],
 zm 97 96 [2],
 og 98 (.load (some 2) (.t 17)) 97 true [3],
 og 99 (.build [.int .i64 0,.int .i64 0] []) 97 true [3],
 og 100 (.eqAgg [1,1] false (.t 98) (.t 99)) 97 true [4,5,3],
 zp 101 97 100 [3,6],
 zm 102 101 [7,3],
 og 103 (.load (some 2) (.t 14)) 102 true [8],
 og 104 (.load (some 2) (.t 16)) 102 true [8],
 og 105 (.callF 11 [(.t 103),(.t 104),(.c (.bool false))]) 102 true [9,10,8,8],
 zp 106 102 105 [8,11],
 zm 2 106 [12,11,0,1,2,3,4,5,6,7,8,9,10,11,12]]
def k6:List (List Nat):=[[0],[0,19],[2],[0,22],[2],[0,3],[0,3,4],[0,3,4,5],[0,3,4,5,6],[0,3,4,5,6,7],[0,3,4,5,6,7,8],[0,3,4,5,6,7,8,28],[0,3,4,5,6,7,8],[0,3,4,5,6,7,8,9],[0,3,4,5,6,7,8,9,39],[0,3,4,5,6,7,8,9],[0,3,4,5,6,7,8,10],[0,3,4,5,6,7,8,10,11],[0,3,4,5,6,7,8,10,11,52],[0,3,4,5,6,7,8,10,11,53],[0,3,4,5,6,7,8,10,11],[0,3,4,5,6,7,8,10,55],[0,3,4,5,6,7,8,10],[0,3,4,5,6,7,8,10],[0,3,4,5,6,7,8,10,13],[0,3,4,5,6,7,8,10,13],[0,3,4,5,6,7,8],[4,5,14,15],[14,15,16,17],[2]]
def f6:AFunc:={ ntmps:=107,results:=[.tmp 2],body:=(
 .seq (
 .g r6_0 [0]) (
 .seq (
 .seq (
 .g r6_1 [0,19]) (
 .cond (.t 19) (
  .seq (
  .g r6_2 [2]) (
  .ret)) (
  .skip))) (
 .seq (
 .seq (
 .g r6_3 [0,22]) (
 .cond (.t 22) (
  .seq (
  .g r6_4 [2]) (
  .ret)) (
  .skip))) (
 .seq (
 .g r6_5 [0,3]) (
 .seq (
 .g r6_6 [0,3,4]) (
 .seq (
 .g r6_7 [0,3,4,5]) (
 .seq (
 .g r6_8 [0,3,4,5,6]) (
 .seq (
 .g r6_9 [0,3,4,5,6,7]) (
 .seq (
 .seq (
 .g r6_10 [0,3,4,5,6,7,8]) (
 .block 0 (
  .loop l6_0))) (
 .seq (
 .g r6_27 [4,5,14,15]) (
 .seq (
 .g r6_28 [14,15,16,17]) (
 .seq (
 .g r6_29 [2]) (
 .ret))))))))))))) }
theorem c6:cfunc Tryd.prog (kof k6) Tryd.f6=some f6:=by kernel_rfl
abbrev r14_0:List AOper:=[
 oo 0 (.mv (.c (.nils))) []]
abbrev r14_1:List AOper:=[
 oo 1 (.bslice 9 12 [.str ⟨#[]⟩,.str ⟨#[]⟩,.str ⟨#[]⟩,.str ⟨#[]⟩,.str ⟨#[]⟩,.str ⟨#[]⟩,.str ⟨#[]⟩,.str ⟨#[]⟩,.str ⟨#[]⟩,.str ⟨#[]⟩,.str ⟨#[]⟩,.str ⟨#[]⟩] [(0,1,(.c (.str ⟨#[111,114,101,108,115,101]⟩))),(1,1,(.c (.str ⟨#[97,110,100,97,108,115,111]⟩))),(2,1,(.c (.str ⟨#[61,61]⟩))),(3,1,(.c (.str ⟨#[60]⟩))),(4,1,(.c (.str ⟨#[61,58,61]⟩))),(5,1,(.c (.str ⟨#[43,43]⟩))),(6,1,(.c (.str ⟨#[43]⟩))),(7,1,(.c (.str ⟨#[45]⟩))),(8,1,(.c (.str ⟨#[42]⟩))),(9,1,(.c (.str ⟨#[47]⟩))),(10,1,(.c (.str ⟨#[100,105,118]⟩))),(11,1,(.c (.str ⟨#[114,101,109]⟩)))]) [],
 zm 0 1 [0,0]]
def k14:List (List Nat):=[[],[0]]
def f14:AFunc:={ ntmps:=2,results:=[.tmp 0],body:=(
 .seq (
 .g r14_0 []) (
 .seq (
 .g r14_1 [0]) (
 .ret))) }
theorem c14:cfunc Tryd.prog (kof k14) Tryd.f14=some f14:=by kernel_rfl
abbrev r15_0:List AOper:=[
 zi 2 0 [],
 oo 3 (.mv (.c (.bool false))) [0]]
abbrev r15_1:List AOper:=[
 zm 4 0 []]
abbrev r15_2:List AOper:=[
 oo 6 (.bin .eql (.t 4) (.c (.str ⟨#[111,114,101,108,115,101]⟩))) [],
 zm 5 6 [0]]
abbrev r15_3:List AOper:=[
 zi 2 1 [],
 oo 3 (.mv (.c (.bool true))) [0,0]]
abbrev r15_4:List AOper:=[
 oo 8 (.bin .eql (.t 4) (.c (.str ⟨#[97,110,100,97,108,115,111]⟩))) [],
 zm 7 8 [0]]
abbrev r15_5:List AOper:=[
 zi 2 2 [],
 oo 3 (.mv (.c (.bool true))) [0,0]]
abbrev r15_6:List AOper:=[
 oo 10 (.bin .eql (.t 4) (.c (.str ⟨#[61,61]⟩))) [],
 zm 9 10 [0]]
abbrev r15_7:List AOper:=[
 oo 11 (.bin .eql (.t 4) (.c (.str ⟨#[60]⟩))) [],
 zm 9 11 [0]]
abbrev r15_8:List AOper:=[
 oo 12 (.bin .eql (.t 4) (.c (.str ⟨#[61,58,61]⟩))) [],
 zm 9 12 [0]]
abbrev r15_9:List AOper:=[
 zi 2 3 [],
 oo 3 (.mv (.c (.bool false))) [0,0]]
abbrev r15_10:List AOper:=[
 oo 14 (.bin .eql (.t 4) (.c (.str ⟨#[43,43]⟩))) [],
 zm 13 14 [0]]
abbrev r15_11:List AOper:=[
 zi 2 4 [],
 oo 3 (.mv (.c (.bool true))) [0,0]]
abbrev r15_12:List AOper:=[
 oo 16 (.bin .eql (.t 4) (.c (.str ⟨#[43]⟩))) [],
 zm 15 16 [0]]
abbrev r15_13:List AOper:=[
 oo 17 (.bin .eql (.t 4) (.c (.str ⟨#[45]⟩))) [],
 zm 15 17 [0]]
abbrev r15_14:List AOper:=[
 zi 2 5 [],
 oo 3 (.mv (.c (.bool false))) [0,0]]
abbrev r15_15:List AOper:=[
 zi 2 6 [],
 oo 3 (.mv (.c (.bool false))) [0,0]]
def k15:List (List Nat):=[[0],[4],[4,5],[2,3],[4,7],[2,3],[4,9],[4,9],[4,9],[2,3],[4,13],[2,3],[4,15],[15],[2,3],[2,3]]
def f15:AFunc:={ ntmps:=18,results:=[.tmp 2,.tmp 3],body:=(
 .seq (
 .g r15_0 [0]) (
 .seq (
 .seq (
 .g r15_1 [4]) (
 .block 0 (
  .seq (
  .g r15_2 [4,5]) (
  .cond (.t 5) (
   .seq (
   .g r15_3 [2,3]) (
   .ret)) (
   .seq (
   .g r15_4 [4,7]) (
   .cond (.t 7) (
    .seq (
    .g r15_5 [2,3]) (
    .ret)) (
    .seq (
    .seq (
    .g r15_6 [4,9]) (
    .cond (.t 9) (
     .skip) (
     .seq (
     .g r15_7 [4,9]) (
     .cond (.t 9) (
      .skip) (
      .g r15_8 [4,9]))))) (
    .cond (.t 9) (
     .seq (
     .g r15_9 [2,3]) (
     .ret)) (
     .seq (
     .g r15_10 [4,13]) (
     .cond (.t 13) (
      .seq (
      .g r15_11 [2,3]) (
      .ret)) (
      .seq (
      .seq (
      .g r15_12 [4,15]) (
      .cond (.t 15) (
       .skip) (
       .g r15_13 [15]))) (
      .cond (.t 15) (
       .seq (
       .g r15_14 [2,3]) (
       .ret)) (
       .skip))))))))))))) (
 .seq (
 .g r15_15 [2,3]) (
 .ret)))) }
theorem c15:cfunc Tryd.prog (kof k15) Tryd.f15=some f15:=by kernel_rfl
abbrev r16_0:List AOper:=[
 oo 4 (.mv (.c (.str ⟨#[]⟩))) []]
abbrev r16_1:List AOper:=[
 zm 6 1 [],
 zL 7 1 6 [0],
 ze 8 7 0 [1]]
abbrev r16_2:List AOper:=[
 zm 9 0 [],
 oo 10 (.iaddr 1 (.t 9) (.c (.int .i64 0))) [0],
 zl 11 10 [1],
 zm 4 11 [2,0,1,2]]
abbrev r16_3:List AOper:=[
 zm 12 1 [],
 zk 13 23 12 [0],
 zm 5 13 [1,1,0,1]]
abbrev r16_4:List AOper:=[
 zm 14 0 [],
 zm 15 5 [],
 za 16 15 1 [1],
 oo 17 (.slc 9 1 (.t 14) none (some (.t 16)) none) [0,2],
 zm 18 1 [],
 zm 19 5 [],
 oo 20 (.slc 9 1 (.t 18) none (some (.t 19)) none) [4,5],
 zq 21 16 17 20 [3,6],
 oo 22 (.bin .add (.c (.str ⟨#[40]⟩)) (.t 21)) [7],
 oo 23 (.bin .add (.t 22) (.c (.str ⟨#[32]⟩))) [8],
 zm 24 1 [],
 zm 25 5 [],
 zd 26 1 24 25 [10,11],
 zl 27 26 [12],
 oo 28 (.bin .add (.t 23) (.t 27)) [9,13],
 oo 29 (.bin .add (.t 28) (.c (.str ⟨#[32]⟩))) [14],
 zm 30 0 [],
 zm 31 5 [],
 za 32 31 1 [17],
 oo 33 (.slc 9 1 (.t 30) (some (.t 32)) none none) [16,18],
 zm 34 1 [],
 zm 35 5 [],
 za 36 35 1 [21],
 oo 37 (.slc 9 1 (.t 34) (some (.t 36)) none none) [20,22],
 zq 38 16 33 37 [19,23,7],
 oo 39 (.bin .add (.t 29) (.t 38)) [15,24],
 oo 40 (.bin .add (.t 39) (.c (.str ⟨#[41]⟩))) [25],
 zm 4 40 [26,24,0,1,2,3,4,5,6,7,8,9,10,11,12,13,14,15,16,17,18,19,20,21,22,23,24,25,26]]
def m16_4:List Nat:=[0,0,2,7,0,0,48,127,255,511,0,0,3072,7168,16383,32767,0,0,131072,458752,0,0,2097152,7340032,16711935,33554431,67108863,134217727]
theorem d16_4:okDraw r16_4 m16_4=true:=by kernel_rfl
def k16:List (List Nat):=[[0,1],[0,1,8],[4],[0,1,5],[4]]
def f16:AFunc:={ ntmps:=41,results:=[.tmp 4],body:=(
 .seq (
 .g r16_0 [0,1]) (
 .seq (
 .seq (
 .g r16_1 [0,1,8]) (
 .cond (.t 8) (
  .seq (
  .g r16_2 [4]) (
  .ret)) (
  .skip))) (
 .seq (
 .g r16_3 [0,1,5]) (
 .seq (
 .region true r16_4 [4]) (
 .ret))))) }
theorem c16:cfunc Tryd.prog (kof k16) Tryd.f16=some f16:=by kernel_rfl
abbrev r23_0:List AOper:=[
 zi 2 0 []]
abbrev r23_1:List AOper:=[
 zi 3 0 []]
abbrev r23_2:List AOper:=[
 zi 4 1 []]
abbrev r23_3:List AOper:=[
 zm 9 4 [],
 zm 10 0 [],
 zL 11 1 10 [1],
 oo 12 (.bin .lss (.t 9) (.t 11)) [0,2]]
abbrev r23_5:List AOper:=[
 zm 16 0 [],
 zm 17 3 [],
 zd 18 1 16 17 [0,1],
 zl 19 18 [2],
 zk 20 15 19 [3],
 zm 15 20 [4],
 zx 21 15 0 [5],
 zx 22 15 1 [5],
 zm 5 21 [6,4,0,1,2,3,4,5,6],
 zm 6 22 [7,8,0,1,2,3,4,5,6,7,8]]
abbrev r23_6:List AOper:=[
 zm 24 0 [],
 zm 25 4 [],
 zd 26 1 24 25 [0,1],
 zl 27 26 [2],
 zk 28 15 27 [3],
 zm 23 28 [4],
 zx 29 23 0 [5],
 zx 30 23 1 [5],
 zm 7 29 [6,4,0,1,2,3,4,5,6],
 zm 8 30 [7,8,0,1,2,3,4,5,6,7,8]]
abbrev r23_7:List AOper:=[
 zm 31 7 [],
 zm 32 5 [],
 oo 33 (.bin .lss (.t 31) (.t 32)) [0,1],
 zm 34 33 [2],
 ym 35 7 34 false [3],
 ym 36 5 34 false [3],
 og 37 (.bin .eql (.t 35) (.t 36)) 34 false [4,5,3],
 ym 38 37 34 false [6,3,3],
 ym 39 6 38 true [7],
 og 40 (.un .not (.t 39)) 38 true [8,7],
 og 41 (.pick (.t 38) (.t 40) (.c (.bool false))) 34 false [7,9,3],
 zo 42 34 41 [3,10]]
abbrev r23_8:List AOper:=[
 zm 43 4 [],
 zm 3 43 [0,0]]
abbrev r23_4:List AOper:=[
 zm 13 4 [],
 za 14 13 1 [0],
 zm 4 14 [1,0,1]]
def l23_0:ACode:=
 .seq (
 .seq (
 .g r23_3 [0,3,4,12]) (
 .cond (.t 12) (
  .skip) (
  .exit 0))) (
 .seq (
 .block 1 (
  .seq (
  .g r23_5 [0,3,4,5,6]) (
  .seq (
  .g r23_6 [0,3,4,5,6,7]) (
  .seq (
  .g r23_7 [0,3,4,42]) (
  .cond (.t 42) (
   .g r23_8 [0,3,4]) (
   .skip)))))) (
 .g r23_4 [0,3,4]))
abbrev r23_9:List AOper:=[
 zm 44 3 [],
 zm 2 44 [0,0]]
def k23:List (List Nat):=[[0],[0,3],[0,3,4],[0,3,4,12],[0,3,4],[0,3,4,5,6],[0,3,4,5,6,7],[0,3,4,42],[0,3,4],[2]]
def f23:AFunc:={ ntmps:=45,results:=[.tmp 2],body:=(
 .seq (
 .g r23_0 [0]) (
 .seq (
 .g r23_1 [0,3]) (
 .seq (
 .seq (
 .g r23_2 [0,3,4]) (
 .block 0 (
  .loop l23_0))) (
 .seq (
 .g r23_9 [2]) (
 .ret))))) }
theorem c23:cfunc Tryd.prog (kof k23) Tryd.f23=some f23:=by kernel_rfl
end Go.Am.Rl
namespace Go.Am.Rl
open Go.Proofs
theorem g14 (H:AHeap):DCall Tryd.prog 14 [] H fun a H'=>a = .sl H.next 0 12 (some 12)∧H'=H.push (.cells 9 (ops12.map .str)):=by
 refine DCall.of_body (fn:=Tryd.f14) (by kernel_rfl) c14 (by kernel_rfl) (by simp [f14]) ?_
 unfold f14
 simp only []
 refine DR.go rfl ?_
 simp -dsimp only [SZ,EZ,astep,aun,AVal.cells,seval]
 have hf:afill [.str ⟨#[]⟩,.str ⟨#[]⟩,.str ⟨#[]⟩,.str ⟨#[]⟩,.str ⟨#[]⟩,.str ⟨#[]⟩,.str ⟨#[]⟩,.str ⟨#[]⟩,.str ⟨#[]⟩,.str ⟨#[]⟩,.str ⟨#[]⟩,.str ⟨#[]⟩] [(0,1,.str ⟨#[111,114,101,108,115,101]⟩),(1,1,.str ⟨#[97,110,100,97,108,115,111]⟩),(2,1,.str ⟨#[61,61]⟩),(3,1,.str ⟨#[60]⟩),(4,1,.str ⟨#[61,58,61]⟩),(5,1,.str ⟨#[43,43]⟩),(6,1,.str ⟨#[43]⟩),(7,1,.str ⟨#[45]⟩),(8,1,.str ⟨#[42]⟩),(9,1,.str ⟨#[47]⟩),(10,1,.str ⟨#[100,105,118]⟩),(11,1,.str ⟨#[114,101,109]⟩)]=some (ops12.map .str):=rfl
 refine DR.go rfl ?_
 simp -dsimp only [SZ,EZ,astep,aun,AVal.cells,seval,Env.parts,hf]
 refine DR.nm rfl ?_
 exact DR.ret ⟨_,by simp [aresult,ares,Env.get] <;> rfl,rfl,rfl⟩
theorem eqlS (x y:ByteArray):abin .eql (.str x) (.str y)=some (.bool (seq x y)):=rfl
theorem g15 (H:AHeap) (s:ByteArray):DCall Tryd.prog 15 [.str s] H fun a H'=>a = .tup [.int .i64 (lv s:Nat),.bool (rtA (lv s))]∧H'=H:=by
 refine DCall.of_body (fn:=Tryd.f15) (by kernel_rfl) c15 (by kernel_rfl) (by simp [f15]) ?_
 unfold f15
 simp only []
 refine DR.go rfl ?_
 simp -dsimp only [SZ,EZ,astep,aun,AVal.cells,seval]
 refine DR.go rfl ?_
 simp -dsimp only [SZ,EZ,astep,aun,AVal.cells,seval]
 have l1:lv s=if seq s w_orelse=true then 1 else if seq s w_andalso=true then 2 else if (seq s w_eqeq || seq s w_lt || seq s w_same)=true then 3 else if seq s w_cat=true then 4 else if (seq s w_plus || seq s w_minus)=true then 5 else 6:=rfl
 cases h1:seq s ⟨#[111,114,101,108,115,101]⟩ with
 | true=>
  have e:lv s=1:=by rw [l1,show seq s w_orelse=true from h1]; rfl
  rw [e]
  refine DR.go rfl ?_
  simp -dsimp only [SZ,EZ,astep,aun,AVal.cells,seval,eqlS,h1]
  refine DR.ye rfl rfl ?_
  refine DR.go rfl ?_
  simp -dsimp only [SZ,EZ,astep,aun,AVal.cells,seval]
  refine DR.nm rfl ?_
  exact DR.ret ⟨_,by simp [aresult,ares,Env.get] <;> rfl,rfl,rfl⟩
 | false=>
 refine DR.go rfl ?_
 simp -dsimp only [SZ,EZ,astep,aun,AVal.cells,seval,eqlS,h1]
 refine DR.ne rfl rfl ?_
 cases h2:seq s ⟨#[97,110,100,97,108,115,111]⟩ with
 | true=>
  have e:lv s=2:=by rw [l1,show seq s w_orelse=false from h1,show seq s w_andalso=true from h2]; rfl
  rw [e]
  refine DR.go rfl ?_
  simp -dsimp only [SZ,EZ,astep,aun,AVal.cells,seval,eqlS,h2]
  refine DR.ye rfl rfl ?_
  refine DR.go rfl ?_
  simp -dsimp only [SZ,EZ,astep,aun,AVal.cells,seval]
  refine DR.nm rfl ?_
  exact DR.ret ⟨_,by simp [aresult,ares,Env.get] <;> rfl,rfl,rfl⟩
 | false=>
 refine DR.go rfl ?_
 simp -dsimp only [SZ,EZ,astep,aun,AVal.cells,seval,eqlS,h2]
 refine DR.ne rfl rfl ?_
 have three:(seq s w_eqeq || seq s w_lt || seq s w_same)=true→DR Tryd.prog (kof k15) 18 [.code (.seq (.g r15_9 [2,3]) .ret),.inBlock 0,.code (.seq (.g r15_15 [2,3]) .ret)] [] H fun T H'=>∃ r,aresult H' T [.tmp 2,.tmp 3]=some r∧r = .tup [.int .i64 (lv s:Nat),.bool (rtA (lv s))]∧H'=H:=by
  intro h3
  have e:lv s=3:=by rw [l1,show seq s w_orelse=false from h1,show seq s w_andalso=false from h2,h3]; rfl
  rw [e]
  refine DR.go rfl ?_
  simp -dsimp only [SZ,EZ,astep,aun,AVal.cells,seval]
  refine DR.nm rfl ?_
  exact DR.ret ⟨_,by simp [aresult,ares,Env.get] <;> rfl,rfl,rfl⟩
 cases h3:seq s ⟨#[61,61]⟩ with
 | true=>
  refine DR.go rfl ?_
  simp -dsimp only [SZ,EZ,astep,aun,AVal.cells,seval,eqlS,h3]
  refine DR.ye rfl rfl ?_
  refine DR.ye rfl rfl ?_
  exact DR.only [] (three (by rw [show seq s w_eqeq=true from h3]; rfl))
 | false=>
 refine DR.go rfl ?_
 simp -dsimp only [SZ,EZ,astep,aun,AVal.cells,seval,eqlS,h3]
 refine DR.ne rfl rfl ?_
 cases h4:seq s ⟨#[60]⟩ with
 | true=>
  refine DR.go rfl ?_
  simp -dsimp only [SZ,EZ,astep,aun,AVal.cells,seval,eqlS,h4]
  refine DR.ye rfl rfl ?_
  refine DR.ye rfl rfl ?_
  exact DR.only [] (three (by rw [show seq s w_lt=true from h4]; simp))
 | false=>
 refine DR.go rfl ?_
 simp -dsimp only [SZ,EZ,astep,aun,AVal.cells,seval,eqlS,h4]
 refine DR.ne rfl rfl ?_
 cases h5:seq s ⟨#[61,58,61]⟩ with
 | true=>
  refine DR.go rfl ?_
  simp -dsimp only [SZ,EZ,astep,aun,AVal.cells,seval,eqlS,h5]
  refine DR.ye rfl rfl ?_
  exact DR.only [] (three (by rw [show seq s w_same=true from h5]; simp))
 | false=>
 refine DR.go rfl ?_
 simp -dsimp only [SZ,EZ,astep,aun,AVal.cells,seval,eqlS,h5]
 refine DR.ne rfl rfl ?_
 have e3:(seq s w_eqeq || seq s w_lt || seq s w_same)=false:=by rw [show seq s w_eqeq=false from h3,show seq s w_lt=false from h4,show seq s w_same=false from h5]; rfl
 cases h6:seq s ⟨#[43,43]⟩ with
 | true=>
  have e:lv s=4:=by rw [l1,show seq s w_orelse=false from h1,show seq s w_andalso=false from h2,e3,show seq s w_cat=true from h6]; rfl
  rw [e]
  refine DR.go rfl ?_
  simp -dsimp only [SZ,EZ,astep,aun,AVal.cells,seval,eqlS,h6]
  refine DR.ye rfl rfl ?_
  refine DR.go rfl ?_
  simp -dsimp only [SZ,EZ,astep,aun,AVal.cells,seval]
  refine DR.nm rfl ?_
  exact DR.ret ⟨_,by simp [aresult,ares,Env.get] <;> rfl,rfl,rfl⟩
 | false=>
 refine DR.go rfl ?_
 simp -dsimp only [SZ,EZ,astep,aun,AVal.cells,seval,eqlS,h6]
 refine DR.ne rfl rfl ?_
 have five:(seq s w_plus || seq s w_minus)=true→DR Tryd.prog (kof k15) 18 [.code (.seq (.g r15_14 [2,3]) .ret),.inBlock 0,.code (.seq (.g r15_15 [2,3]) .ret)] [] H fun T H'=>∃ r,aresult H' T [.tmp 2,.tmp 3]=some r∧r = .tup [.int .i64 (lv s:Nat),.bool (rtA (lv s))]∧H'=H:=by
  intro h7
  have e:lv s=5:=by rw [l1,show seq s w_orelse=false from h1,show seq s w_andalso=false from h2,e3,show seq s w_cat=false from h6,h7]; rfl
  rw [e]
  refine DR.go rfl ?_
  simp -dsimp only [SZ,EZ,astep,aun,AVal.cells,seval]
  refine DR.nm rfl ?_
  exact DR.ret ⟨_,by simp [aresult,ares,Env.get] <;> rfl,rfl,rfl⟩
 cases h7:seq s ⟨#[43]⟩ with
 | true=>
  refine DR.go rfl ?_
  simp -dsimp only [SZ,EZ,astep,aun,AVal.cells,seval,eqlS,h7]
  refine DR.ye rfl rfl ?_
  refine DR.ye rfl rfl ?_
  exact DR.only [] (five (by rw [show seq s w_plus=true from h7]; rfl))
 | false=>
 refine DR.go rfl ?_
 simp -dsimp only [SZ,EZ,astep,aun,AVal.cells,seval,eqlS,h7]
 refine DR.ne rfl rfl ?_
 cases h8:seq s ⟨#[45]⟩ with
 | true=>
  refine DR.go rfl ?_
  simp -dsimp only [SZ,EZ,astep,aun,AVal.cells,seval,eqlS,h8]
  refine DR.ye rfl rfl ?_
  exact DR.only [] (five (by rw [show seq s w_minus=true from h8]; simp))
 | false=>
 have e:lv s=6:=by rw [l1,show seq s w_orelse=false from h1,show seq s w_andalso=false from h2,e3,show seq s w_cat=false from h6,show seq s w_plus=false from h7,show seq s w_minus=false from h8]; rfl
 rw [e]
 refine DR.go rfl ?_
 simp -dsimp only [SZ,EZ,astep,aun,AVal.cells,seval,eqlS,h8]
 refine DR.ne rfl rfl ?_
 refine DR.go rfl ?_
 simp -dsimp only [SZ,EZ,astep,aun,AVal.cells,seval]
 refine DR.nm rfl ?_
 exact DR.ret ⟨_,by simp [aresult,ares,Env.get] <;> rfl,rfl,rfl⟩
theorem bnone {T:Env} {d top:Nat}:abound T d top none=some d:=rfl
def RW (H:AHeap) (v:AVal) (l:List ByteArray):Prop:=(l=[]∧(v = .nils∨v = .ros [] 0))∨∃ id off c cs,v = .sl id off l.length c∧H.get id=some (.cells 9 cs)∧(cs.drop off).take l.length=l.map .str∧off+l.length≤cs.length∧∀ k,c=some k→l.length≤k
section
variable {H:AHeap} {v w:AVal} {l ls:List ByteArray} {n:Nat}
theorem RW.len (h:RW H v l) (H':AHeap):alenT H' 1 v=some l.length:=by
 rcases h with ⟨rfl,rfl | rfl⟩ | ⟨id,off,c,cs,rfl,_⟩ <;> rfl
theorem RW.at (h:RW H v l) {i:Nat} {s:ByteArray} (hs:l[i]? = some s):∃ p,(∀ H',aiaddr H' 1 v (.int .i64 (i:Nat))=some p)∧aload H none p=some (.str s):=by
 have hi:=(List.getElem?_eq_some_iff.mp hs).1
 rcases h with ⟨rfl,_⟩ | ⟨id,off,c,cs,rfl,hg,ht,hle,_⟩
 ·cases hs
 ·refine ⟨.ptr id (off+i),fun H'=> ?_,load_cell hg ?_⟩
  ·simp only [aiaddr]; rw [if_pos (by omega)]; simp
  ·have:((cs.drop off).take l.length)[i]? = (l.map AVal.str)[i]? :=by rw [ht]
   rw [List.getElem?_take_of_lt hi,List.getElem?_drop,List.getElem?_map,hs] at this
   exact this
theorem RW.row (h:RW H v l):rowOf H 9 v=true:=by
 rcases h with ⟨_,rfl | rfl⟩ | ⟨id,off,c,cs,rfl,hg,_⟩
 ·rfl
 ·rfl
 ·cases c with
  | none=>simp [rowOf,hg]
  | some k=>rfl
theorem RW.take (h:RW H v l) (hn:n≤l.length):∃ v',(∀ (T:Env) (x:AOpnd),T.val x=some (.int .i64 (n:Nat))→aslc 1 T v none (some x) none=some v')∧RW H v' (l.take n):=by
 rcases h with ⟨rfl,hv⟩ | ⟨id,off,c,cs,rfl,hg,ht,hle,hc⟩
 ·have:n=0:=by simpa using hn
  subst this
  rcases hv with rfl | rfl
  ·exact ⟨.nils,fun T x hx=>by simp only [aslc,abound,hx]; rfl,.inl ⟨rfl,.inl rfl⟩⟩
  ·exact ⟨.ros [] 0,fun T x hx=>by simp only [aslc,abound,hx]; rfl,.inl ⟨rfl,.inr rfl⟩⟩
 ·have hlen:(l.take n).length=n:=by rw [List.length_take]; omega
  have htk:(cs.drop off).take n=(l.take n).map .str:=by
   rw [List.map_take,← ht,List.take_take,Nat.min_eq_left hn]
  cases c with
  | none=>
   by_cases h0:l.length=0
   ·have e0:l=[]:=List.eq_nil_of_length_eq_zero h0
    refine ⟨.ros [] 0,fun T x hx=> ?_,.inl ⟨by rw [e0]; simp,.inr rfl⟩⟩
    have hb:=bound_some (d:=l.length) hx hn
    simp only [aslc,hb,bnone,Option.bind_eq_bind,Option.bind_some]
    rw [if_pos h0.symm]
   ·refine ⟨.sl id off n none,fun T x hx=> ?_,.inr ⟨id,off,none,cs,by rw [hlen],hg,by rw [hlen]; exact htk,by rw [hlen]; omega,fun k hk=>by cases hk⟩⟩
    have hb:=bound_some (d:=l.length) hx hn
    simp only [aslc,hb,bnone,Option.bind_eq_bind,Option.bind_some]
    rw [if_neg (fun e=>h0 e.symm)]; simp
  | some k=>
   have hk:=hc k rfl
   by_cases h0:k=0
   ·have e0:l=[]:=List.eq_nil_of_length_eq_zero (by omega)
    refine ⟨.ros [] 0,fun T x hx=> ?_,.inl ⟨by rw [e0]; simp,.inr rfl⟩⟩
    have hb:=bound_some (d:=l.length) hx (show n≤k by omega)
    simp only [aslc,hb,bnone,Option.bind_eq_bind,Option.bind_some]
    rw [if_pos h0]
   ·refine ⟨.sl id off n (some k),fun T x hx=> ?_,.inr ⟨id,off,some k,cs,by rw [hlen],hg,by rw [hlen]; exact htk,by rw [hlen]; omega,fun k' hk'=>by injection hk' with hk'; rw [hlen]; omega⟩⟩
    have hb:=bound_some (d:=l.length) hx (show n≤k by omega)
    simp only [aslc,hb,bnone,Option.bind_eq_bind,Option.bind_some]
    rw [if_neg h0]; simp
theorem RW.drop (h:RW H v l) (hn:n≤l.length):∃ v',(∀ (T:Env) (x:AOpnd),T.val x=some (.int .i64 (n:Nat))→aslc 1 T v (some x) none none=some v')∧RW H v' (l.drop n):=by
 rcases h with ⟨rfl,hv⟩ | ⟨id,off,c,cs,rfl,hg,ht,hle,hc⟩
 ·have:n=0:=by simpa using hn
  subst this
  rcases hv with rfl | rfl
  ·exact ⟨.nils,fun T x hx=>by simp only [aslc,abound,hx]; rfl,.inl ⟨rfl,.inl rfl⟩⟩
  ·exact ⟨.ros [] 0,fun T x hx=>by simp only [aslc,abound,hx]; rfl,.inl ⟨rfl,.inr rfl⟩⟩
 ·have hlen:(l.drop n).length=l.length - n:=List.length_drop
  have htk:(cs.drop (off+n)).take (l.length - n)=(l.drop n).map .str:=by
   rw [List.map_drop,← ht,List.drop_take,List.drop_drop]
  cases c with
  | none=>
   by_cases h0:n=l.length
   ·refine ⟨.ros [] 0,fun T x hx=> ?_,.inl ⟨List.drop_eq_nil_of_le (by omega),.inr rfl⟩⟩
    have hb:=bound_some (d:=0) hx hn
    simp only [aslc,hb,bnone,Option.bind_eq_bind,Option.bind_some]
    rw [if_pos h0]
   ·refine ⟨.sl id (off+n) (l.length - n) none,fun T x hx=> ?_,.inr ⟨id,off+n,none,cs,by rw [hlen],hg,by rw [hlen]; exact htk,by rw [hlen]; omega,fun k hk=>by cases hk⟩⟩
    have hb:=bound_some (d:=0) hx hn
    simp only [aslc,hb,bnone,Option.bind_eq_bind,Option.bind_some]
    rw [if_neg h0]; simp
  | some k=>
   have hk:=hc k rfl
   by_cases h0:k=n
   ·refine ⟨.ros [] 0,fun T x hx=> ?_,.inl ⟨List.drop_eq_nil_of_le (by omega),.inr rfl⟩⟩
    have hb:=bound_some (d:=0) hx hn
    simp only [aslc,hb,bnone,Option.bind_eq_bind,Option.bind_some]
    rw [if_pos h0]
   ·refine ⟨.sl id (off+n) (l.length - n) (some (k - n)),fun T x hx=> ?_,.inr ⟨id,off+n,some (k - n),cs,by rw [hlen],hg,by rw [hlen]; exact htk,by rw [hlen]; omega,fun k' hk'=>by injection hk' with hk'; rw [hlen]; omega⟩⟩
    have hb:=bound_some (d:=0) hx hn
    simp only [aslc,hb,bnone,Option.bind_eq_bind,Option.bind_some]
    rw [if_neg h0]; simp
theorem lvN_eq {i:Nat} {s:ByteArray} (h:l[i]? = some s):lv s=lvN l i:=(lvN_at h).symm
theorem loop23 {k k':List AItem} {Q:Env→AHeap→Prop} (hk:aexitTo 0 k=some k') (hv:RW H v l) (hl:l.length≤1000)
  (hend:DR Tryd.prog (kof k23) 45 k' [(3,.int .i64 (spl l:Nat))] H Q) :
  ∀ (f a i:Nat),l.length - i≤f→i≤l.length→a < l.length→splitF l f a i=spl l→DR Tryd.prog (kof k23) 45 (.code l23_0::.inLoop l23_0::k) [(0,v),(3,.int .i64 (a:Nat)),(4,.int .i64 (i:Nat))] H Q:=by
 have hlen:=fun H'=>hv.len H'
 have fin:DR Tryd.prog (kof k23) 45 (.code l23_0::.inLoop l23_0::k) [(0,v),(3,.int .i64 (spl l:Nat)),(4,.int .i64 (l.length:Nat))] H Q:=by
  refine DR.go rfl ?_
  simp -dsimp only [SZ,EZ,astep,aun,AVal.cells,seval,hlen,lss64,dge (Nat.le_refl l.length)]
  refine DR.ne rfl rfl ?_
  refine DR.exit (k':=k') (by simpa [aexitTo] using hk) ?_
  exact DR.only [3] hend
 intro f
 induction f with
 | zero=>
  intro a i hf hi ha he
  obtain rfl:i=l.length:=by omega
  have:a=spl l:=he
  subst this
  exact fin
 | succ f ih=>
  intro a i hf hi ha he
  rcases Nat.lt_or_ge i l.length with hlt | hge
  ·unfold splitF at he
   rw [if_pos hlt] at he
   obtain ⟨x,hx⟩:∃ x,l[a]? = some x:=⟨_,List.getElem?_eq_getElem ha⟩
   obtain ⟨y,hy⟩:∃ y,l[i]? = some y:=⟨_,List.getElem?_eq_getElem hlt⟩
   obtain ⟨px,ix,lx⟩:=hv.at hx
   obtain ⟨py,iy,ly⟩:=hv.at hy
   have ix0:∀ a b:AVal,([a,b]:List AVal)[0]? = some a:=fun _ _=>rfl
   have ix1:∀ a b:AVal,([a,b]:List AVal)[1]? = some b:=fun _ _=>rfl
   have hw:IntKind.i64.wrap ((i:Int)+1)=((i+1:Nat):Int):=wrap64 (n:=i+1) (by omega)
   refine DR.go rfl ?_
   simp -dsimp only [SZ,EZ,astep,aun,AVal.cells,seval,hlen,lss64,dlt hlt]
   refine DR.ye rfl rfl ?_
   refine DR.go rfl ?_
   simp -dsimp only [SZ,EZ,astep,aun,AVal.cells,seval,ix,lx]
   refine (g15 H x).mono ?_
   rintro a1 H1 ⟨rfl,rfl⟩
   simp -dsimp only [SZ,EZ,astep,aun,AVal.cells,seval,ix0,ix1]
   rw [lvN_eq hx]
   refine DR.go rfl ?_
   simp -dsimp only [SZ,EZ,astep,aun,AVal.cells,seval,iy,ly]
   refine (g15 H1 y).mono ?_
   rintro a1 H2 ⟨rfl,rfl⟩
   simp -dsimp only [SZ,EZ,astep,aun,AVal.cells,seval,ix0,ix1]
   rw [lvN_eq hy]
   have e1:decide (((lvN l i:Nat):Int) < ((lvN l a:Nat):Int))=decide (lvN l i < lvN l a):=decide_eq_decide.mpr Int.ofNat_lt
   have e2:(((lvN l i:Nat):Int)==((lvN l a:Nat):Int))=(lvN l i==lvN l a):=by
    cases h:(lvN l i==lvN l a) with
    | true=>rw [eq_of_beq h]; simp
    | false=>
     have:lvN l i≠lvN l a:=by simpa using h
     simp; omega
   have hlat:later l a i=(decide (lvN l i < lvN l a) || ((lvN l i==lvN l a)&& !rtA (lvN l a))):=rfl
   have nt:(!true)=false:=rfl
   have nf:(!false)=true:=rfl
   have keep:later l a i=false→DR Tryd.prog (kof k23) 45 (.code (.g r23_4 [0,3,4])::.inLoop l23_0::k) [(0,v),(3,.int .i64 (a:Nat)),(4,.int .i64 (i:Nat))] H2 Q:=by
    intro h
    rw [h,if_neg (by simp)] at he
    refine DR.go rfl ?_
    simp -dsimp only [SZ,EZ,astep,aun,AVal.cells,seval,abin_addI,hw]
    refine DR.nm rfl ?_
    refine DR.inLoop ?_
    exact ih a (i+1) (by omega) hlt ha he
   have move:later l a i=true→DR Tryd.prog (kof k23) 45 (.code (.g r23_8 [0,3,4])::.inBlock 1::.code (.g r23_4 [0,3,4])::.inLoop l23_0::k) [(0,v),(3,.int .i64 (a:Nat)),(4,.int .i64 (i:Nat))] H2 Q:=by
    intro h
    rw [h,if_pos rfl] at he
    refine DR.go rfl ?_
    simp -dsimp only [SZ,EZ,astep,aun,AVal.cells,seval]
    refine DR.go rfl ?_
    simp -dsimp only [SZ,EZ,astep,aun,AVal.cells,seval,abin_addI,hw]
    refine DR.nm rfl ?_
    refine DR.inLoop ?_
    exact ih i (i+1) (by omega) hlt hlt he
   cases h1:decide (lvN l i < lvN l a) with
   | true=>
    refine DR.go rfl ?_
    simp -dsimp only [SZ,EZ,astep,aun,AVal.cells,seval,lss64,eql64,e1,h1]
    refine DR.ye rfl rfl ?_
    exact DR.only [0,3,4] (move (by rw [hlat,h1]; rfl))
   | false=>
   cases h2:(lvN l i==lvN l a) with
   | false=>
    refine DR.go rfl ?_
    simp -dsimp only [SZ,EZ,astep,aun,AVal.cells,seval,lss64,eql64,e1,h1,e2,h2]
    refine DR.ne rfl rfl ?_
    exact DR.skip (DR.inBlock (DR.only [0,3,4] (keep (by rw [hlat,h1,h2]; rfl))))
   | true=>
   cases h3:rtA (lvN l a) with
   | true=>
    refine DR.go rfl ?_
    simp -dsimp only [SZ,EZ,astep,aun,AVal.cells,seval,lss64,eql64,e1,h1,e2,h2,nt]
    refine DR.ne rfl rfl ?_
    exact DR.skip (DR.inBlock (DR.only [0,3,4] (keep (by rw [hlat,h1,h2,h3]; rfl))))
   | false=>
    refine DR.go rfl ?_
    simp -dsimp only [SZ,EZ,astep,aun,AVal.cells,seval,lss64,eql64,e1,h1,e2,h2,nf]
    refine DR.ye rfl rfl ?_
    exact DR.only [0,3,4] (move (by rw [hlat,h1,h2,h3]; rfl))
  ·obtain rfl:i=l.length:=by omega
   unfold splitF at he
   rw [if_neg (by omega)] at he
   subst he
   exact fin
theorem g23 (hv:RW H v l) (hl:l.length≤1000) (h0:0 < l.length):DCall Tryd.prog 23 [v] H fun a H'=>a = .int .i64 (spl l:Nat)∧H'=H:=by
 refine DCall.of_body (fn:=Tryd.f23) (by kernel_rfl) c23 (by kernel_rfl) (by simp [f23]) ?_
 unfold f23
 simp only []
 refine DR.go rfl ?_
 simp -dsimp only [SZ,EZ,astep,aun,AVal.cells,seval]
 refine DR.go rfl ?_
 simp -dsimp only [SZ,EZ,astep,aun,AVal.cells,seval]
 refine DR.go rfl ?_
 simp -dsimp only [SZ,EZ,astep,aun,AVal.cells,seval]
 refine DR.nm rfl ?_
 refine DR.loop ?_
 refine loop23 rfl hv hl ?_ l.length 0 1 (by omega) h0 h0 rfl
 refine DR.go rfl ?_
 simp -dsimp only [SZ,EZ,astep,aun,AVal.cells,seval]
 refine DR.nm rfl ?_
 exact DR.ret ⟨_,by simp [aresult,ares,Env.get] <;> rfl,rfl,rfl⟩
end
end Go.Am.Rl
namespace Go.Am.Rl
open Go.Proofs
theorem spl_lt {l:List ByteArray} (h0:0 < l.length):spl l < l.length:=
 (splitF_inv l.length 0 1 (by omega) (by omega) ⟨by omega,fun q h=>by omega,fun q h1 h2=>by omega⟩).lt
theorem brkT_ok:∀ (f:Nat) (ls:List ByteArray) (ds:List Nat),ls.length≤f→ds.length=ls.length+1→(∀ d ∈ ds,d < 10)→(∀ o ∈ ls,o ∈ ops12)→(brkT f ds ls).ok∧(brkT f ds ls).size=2 * ls.length+1∧(brkT f ds ls).deep≤ls.length∧∀ o ∈ (brkT f ds ls).ops,o ∈ ops12:=by
 intro f
 have hleaf:∀ (ds:List Nat),ds.length=1→(∀ d ∈ ds,d < 10)→(BT.leaf (ds.headD 0:Nat)).ok:=by
  intro ds hd hx
  match ds,hd with
  | [d],_=>exact ⟨d,rfl,hx d (List.mem_cons_self ..)⟩
 induction f with
 | zero=>
  intro ls ds hl hd hx ho
  have:ls=[]:=List.eq_nil_of_length_eq_zero (by omega)
  subst this
  exact ⟨hleaf ds hd hx,rfl,Nat.le_refl _,fun o h=>by cases h⟩
 | succ f ih=>
  intro ls ds hl hd hx ho
  unfold brkT
  by_cases h0:ls=[]
  ·subst h0
   rw [if_pos rfl]
   exact ⟨hleaf ds hd hx,rfl,Nat.le_refl _,fun o h=>by cases h⟩
  ·rw [if_neg h0]
   have hn:=spl_lt (List.length_pos_iff.mpr h0)
   obtain ⟨n,hne⟩:∃ n,n=spl ls:=⟨_,rfl⟩
   rw [← hne] at hn ⊢
   obtain ⟨o,hon⟩:∃ o,ls[n]? = some o:=⟨_,List.getElem?_eq_getElem hn⟩
   have hgd:ls.getD n empty=o:=by rw [List.getD_eq_getElem?_getD,hon]; rfl
   have hoo:=ho o (List.mem_of_getElem? hon)
   rw [hgd]
   have t1:(ls.take n).length=n:=by rw [List.length_take]; omega
   have t2:(ls.drop (n+1)).length=ls.length - (n+1):=List.length_drop
   obtain ⟨a1,a2,a3,a4⟩:=ih (ls.take n) (ds.take (n+1)) (by omega) (by rw [List.length_take]; omega) (fun d hd=>hx d (List.mem_of_mem_take hd)) (fun o h=>ho o (List.mem_of_mem_take h))
   obtain ⟨b1,b2,b3,b4⟩:=ih (ls.drop (n+1)) (ds.drop (n+1)) (by omega) (by rw [List.length_drop]; omega) (fun d hd=>hx d (List.mem_of_mem_drop hd)) (fun o h=>ho o (List.mem_of_mem_drop h))
   rw [t1] at a2 a3
   rw [t2] at b2 b3
   refine ⟨⟨hoo,a1,b1⟩,?_,?_,fun q hq=> ?_⟩
   ·show (brkT f _ _).size+(brkT f _ _).size+1=_
    omega
   ·show 1+max (brkT f _ _).deep (brkT f _ _).deep≤_
    omega
   ·rcases List.mem_cons.mp hq with rfl | hq
    ·exact hoo
    ·rcases List.mem_append.mp hq with h | h
     ·exact a4 q h
     ·exact b4 q h
theorem bstr_size:∀ x:BT,x.ok→(bstr x).size≤12 * x.size
 | .leaf n,_=>by show 1≤12 * 1; omega
 | .op o a b,h=>by
  have h1:=bstr_size a h.2.1
  have h2:=bstr_size b h.2.2
  have h3:=(op_pos h.1).2
  have hs:(bstr (.op o a b)).size=1+((bstr a).size+(1+(o.size+(1+((bstr b).size+1))))):=by
   show (w_lp++(bstr a++(w_sp++(o++(w_sp++(bstr b++w_rp)))))).size=_
   simp only [ByteArray.size_append]; rfl
  have hz:(BT.op o a b).size=a.size+b.size+1:=rfl
  omega
theorem g16 {H:AHeap}:∀ (f:Nat) (ls:List ByteArray) (ds:List Nat) (v w:AVal),ls.length≤f→ls.length≤30→ds.length=ls.length+1→(∀ d ∈ ds,d < 10)→(∀ o ∈ ls,o ∈ ops12)→RW H v (ds.map dstr)→RW H w ls→DCall Tryd.prog 16 [v,w] H fun a H'=>a = .str (bstr (brkT f ds ls))∧H'=H:=by
 intro f
 have base:∀ (f:Nat) (ds:List Nat) (v w:AVal),ds.length=1→RW H v (ds.map dstr)→RW H w []→DCall Tryd.prog 16 [v,w] H fun a H'=>a = .str (bstr (.leaf (ds.headD 0:Nat)))∧H'=H:=by
  intro f ds v w hd hv hw
  match ds,hd with
  | [d],_=>
   have hlw:=fun H'=>hw.len H'
   obtain ⟨p,ix,lx⟩:=hv.at (i:=0) (s:=dstr d) rfl
   have ix:∀ H',aiaddr H' 1 v (.int .i64 0)=some p:=ix
   have q0:(((0:Nat):Int)==0)=true:=rfl
   have hlw:∀ H',alenT H' 1 w=some 0:=hlw
   refine DCall.of_body (fn:=Tryd.f16) (by kernel_rfl) c16 (by kernel_rfl) (by simp [f16]) ?_
   unfold f16
   simp only []
   refine DR.go rfl ?_
   simp -dsimp only [SZ,EZ,astep,aun,AVal.cells,seval]
   refine DR.go rfl ?_
   simp -dsimp only [SZ,EZ,astep,aun,AVal.cells,seval,hlw,eql64,q0]
   refine DR.ye rfl rfl ?_
   refine DR.go rfl ?_
   simp -dsimp only [SZ,EZ,astep,aun,AVal.cells,seval,ix,lx]
   refine DR.nm rfl ?_
   exact DR.ret ⟨_,by simp [aresult,ares,Env.get] <;> rfl,rfl,rfl⟩
 induction f with
 | zero=>
  intro ls ds v w hl _ hd hx ho hv hw
  have:ls=[]:=List.eq_nil_of_length_eq_zero (by omega)
  subst this
  exact base 0 ds v w hd hv hw
 | succ f ih=>
  intro ls ds v w hl h30 hd hx ho hv hw
  unfold brkT
  by_cases h0:ls=[]
  ·subst h0
   rw [if_pos rfl]
   exact base 0 ds v w hd hv hw
  ·rw [if_neg h0]
   have hpos:=List.length_pos_iff.mpr h0
   have hn:=spl_lt hpos
   have hg23:=g23 hw (by omega) hpos
   obtain ⟨n,hne⟩:∃ n,n=spl ls:=⟨_,rfl⟩
   rw [← hne] at hn hg23 ⊢
   obtain ⟨o,hon⟩:∃ o,ls[n]? = some o:=⟨_,List.getElem?_eq_getElem hn⟩
   have hgd:ls.getD n empty=o:=by rw [List.getD_eq_getElem?_getD,hon]; rfl
   have hoo:=ho o (List.mem_of_getElem? hon)
   rw [hgd]
   have t1:(ls.take n).length=n:=by rw [List.length_take]; omega
   have t2:(ls.drop (n+1)).length=ls.length - (n+1):=List.length_drop
   have hdl:(ds.map dstr).length=ds.length:=List.length_map ..
   obtain ⟨v1,sv1,rv1⟩:=hv.take (n:=n+1) (by omega)
   obtain ⟨w1,sw1,rw1⟩:=hw.take (n:=n) (by omega)
   obtain ⟨v2,sv2,rv2⟩:=hv.drop (n:=n+1) (by omega)
   obtain ⟨w2,sw2,rw2⟩:=hw.drop (n:=n+1) (by omega)
   rw [← List.map_take] at rv1
   rw [← List.map_drop] at rv2
   have d1:(ds.take (n+1)).length=(ls.take n).length+1:=by rw [List.length_take]; omega
   have d2:(ds.drop (n+1)).length=(ls.drop (n+1)).length+1:=by rw [List.length_drop]; omega
   have x1:∀ d ∈ ds.take (n+1),d < 10:=fun d hd=>hx d (List.mem_of_mem_take hd)
   have x2:∀ d ∈ ds.drop (n+1),d < 10:=fun d hd=>hx d (List.mem_of_mem_drop hd)
   have o1:∀ o ∈ ls.take n,o ∈ ops12:=fun o h=>ho o (List.mem_of_mem_take h)
   have o2:∀ o ∈ ls.drop (n+1),o ∈ ops12:=fun o h=>ho o (List.mem_of_mem_drop h)
   have c1:=ih (ls.take n) (ds.take (n+1)) v1 w1 (by omega) (by omega) d1 x1 o1 rv1 rw1
   have c2:=ih (ls.drop (n+1)) (ds.drop (n+1)) v2 w2 (by omega) (by omega) d2 x2 o2 rv2 rw2
   obtain ⟨k1,s1,_,_⟩:=brkT_ok f (ls.take n) (ds.take (n+1)) (by omega) d1 x1 o1
   obtain ⟨k2,s2,_,_⟩:=brkT_ok f (ls.drop (n+1)) (ds.drop (n+1)) (by omega) d2 x2 o2
   have z1:=bstr_size _ k1
   have z2:=bstr_size _ k2
   rw [s1,t1] at z1
   rw [s2,t2] at z2
   obtain ⟨A,hA⟩:∃ A,A=bstr (brkT f (ds.take (n+1)) (ls.take n)):=⟨_,rfl⟩
   obtain ⟨B,hB⟩:∃ B,B=bstr (brkT f (ds.drop (n+1)) (ls.drop (n+1))):=⟨_,rfl⟩
   have hres:bstr (.op o (brkT f (ds.take (n+1)) (ls.take n)) (brkT f (ds.drop (n+1)) (ls.drop (n+1))))=(((((⟨#[40]⟩++A)++⟨#[32]⟩)++o)++⟨#[32]⟩)++B)++⟨#[41]⟩:=by
    rw [hA,hB]
    show w_lp++(bstr _++(w_sp++(o++(w_sp++(bstr _++w_rp)))))=_
    simp only [ByteArray.append_assoc]
   rw [hres]
   rw [← hA] at c1 z1
   rw [← hB] at c2 z2
   have p3:=(op_pos hoo).2
   have q40:(⟨#[40]⟩:ByteArray).size=1:=rfl
   have q32:(⟨#[32]⟩:ByteArray).size=1:=rfl
   have q41:(⟨#[41]⟩:ByteArray).size=1:=rfl
   have a1:=cat_small (a:=⟨#[40]⟩) (b:=A) (by omega)
   have a2:=cat_small (a:=⟨#[40]⟩++A) (b:=⟨#[32]⟩) (by simp only [ByteArray.size_append]; omega)
   have a3:=cat_small (a:=(⟨#[40]⟩++A)++⟨#[32]⟩) (b:=o) (by simp only [ByteArray.size_append]; omega)
   have a4:=cat_small (a:=((⟨#[40]⟩++A)++⟨#[32]⟩)++o) (b:=⟨#[32]⟩) (by simp only [ByteArray.size_append]; omega)
   have a5:=cat_small (a:=(((⟨#[40]⟩++A)++⟨#[32]⟩)++o)++⟨#[32]⟩) (b:=B) (by simp only [ByteArray.size_append]; omega)
   have a6:=cat_small (a:=((((⟨#[40]⟩++A)++⟨#[32]⟩)++o)++⟨#[32]⟩)++B) (b:=⟨#[41]⟩) (by simp only [ByteArray.size_append]; omega)
   have hlw:=fun H'=>hw.len H'
   have ne0:(((ls.length:Nat):Int)==0)=false:=by simp; omega
   have hadd:IntKind.i64.wrap ((n:Int)+1)=((n+1:Nat):Int):=wrap64 (n:=n+1) (by omega)
   obtain ⟨po,io,lo⟩:=hw.at hon
   have rv:=hv.row
   have rw0:=hw.row
   refine DCall.of_body (fn:=Tryd.f16) (by kernel_rfl) c16 (by kernel_rfl) (by simp [f16]) ?_
   unfold f16
   simp only []
   refine DR.go rfl ?_
   simp -dsimp only [SZ,EZ,astep,aun,AVal.cells,seval]
   refine DR.go rfl ?_
   simp -dsimp only [SZ,EZ,astep,aun,AVal.cells,seval,hlw,eql64,ne0]
   refine DR.ne rfl rfl ?_
   refine DR.go rfl ?_
   simp -dsimp only [SZ,EZ,astep,aun,AVal.cells,seval]
   refine hg23.mono ?_
   rintro a H1 ⟨rfl,rfl⟩
   simp -dsimp only [SZ,EZ,astep,aun,AVal.cells,seval]
   refine DR.nm rfl ?_
   refine DR.draw (by kernel_rfl) d16_4 ?_
   simp -dsimp only [m16_4,SZ,EZ,astep,aun,AVal.cells,seval,DS_nil,DS_cons,seesAll,staysAll,abit,List.getD_cons_zero,List.getD_cons_succ,AOp.quiet,AOp.reads,true_and,and_true,decide_true,decide_false,and_self,abin_addI,hadd,rv,rw0,sv1,sw1,Option.bind_some]
   refine c1.mono ?_
   rintro a H2 ⟨rfl,rfl⟩
   simp -dsimp only [SZ,EZ,astep,aun,AVal.cells,seval,DS_nil,DS_cons,seesAll,staysAll,abit,List.getD_cons_zero,List.getD_cons_succ,AOp.quiet,AOp.reads,true_and,and_true,decide_true,decide_false,and_self,abin_addI,hadd,rv,rw0,sv1,sw1,sv2,sw2,a1,a2,a3,a4,io,lo,Option.bind_some]
   refine c2.mono ?_
   rintro a H3 ⟨rfl,rfl⟩
   simp -dsimp only [SZ,EZ,astep,aun,AVal.cells,seval,DS_nil,DS_cons,seesAll,staysAll,abit,List.getD_cons_zero,List.getD_cons_succ,AOp.quiet,AOp.reads,true_and,and_true,decide_true,decide_false,and_self,abin_addI,hadd,rv,rw0,sv1,sw1,sv2,sw2,io,lo,a5,a6,Option.bind_some]
   refine DR.nm rfl ?_
   exact DR.ret ⟨_,by simp [aresult,ares,Env.get] <;> rfl,rfl,rfl⟩
end Go.Am.Rl
namespace Go.Am.Rl
open Go.Proofs
theorem parse_text {t:ByteArray} {r:Parsed} {E:List TK} {x:BT} {j:Nat} (hp:Parses t r) {l:List (List AVal)} (hl:tokens t = .inr l) (hE:(lexT t).map TK.er=E) (ev:Ev E (rule E .module ⟨0,0,[]⟩) (.ok (.n (x.size+5)) ⟨j,0,modN x⟩)):∃ nodes,r = .tree nodes (x.size+5)∧nodes.map ND.er=modN x:=by
 have a1:Same1 (lexT t) E:=by rw [← hE]; exact same1_map _
 rcases hp with ⟨e,h,_⟩ | ⟨_,h⟩
 ·rw [hl] at h; cases h
 rcases h with ⟨e,p,ev',rfl⟩ | ⟨i,st,ev',rfl,_⟩
 ·have:=Ev.det (Tw.ev (tw_rule a1) ev') ev
  simp [Out1.er] at this
 ·have:=Ev.det (Tw.ev (tw_rule a1) ev') ev
  simp only [Out1.er,Out1.ok.injEq,Val.er,Val.n.injEq,PS.er,PS.mk.injEq] at this
  exact ⟨_,by rw [this.1],this.2.2.2⟩
theorem tkAt_self (E:List TK):TkAt E 0 E:=fun q x hq=>by
 unfold tk; rw [Nat.zero_add,List.getD_eq_getElem?_getD,hq]; rfl
theorem er_p {E M:List TK} (h:M.map TK.er=E) (i:Nat):(tk E i).p=0:=by
 rw [← h,same1_map M i]; rfl
theorem text_ev {E L:List TK} {x:BT} {h:Nat} (hE:∀ i,(tk E i).p=0) (he:E=ptoks++(L++[dotT,endT])) (q:tk E (10+L.length)=dotT→TkAt E 10 L→Par E .expr 10 (10+L.length) x h) (hh:h≤199) (hs:x.size≤16000):Ev E (rule E .module ⟨0,0,[]⟩) (.ok (.n (x.size+5)) ⟨10+L.length+1,0,modN x⟩):=by
 have h0:TkAt E 0 (ptoks++(L++[dotT,endT])):=by rw [← he]; exact tkAt_self E
 have h1:TkAt E 10 (L++[dotT,endT]):=h0.right
 have h2:=h1.right
 have hd:=h2.head
 have h3:=h2.tail.head
 exact module_ev hE h0.left (q hd h1.left) hd (by rw [h3]; rfl) hh hs
theorem rtoks_at {E:List TK}:∀ (ls:List ByteArray) (ds:List Nat) (i:Nat),ds.length=ls.length+1→TkAt E i (rtoks ds ls)→(∀ q (d:Nat),ds[q]? = some d→tk E (i+2 * q)=tokI (d:Nat))∧∀ q o,ls[q]? = some o→tk E (i+2 * q+1)=tokO o
 | [],[d],i,_,h=>by
  refine ⟨fun q d' hq=> ?_,fun q o hq=>(by simp at hq)⟩
  cases q with
  | zero=>injection hq with hq; subst hq; exact h.head
  | succ q=>simp at hq
 | o::ls,d::ds,i,hl,h=>by
  have h:TkAt E i (tokI (d:Nat)::tokO o::rtoks ds ls):=h
  obtain ⟨r1,r2⟩:=rtoks_at ls ds (i+2) (by simpa using hl) h.tail.tail
  refine ⟨fun q d' hq=> ?_,fun q o' hq=> ?_⟩
  ·cases q with
   | zero=>injection hq with hq; subst hq; exact h.head
   | succ q=>
    have:=r1 q d' hq
    rw [show i+2 * (q+1)=i+2+2 * q by omega]; exact this
  ·cases q with
   | zero=>injection hq with hq; subst hq; exact h.tail.head
   | succ q=>
    have:=r2 q o' hq
    rw [show i+2 * (q+1)+1=i+2+2 * q+1 by omega]; exact this
 | [],[],_,hl,_=>by simp at hl
 | [],_::_::_,_,hl,_=>by simp at hl
 | _::_,[],_,hl,_=>by simp at hl
theorem rtoks_len:∀ (ls:List ByteArray) (ds:List Nat),ds.length=ls.length+1→(rtoks ds ls).length=2 * ls.length+1
 | [],[d],_=>rfl
 | o::ls,d::ds,hl=>by
  show (rtoks ds ls).length+1+1=_
  rw [rtoks_len ls ds (by simpa using hl)]; simp; omega
 | [],[],hl=>by simp at hl
 | [],_::_::_,hl=>by simp at hl
 | _::_,[],hl=>by simp at hl
theorem dot_lp {E:List TK} {j:Nat} (h:tk E j=dotT) {st:PS} (hj:st.at_=j):isS E st w_lp=false:=isS_of (x:=dotT) (by rw [hj]; exact h) (by kernel_rfl)
theorem dot_eq {E:List TK} {j:Nat} (h:tk E j=dotT) {st:PS} (hj:st.at_=j):anyS E st [w_eq,w_bang]=⟨#[]⟩:=w_eqbang (x:=dotT) (.inr ⟨by kernel_rfl,by kernel_rfl⟩) (by rw [hj]; exact h)
structure Rows2 (ls:List ByteArray) (ds:List Nat):Prop where
 len:ds.length=ls.length+1
 le:ls.length≤30
 dig:∀ d ∈ ds,d < 10
 ops:∀ o ∈ ls,o ∈ ops12
 cmp:Cmp ls
section
variable {ls:List ByteArray} {ds:List Nat} {r:Parsed}
theorem rstr_size:∀ (ls:List ByteArray) (ds:List Nat),ds.length=ls.length+1→(∀ o ∈ ls,o ∈ ops12)→(rstr ds ls).size≤10 * ls.length+1
 | [],[d],_,_=>Nat.le_refl 1
 | o::ls,d::ds,hl,ho=>by
  have h1:=rstr_size ls ds (by simpa using hl) (fun o h=>ho o (List.mem_cons_of_mem _ h))
  have h2:=(op_pos (ho o (List.mem_cons_self ..))).2
  have hs:(rstr (d::ds) (o::ls)).size=1+(1+(o.size+(1+(rstr ds ls).size))):=by
   show (dstr d++(w_sp++(o++(w_sp++rstr ds ls)))).size=_
   simp only [ByteArray.size_append]; rfl
  simp only [List.length_cons]; omega
 | [],[],hl,_=>by simp at hl
 | [],_::_::_,hl,_=>by simp at hl
 | _::_,[],hl,_=>by simp at hl
theorem rstr_snoc:∀ (ls:List ByteArray) (ds:List Nat) (o:ByteArray) (d:Nat),ds.length=ls.length+1→rstr (ds++[d]) (ls++[o])=rstr ds ls++(w_sp++(o++(w_sp++dstr d)))
 | [],[d0],o,d,_=>rfl
 | p::ls,d0::ds,o,d,hl=>by
  show dstr d0++(w_sp++(p++(w_sp++rstr (ds++[d]) (ls++[o]))))=(dstr d0++(w_sp++(p++(w_sp++rstr ds ls))))++_
  rw [rstr_snoc ls ds o d (by simpa using hl)]
  simp only [ByteArray.append_assoc]
 | [],[],_,_,hl=>by simp at hl
 | [],_::_::_,_,_,hl=>by simp at hl
 | _::_,[],_,_,hl=>by simp at hl
theorem row_parse (q:Rows2 ls ds) (hp:Parses ((preT++rstr ds ls)++w_dot) r):∃ nodes,r = .tree nodes ((brkT ls.length ds ls).size+5)∧nodes.map ND.er=modN (brkT ls.length ds ls):=by
 obtain ⟨k1,k2,_,_⟩:=brkT_ok ls.length ls ds (Nat.le_refl _) q.len q.dig q.ops
 have hsz:=rstr_size ls ds q.len q.ops
 have hle:=q.le
 obtain ⟨l,hl,hE⟩:=lx_text (X:=rstr ds ls) (L:=rtoks ds ls) (fun t h hn=>by
  refine ⟨?_,lx_row ls ds 19 q.len q.dig q.ops h hn⟩
  match ds,q.len,q.dig,h with
  | d::ds,_,hd,h=>exact rstr_nb (hd d (List.mem_cons_self ..)) h) (by omega)
 have hp0:=er_p hE
 refine parse_text hp hl hE (text_ev (h:=0+1) hp0 rfl (fun hdot hat=> ?_) (by omega) (by omega))
 obtain ⟨r1,r2⟩:=rtoks_at ls ds 10 q.len hat
 have hlen:=rtoks_len ls ds q.len
 obtain ⟨E,hEe⟩:∃ E,E=ptoks++(rtoks ds ls++[dotT,endT]):=⟨_,rfl⟩
 rw [← hEe] at hp0 hdot hat r1 r2 ⊢
 have hops:∀ q' o,ls[q']? = some o→OpAt E (10+2 * q'+1) o:=fun q' o ho=>⟨q.ops o (List.mem_of_getElem? ho),by rw [r2 q' o ho]; exact tokO_sign o,by rw [r2 q' o ho]; rfl⟩
 have hj:10+(rtoks ds ls).length=10+2 * ls.length+1:=by rw [hlen]; omega
 rw [hj] at hdot ⊢
 have rw1:=row_rw (E:=E) (h:=0) ls.length ls ds 10 (Nat.le_refl _) q.len (fun q' d hd=>par_leaf hp0 (r1 q' d hd) (fun st hst=>by
  have hq:q' < ls.length+1:=by have:=(List.getElem?_eq_some_iff.mp hd).1; rw [q.len] at this; exact this
  by_cases hlast:q'=ls.length
  ·exact dot_lp hdot (by rw [hst,hlast])
  ·obtain ⟨o,ho⟩:∃ o,ls[q']? = some o:=⟨_,List.getElem?_eq_getElem (by omega)⟩
   exact op_lp (q.ops o (List.mem_of_getElem? ho)) (by rw [hst]; exact r2 q' o ho))) hops q.cmp
 have p1:=(rw1.par hp0).1 1 (Nat.le_refl _) (by omega) (fun o ho=>(lv_of (q.ops o ho)).1) (stop_of dot_stop hdot)
 refine par_expr p1 (fun st hst=> ?_) (fun st hst=>dot_eq hdot hst)
 obtain ⟨d,hd⟩:∃ d,ds[0]? = some d:=⟨_,List.getElem?_eq_getElem (by have:=q.len; omega)⟩
 exact no_catch (x:=tokI (d:Nat)) (.inl rfl) (by rw [hst]; exact r1 0 d hd)
theorem brk_parse (q:Rows2 ls ds) (hp:Parses ((preT++bstr (brkT ls.length ds ls))++w_dot) r):∃ nodes,r = .tree nodes ((brkT ls.length ds ls).size+5)∧nodes.map ND.er=modN (brkT ls.length ds ls):=by
 obtain ⟨k1,k2,k3,k4⟩:=brkT_ok ls.length ls ds (Nat.le_refl _) q.len q.dig q.ops
 have hsz:=bstr_size _ k1
 have hle:=q.le
 obtain ⟨x,hx⟩:∃ x,x=brkT ls.length ds ls:=⟨_,rfl⟩
 rw [← hx] at hp k1 k2 k3 k4 hsz ⊢
 obtain ⟨l,hl,hE⟩:=lx_text (X:=bstr x) (L:=btoks x) (fun t h hn=>⟨bstr_nb k1 h,lx_brk x 19 k1 h hn⟩) (by omega)
 have hp0:=er_p hE
 refine parse_text hp hl hE (text_ev (h:=x.deep+1) hp0 rfl (fun hdot hat=> ?_) (by omega) (by omega))
 obtain ⟨E,hEe⟩:∃ E,E=ptoks++(btoks x++[dotT,endT]):=⟨_,rfl⟩
 rw [← hEe] at hp0 hdot hat ⊢
 have pu:=par_brk hp0 x 10 hat k4 (fun st hst=>dot_lp hdot hst)
 have p1:=((Rw.leaf pu).par hp0).1 1 (Nat.le_refl _) (by omega) (fun o ho=>by cases ho) (stop_of dot_stop hdot)
 obtain ⟨y,L,hy,hk⟩:=btoks_head x
 exact par_expr p1 (fun st hst=>no_catch hk (by rw [hst]; rw [hy] at hat; exact hat.head)) (fun st hst=>dot_eq hdot hst)
theorem post_l:∀ (x:BT) (b:Nat),∀ m ∈ x.post b,m.l.length≤2
 | .leaf n,b,m,hm=>by rw [List.mem_singleton.mp hm]; exact Nat.zero_le 2
 | .op o a c,b,m,hm=>by
  rcases List.mem_append.mp hm with h | h
  ·exact post_l a b m h
  ·rcases List.mem_append.mp h with h | h
   ·exact post_l c _ m h
   ·rw [List.mem_singleton.mp h]; exact Nat.le_refl 2
theorem modN_l (x:BT):∀ m ∈ modN x,m.l.length≤2:=by
 intro m hm
 unfold modN at hm
 rcases List.mem_append.mp hm with h | h
 ·rcases List.mem_append.mp h with h | h
  ·rw [List.mem_singleton.mp h]; exact Nat.zero_le 2
  ·exact post_l x 1 m h
 ·simp only [List.mem_cons,List.not_mem_nil,or_false] at h
  rcases h with rfl | rfl | rfl | rfl | rfl <;> simp [node]
theorem modN_len (x:BT):(modN x).length=x.size+6:=by
 unfold modN; simp [BT.post_len] <;> omega
theorem modN_of {nodes:List ND} {x:BT} (h:nodes.map ND.er=modN x):nodes.length=x.size+6∧∀ (i:Nat) (m:ND),nodes[i]? = some m→m.l.length≤100000:=by
 refine ⟨by have:=congrArg List.length h; rw [List.length_map,modN_len] at this; exact this,fun i m hm=> ?_⟩
 have:m.er ∈ modN x:=by rw [← h]; exact List.mem_map.mpr ⟨m,List.mem_of_getElem? hm,rfl⟩
 have:=modN_l x _ this
 have e:m.er.l=m.l:=rfl
 rw [e] at this; omega
end
end Go.Am.Rl
namespace Go.Am.Rl
open Go.Proofs
def SR (H:AHeap) (v:AVal) (l:List ByteArray):Prop:=(v = .nils∧l=[])∨∃ id c,v = .sl id 0 l.length c∧(c=none∨c=some l.length)∧H.get id=some (.cells 9 (l.map .str))
theorem SR.frame {H H':AHeap} {v:AVal} {l:List ByteArray} (h:SR H v l) (hf:∀ j,rid v=some j→H'.get j=H.get j):SR H' v l:=by
 rcases h with h | ⟨id,c,rfl,hc,h⟩
 ·exact .inl h
 ·exact .inr ⟨id,c,rfl,hc,(hf id rfl).trans h⟩
theorem SR.lt {H:AHeap} {v:AVal} {l:List ByteArray} (h:SR H v l) {j:Nat} (hj:rid v=some j):j < H.next:=by
 rcases h with ⟨rfl,_⟩ | ⟨id,c,rfl,_,h⟩
 ·cases hj
 ·simp only [rid,Option.some.injEq] at hj; subst hj; exact AHeap.get_lt h
theorem SR.rw {H:AHeap} {v:AVal} {l:List ByteArray} (h:SR H v l):RW H v l:=by
 rcases h with ⟨rfl,rfl⟩ | ⟨id,c,rfl,hc,h⟩
 ·exact .inl ⟨rfl,.inl rfl⟩
 ·refine .inr ⟨id,0,c,_,rfl,h,by rw [List.drop_zero,← List.length_map (f:=AVal.str),List.take_length],by simp,fun k hk=> ?_⟩
  rcases hc with rfl | rfl
  ·cases hk
  ·injection hk with hk; omega
theorem SR.app {H:AHeap} {v:AVal} {l:List ByteArray} {s:ByteArray} {idy:Nat} (h:SR H v l) (hy:H.get idy=some (.cells 9 [.str s])) (hl:l.length+1 < 1000000) :
  ∃ v' H',aapp 9 1 16 H v (.sl idy 0 1 (some 1))=some (v',H')∧SR H' v' (l++[s])∧H.next≤H'.next∧(∀ j,j < H.next→rid v≠some j→H'.get j=H.get j)∧∀ j,rid v'=some j→H.next≤j:=by
 have c1:sliceCells H 1 (.sl idy 0 1 (some 1))=some [.str s]:=by simp only [sliceCells,hy]; rfl
 have c2:alen (.sl idy 0 1 (some 1))=some 1:=rfl
 have hno:¬ (ones [AVal.str s]=false∨1=0∨[AVal.str s].length≠1 * 1):=by simp [ones,AVal.one]
 have hll:(l.map AVal.str).length=l.length:=List.length_map ..
 have hcat:l.map AVal.str++[.str s]=(l++[s]).map AVal.str:=by simp
 rcases h with ⟨rfl,rfl⟩ | ⟨id,c,rfl,hc,hb⟩
 ·refine ⟨.sl H.next 0 1 none,H.push (.cells 9 [.str s]),?_,.inr ⟨H.next,none,rfl,.inl rfl,by rw [AHeap.get_push,if_pos rfl]; rfl⟩,by simp,fun j hj _=>by rw [AHeap.get_push,if_neg (by omega)],fun j hj=> ?_⟩
  ·simp only [aapp,c1,c2,if_neg hno]
   rw [if_neg (by omega),if_pos ⟨by omega,by omega⟩]
  ·simp only [rid,Option.some.injEq] at hj; omega
 ·rcases hc with rfl | rfl
  ·refine ⟨.sl H.next 0 (l.length+1) none,(H.del id).push (.cells 9 (l.map .str++[.str s])),?_,.inr ⟨H.next,none,by rw [List.length_append]; rfl,.inl rfl,by
    have h1':(H.del id).next=H.next:=rfl
    rw [AHeap.get_push,h1',if_pos rfl,hcat]⟩,by simp [AHeap.push,AHeap.del],fun j hj hne=> ?_,fun j hj=> ?_⟩
   ·simp only [aapp,c1,c2,if_neg hno,hb]
    rw [if_neg (by omega),if_pos ⟨by omega,by omega,by omega,trivial⟩,if_neg (by omega),if_pos (by omega),List.drop_zero,Nat.mul_one,← hll,List.take_length]
   ·have h1':(H.del id).next=H.next:=rfl
    rw [AHeap.get_push,h1',if_neg (by omega),AHeap.get_del,if_neg (fun e=>hne (by simp [rid,e]))]
   ·simp only [rid,Option.some.injEq] at hj; omega
  ·refine ⟨.sl H.next 0 (l.length+1) none,H.push (.cells 9 (l.map .str++[.str s])),?_,.inr ⟨H.next,none,by rw [List.length_append]; rfl,.inl rfl,by rw [AHeap.get_push,if_pos rfl,hcat]⟩,by simp,fun j hj hne=>by rw [AHeap.get_push,if_neg (by omega)],fun j hj=> ?_⟩
   ·simp only [aapp,c1,c2,if_neg hno,hb]
    rw [if_neg (by omega),if_pos ⟨by omega,by omega,by omega,trivial⟩,if_neg (by omega),List.drop_zero,Nat.mul_one,← hll,List.take_length]
   ·simp only [rid,Option.some.injEq] at hj; omega
structure FInv (H0 H:AHeap) (id3:Nat) (v w:AVal) (ls xs:List ByteArray):Prop where
 g:Gro H0 H
 n3:H0.next≤id3
 h3:H.get id3=some (.cells 9 (ops12.map .str))
 sv:SR H v ls
 sw:SR H w xs
 rv:∀ j,rid v=some j→id3 < j
 rw:∀ j,rid w=some j→id3 < j
 vw:∀ j,rid v=some j→rid w≠some j
section
variable {H0 H:AHeap} {id3:Nat} {v w:AVal} {ls xs:List ByteArray}
theorem FInv.swap (h:FInv H0 H id3 v w ls xs):FInv H0 H id3 w v xs ls:=⟨h.g,h.n3,h.h3,h.sw,h.sv,h.rw,h.rv,fun j hw hv=>h.vw j hv hw⟩
theorem FInv.push (h:FInv H0 H id3 v w ls xs) (b:ABlk):FInv H0 (H.push b) id3 v w ls xs:=by
 have f:∀ j,j < H.next→(H.push b).get j=H.get j:=fun j hj=>by rw [AHeap.get_push,if_neg (by omega)]
 have h3:=AHeap.get_lt h.h3
 exact ⟨h.g.trans (Gro.push _ _),h.n3,(f _ h3).trans h.h3,h.sv.frame fun j hj=>f j (h.sv.lt hj),h.sw.frame fun j hj=>f j (h.sw.lt hj),h.rv,h.rw,h.vw⟩
theorem FInv.app (h:FInv H0 H id3 v w ls xs) (s:ByteArray) (hl:ls.length+1 < 1000000):∃ H1 v' H2,H.push (.cells 9 [.str s])=H1∧aapp 9 1 16 H1 v (.sl H.next 0 1 (some 1))=some (v',H2)∧FInv H0 H2 id3 v' w (ls++[s]) xs:=by
 obtain ⟨H1,hH1⟩:∃ H1,H1=H.push (.cells 9 [.str s]):=⟨_,rfl⟩
 have q:=h.push (.cells 9 [.str s])
 have hg:H1.get H.next=some (.cells 9 [.str s]):=by rw [hH1,AHeap.get_push,if_pos rfl]
 rw [← hH1] at q
 obtain ⟨v',H2,ha,hs,hn,hf,hr⟩:=q.sv.app hg hl
 have n1:H1.next=H.next+1:=by rw [hH1]; rfl
 have h3:=AHeap.get_lt q.h3
 refine ⟨H1,v',H2,hH1.symm,ha,⟨⟨Nat.le_trans q.g.1 hn,fun j hj=> ?_⟩,q.n3,?_,hs,q.sw.frame fun j hj=>hf j (q.sw.lt hj) (fun e=>q.vw j e hj),fun j hj=> ?_,q.rw,fun j hj e=> ?_⟩⟩
 ·rw [hf j (Nat.lt_of_lt_of_le hj q.g.1) (fun e=>by have:=q.rv j e; have:=q.n3; omega)]; exact q.g.2 j hj
 ·rw [hf id3 h3 (fun e=>by have:=q.rv _ e; omega)]; exact q.h3
 ·have:=hr j hj; omega
 ·have:=hr j hj; have:=q.sw.lt e; omega
end
structure BInv (i:Nat) (ls:List ByteArray) (ds:List Nat) (last:Bool):Prop where
 len:ds.length=ls.length+1
 le:ls.length≤i
 dig:∀ d ∈ ds,d < 10
 ops:∀ o ∈ ls,o ∈ ops12
 cmp:Cmp ls
 fresh:last=false→∀ a,a < ls.length→lvN ls a=3→∃ q,a < q∧q < ls.length∧lvN ls q < 3
theorem BInv.push {i:Nat} {ls:List ByteArray} {ds:List Nat} {last last':Bool} (h:BInv i ls ds last) {o:ByteArray} {d:Nat} (ho:o ∈ ops12) (hd:d < 10) (h3:lv o=3→last=false∧last'=true) (h4:3 < lv o→last'=last):BInv (i+1) (ls++[o]) (ds++[d]) last':=by
 have e1:∀ a,a < ls.length→lvN (ls++[o]) a=lvN ls a:=fun a ha=>by unfold lvN; rw [List.getD_eq_getElem?_getD,List.getElem?_append_left ha,← List.getD_eq_getElem?_getD]
 have e2:lvN (ls++[o]) ls.length=lv o:=lvN_at (by rw [List.getElem?_append_right (Nat.le_refl _),Nat.sub_self]; rfl)
 have hl:(ls++[o]).length=ls.length+1:=by simp
 have hi:=h.le
 refine ⟨by simp [h.len],by omega,fun x hx=> ?_,fun x hx=> ?_,fun a b hab hb ha3 hb3=> ?_,fun hf a ha ha3=> ?_⟩
 ·rcases List.mem_append.mp hx with hx | hx
  ·exact h.dig x hx
  ·rw [List.mem_singleton.mp hx]; exact hd
 ·rcases List.mem_append.mp hx with hx | hx
  ·exact h.ops x hx
  ·rw [List.mem_singleton.mp hx]; exact ho
 ·rw [e1 a (by omega)] at ha3
  rcases Nat.lt_or_ge b ls.length with hlt | hge
  ·rw [e1 b hlt] at hb3
   obtain ⟨q,q1,q2,q3⟩:=h.cmp a b hab hlt ha3 hb3
   exact ⟨q,q1,q2,by rw [e1 q (by omega)]; exact q3⟩
  ·obtain rfl:b=ls.length:=by omega
   rw [e2] at hb3
   obtain ⟨q,q1,q2,q3⟩:=h.fresh (h3 hb3).1 a hab ha3
   exact ⟨q,q1,q2,by rw [e1 q q2]; exact q3⟩
 ·rcases Nat.lt_trichotomy (lv o) 3 with hlt | heq | hgt
  ·rcases Nat.lt_or_ge a ls.length with h1 | h1
   ·exact ⟨ls.length,h1,by omega,by rw [e2]; exact hlt⟩
   ·obtain rfl:a=ls.length:=by omega
    rw [e2] at ha3; omega
  ·rw [(h3 heq).2] at hf; cases hf
  ·rcases Nat.lt_or_ge a ls.length with h1 | h1
   ·rw [e1 a h1] at ha3
    rw [h4 hgt] at hf
    obtain ⟨q,q1,q2,q3⟩:=h.fresh hf a h1 ha3
    exact ⟨q,q1,by omega,by rw [e1 q q2]; exact q3⟩
   ·obtain rfl:a=ls.length:=by omega
    rw [e2] at ha3; omega
def PK (v:AVal) (l:List Int):Prop:=(v = .nils∧l=[])∨v = .ros (l.map fun n=>.int .i64 n) l.length
theorem PK.len {v:AVal} {l:List Int} (h:PK v l) (H:AHeap):alenT H 1 v=some l.length:=by
 rcases h with ⟨rfl,rfl⟩ | rfl <;> rfl
theorem PK.at {v:AVal} {l:List Int} (h:PK v l) {i:Nat} {a:Int} (ha:l[i]? = some a):∃ p,(∀ H,aiaddr H 1 v (.int .i64 (i:Nat))=some p)∧∀ H,aload H none p=some (.int .i64 a):=by
 obtain ⟨hi,he⟩:=List.getElem?_eq_some_iff.mp ha
 rcases h with ⟨rfl,rfl⟩ | rfl
 ·cases ha
 ·refine ⟨.rop ((l.map fun n=>AVal.int .i64 n).drop i),fun H=> ?_,fun H=> ?_⟩
  ·simp only [aiaddr]; rw [if_pos ⟨by omega,by omega,by rw [List.length_map]; omega⟩]; simp
  ·have:(l.map fun n=>AVal.int .i64 n).drop i = .int .i64 a::(l.map fun n=>AVal.int .i64 n).drop (i+1):=by
    rw [List.drop_eq_getElem_cons (by rw [List.length_map]; exact hi),List.getElem_map,he]
   rw [this]; rfl
abbrev c23c:ACode:=.seq (.g r6_23 [0,3,4,5,6,7,8,10]) (.seq (.g r6_24 [0,3,4,5,6,7,8,10,13]) (.seq (.g r6_25 [0,3,4,5,6,7,8,10,13]) (.g r6_26 [0,3,4,5,6,7,8])))
abbrev c21c:ACode:=.seq (.seq (.g r6_21 [0,3,4,5,6,7,8,10,55]) (.cond (.t 55) (.g r6_22 [0,3,4,5,6,7,8,10]) .skip)) c23c
abbrev c18c:ACode:=.seq (.seq (.g r6_18 [0,3,4,5,6,7,8,10,11,52]) (.cond (.t 52) (.seq (.seq (.g r6_19 [0,3,4,5,6,7,8,10,11,53]) (.cond (.t 53) (.exit 1) .skip)) (.g r6_20 [0,3,4,5,6,7,8,10,11])) .skip)) c21c
abbrev c16c:ACode:=.seq (.g r6_16 [0,3,4,5,6,7,8,10]) (.seq (.g r6_17 [0,3,4,5,6,7,8,10,11]) c18c)
theorem str1 {H:AHeap} {id d:Nat} (h:H.get id=some (.cells 5 [.int .u8 ((48+d:Nat):Int)])):abytesStr H (.sl id 0 1 (some 1))=some (.str (dstr d)):=by
 have hs:sliceCells H 1 (.sl id 0 1 (some 1))=some [.int .u8 ((48+d:Nat):Int)]:=by simp only [sliceCells,h]; rfl
 have hl:alen (.sl id 0 1 (some 1))=some 1:=rfl
 simp only [abytesStr,isStr,hs,hl,bytesOf]
 rfl
theorem wrap8 {n:Nat} (h:n < 256):IntKind.u8.wrap (n:Int)=(n:Int):=by
 have:IntKind.u8.wrap (n:Int)=(n:Int).emod 256:=rfl
 rw [this]; exact Int.emod_eq_of_lt (by omega) (by omega)
section
variable {H0:AHeap} {id3:Nat} {v:AVal} {l:List Int} {k0 k':List AItem} {Q:AEnd→List ADef→Env→AHeap→Prop}
abbrev env6 (v:AVal) (id3:Nat) (v4 v5:AVal) (row:ByteArray) (last:Bool) (i:Nat):Env:=[(0,v),(3,.sl id3 0 12 (some 12)),(4,v4),(5,v5),(6,.str row),(7,.bool last),(8,.int .i64 (i:Nat))]
theorem push6 {H:AHeap} {v4 v5:AVal} {ls:List ByteArray} {ds:List Nat} {last last':Bool} {i:Nat} {o:ByteArray} (hf:FInv H0 H id3 v4 v5 ls (ds.map dstr)) (hb:BInv i ls ds last) (hi:i < 30) (ho:o ∈ ops12) (h3:lv o=3→last=false∧last'=true) (h4:3 < lv o→last'=last)
  (hend:∀ H v4 v5 ls ds,FInv H0 H id3 v4 v5 ls (ds.map dstr)→BInv (i+1) ls ds last'→DRX Tryd.prog (kof k6) 107 (.inBlock 1::.code (.g r6_12 [0,3,4,5,6,7,8])::k0) [] (env6 v id3 v4 v5 (rstr ds ls) last' i) H Q) :
  DRX Tryd.prog (kof k6) 107 (.code c23c::.inBlock 1::.code (.g r6_12 [0,3,4,5,6,7,8])::k0) [] [(0,v),(3,.sl id3 0 12 (some 12)),(4,v4),(5,v5),(6,.str (rstr ds ls)),(7,.bool last'),(8,.int .i64 (i:Nat)),(10,.str o)] H Q:=by
 have hle:=hb.le
 have hlen:=hb.len
 obtain ⟨H1,v4',H2,e1,e2,f2⟩:=hf.app o (by omega)
 obtain ⟨d,hd⟩:∃ d,d=(i+1) % 10:=⟨_,rfl⟩
 have hd10:d < 10:=by omega
 have x1:abin .add (.int .i64 (i:Nat)) (.int .i64 1)=some (.int .i64 ((i+1:Nat):Int)):=add64 (q:=1) (by omega)
 have x2:abin .rem (.int .i64 ((i+1:Nat):Int)) (.int .i64 10)=some (.int .i64 (d:Nat)):=by rw [hd]; rfl
 have x3:abin .add (.int .i64 48) (.int .i64 (d:Nat))=some (.int .i64 ((48+d:Nat):Int)):=add64 (p:=48) (by omega)
 have x4:=wrap8 (n:=48+d) (by omega)
 obtain ⟨H3,hH3⟩:∃ H3,H3=H2.push (.cells 5 [.int .u8 ((48+d:Nat):Int)]):=⟨_,rfl⟩
 have g3:H3.get H2.next=some (.cells 5 [.int .u8 ((48+d:Nat):Int)]):=by rw [hH3,AHeap.get_push,if_pos rfl]
 have f3:=f2.push (.cells 5 [.int .u8 ((48+d:Nat):Int)])
 rw [← hH3] at f3
 obtain ⟨H4,v5',H5,e4,e5,f5⟩:=f3.swap.app (dstr d) (by rw [List.length_map]; omega)
 have hz1:afill [.str ⟨#[]⟩] [(0,1,.str o)]=some [.str o]:=rfl
 have hz2:afill [.str ⟨#[]⟩] [(0,1,.str (dstr d))]=some [.str (dstr d)]:=rfl
 have hz3:afill [.int .u8 0] [(0,1,.int .u8 ((48+d:Nat):Int))]=some [.int .u8 ((48+d:Nat):Int)]:=rfl
 have hs:=str1 g3
 have rs:=rstr_size ls ds hb.len hb.ops
 have os:=(op_pos ho).2
 have n1:(⟨#[32]⟩:ByteArray).size=1:=rfl
 have n2:(dstr d).size=1:=rfl
 have c1:=cat_small (a:=rstr ds ls) (b:=⟨#[32]⟩) (by omega)
 have c2:=cat_small (a:=rstr ds ls++⟨#[32]⟩) (b:=o) (by simp only [ByteArray.size_append]; omega)
 have c3:=cat_small (a:=(rstr ds ls++⟨#[32]⟩)++o) (b:=⟨#[32]⟩) (by simp only [ByteArray.size_append]; omega)
 have c4:=cat_small (a:=((rstr ds ls++⟨#[32]⟩)++o)++⟨#[32]⟩) (b:=dstr d) (by simp only [ByteArray.size_append]; omega)
 have hrow:(((rstr ds ls++⟨#[32]⟩)++o)++⟨#[32]⟩)++dstr d=rstr (ds++[d]) (ls++[o]):=by
  rw [rstr_snoc ls ds o d hb.len]; simp only [ByteArray.append_assoc]
 rw [hrow] at c4
 have hm:(ds.map dstr)++[dstr d]=(ds++[d]).map dstr:=by simp
 rw [hm] at f5
 refine DRX.go rfl ?_
 simp -dsimp only [XZ,SZ,EZ,astep,aun,AVal.cells,seval,Env.parts,hz1,e1,e2]
 refine DRX.go rfl ?_
 simp -dsimp only [XZ,SZ,EZ,astep,aun,AVal.cells,seval,x1,x2,x3,x4,Env.parts,hz3,← hH3,hs]
 refine DRX.go rfl ?_
 simp -dsimp only [XZ,SZ,EZ,astep,aun,AVal.cells,seval,Env.parts,hz2,e4,e5]
 refine DRX.go rfl ?_
 simp -dsimp only [XZ,SZ,EZ,astep,aun,AVal.cells,seval,c1,c2,c3,c4]
 exact hend H5 v4' v5' _ _ f5.swap (hb.push ho hd10 h3 h4)
theorem loop6 (hk:aexitTo 0 k0=some k') (hv:PK v l) (hl:l.length≤30)
  (hend:∀ H v4 v5 ls ds last,FInv H0 H id3 v4 v5 ls (ds.map dstr)→BInv l.length ls ds last→DRX Tryd.prog (kof k6) 107 k' [] [(4,v4),(5,v5),(6,.str (rstr ds ls))] H Q) :
  ∀ (f i:Nat) (H:AHeap) (v4 v5:AVal) (ls:List ByteArray) (ds:List Nat) (last:Bool),l.length - i≤f→i≤l.length→FInv H0 H id3 v4 v5 ls (ds.map dstr)→BInv i ls ds last→
   DRX Tryd.prog (kof k6) 107 (.code l6_0::.inLoop l6_0::k0) [] (env6 v id3 v4 v5 (rstr ds ls) last i) H Q:=by
 have hlen:=fun H=>hv.len H
 have fin:∀ (H:AHeap) (v4 v5:AVal) (ls:List ByteArray) (ds:List Nat) (last:Bool),FInv H0 H id3 v4 v5 ls (ds.map dstr)→BInv l.length ls ds last→DRX Tryd.prog (kof k6) 107 (.code l6_0::.inLoop l6_0::k0) [] (env6 v id3 v4 v5 (rstr ds ls) last l.length) H Q:=by
  intro H v4 v5 ls ds last hf hb
  refine DRX.go rfl ?_
  simp -dsimp only [XZ,SZ,EZ,astep,aun,AVal.cells,seval,hlen,lss64,dge (Nat.le_refl l.length)]
  refine DRX.ne rfl rfl ?_
  refine DRX.exit (k':=k') (by simpa [aexitTo] using hk) ?_
  exact DRX.only [4,5,6] (hend H v4 v5 ls ds last hf hb)
 intro f
 induction f with
 | zero=>
  intro i H v4 v5 ls ds last hfi hi hf hb
  obtain rfl:i=l.length:=by omega
  exact fin H v4 v5 ls ds last hf hb
 | succ f ih=>
  intro i H v4 v5 ls ds last hfi hi hf hb
  rcases Nat.lt_or_ge i l.length with hlt | hge
  ·obtain ⟨a,ha⟩:∃ a,l[i]? = some a:=⟨_,List.getElem?_eq_getElem hlt⟩
   obtain ⟨p,ix,ld⟩:=hv.at ha
   have x1:abin .add (.int .i64 (i:Nat)) (.int .i64 1)=some (.int .i64 ((i+1:Nat):Int)):=add64 (q:=1) (by omega)
   have ix0:∀ a b:AVal,([a,b]:List AVal)[0]? = some a:=fun _ _=>rfl
   have ix1:∀ a b:AVal,([a,b]:List AVal)[1]? = some b:=fun _ _=>rfl
   have next0:∀ H v4 v5 ls ds last,FInv H0 H id3 v4 v5 ls (ds.map dstr)→BInv (i+1) ls ds last→DRX Tryd.prog (kof k6) 107 (.code (.g r6_12 [0,3,4,5,6,7,8])::.inLoop l6_0::k0) [] (env6 v id3 v4 v5 (rstr ds ls) last i) H Q:=by
    intro H v4 v5 ls ds last hf hb
    refine DRX.go rfl ?_
    simp -dsimp only [XZ,SZ,EZ,astep,aun,AVal.cells,seval,x1]
    refine DRX.nm rfl ?_
    refine DRX.inLoop ?_
    exact ih (i+1) H v4 v5 ls ds last (by omega) hlt hf hb
   have next:∀ H v4 v5 ls ds last,FInv H0 H id3 v4 v5 ls (ds.map dstr)→BInv (i+1) ls ds last→DRX Tryd.prog (kof k6) 107 (.inBlock 1::.code (.g r6_12 [0,3,4,5,6,7,8])::.inLoop l6_0::k0) [] (env6 v id3 v4 v5 (rstr ds ls) last i) H Q:=
    fun H v4 v5 ls ds last hf hb=>DRX.inBlock (next0 H v4 v5 ls ds last hf hb)
   have main:∀ n:Nat,n < 12→DRX Tryd.prog (kof k6) 107 (.code c16c::.inBlock 1::.code (.g r6_12 [0,3,4,5,6,7,8])::.inLoop l6_0::k0) [] [(0,v),(3,.sl id3 0 12 (some 12)),(4,v4),(5,v5),(6,.str (rstr ds ls)),(7,.bool last),(8,.int .i64 (i:Nat)),(9,.int .i64 (n:Nat))] H Q:=by
    intro n hn
    obtain ⟨o,hon⟩:∃ o,ops12[n]? = some o:=⟨_,List.getElem?_eq_getElem hn⟩
    have ho:=List.mem_of_getElem? hon
    have hlo:=lv_of ho
    have io:∀ H',aiaddr H' 1 (.sl id3 0 12 (some 12)) (.int .i64 (n:Nat))=some (.ptr id3 n):=fun H'=>by
     simp only [aiaddr]; rw [if_pos (by omega)]; simp
    have lo:=load_cell hf.h3 (o:=n) (v:=.str o) (by rw [List.getElem?_map,hon]; rfl)
    refine DRX.go rfl ?_
    simp -dsimp only [XZ,SZ,EZ,astep,aun,AVal.cells,seval,io,lo]
    refine DRX.go rfl ?_
    simp -dsimp only [XZ,SZ,EZ,astep,aun,AVal.cells,seval]
    refine DCall.monoX (g15 H o) ?_
    rintro a1 H1 ⟨rfl,rfl⟩
    simp -dsimp only [XZ,SZ,EZ,astep,aun,AVal.cells,seval,ix0,ix1]
    have b21:∀ last':Bool,(lv o=3→last=false∧last'=true)→(lv o≠3→last'=last)→DRX Tryd.prog (kof k6) 107 (.code c21c::.inBlock 1::.code (.g r6_12 [0,3,4,5,6,7,8])::.inLoop l6_0::k0) [] [(0,v),(3,.sl id3 0 12 (some 12)),(4,v4),(5,v5),(6,.str (rstr ds ls)),(7,.bool last'),(8,.int .i64 (i:Nat)),(10,.str o),(11,.int .i64 (lv o:Nat))] H1 Q:=by
     intro last' h3 h4
     by_cases hlt3:lv o < 3
     ·have hd:decide (((lv o:Nat):Int) < 3)=true:=decide_eq_true (by omega)
      refine DRX.go rfl ?_
      simp -dsimp only [XZ,SZ,EZ,astep,aun,AVal.cells,seval,lss64,hd]
      refine DRX.ye rfl rfl ?_
      refine DRX.go rfl ?_
      simp -dsimp only [XZ,SZ,EZ,astep,aun,AVal.cells,seval]
      exact DRX.only [0,3,4,5,6,7,8,10] (push6 (last':=false) hf hb (by omega) ho (fun e=>by omega) (fun e=>by omega) (fun H v4 v5 ls ds hf hb=>next H v4 v5 ls ds false hf hb))
     ·have hd:decide (((lv o:Nat):Int) < 3)=false:=decide_eq_false (by omega)
      refine DRX.go rfl ?_
      simp -dsimp only [XZ,SZ,EZ,astep,aun,AVal.cells,seval,lss64,hd]
      refine DRX.ne rfl rfl ?_
      exact DRX.skip (DRX.only [0,3,4,5,6,7,8,10] (push6 (last':=last') hf hb (by omega) ho h3 (fun e=>h4 (by omega)) (fun H v4 v5 ls ds hf hb=>next H v4 v5 ls ds last' hf hb)))
    by_cases h3:lv o=3
    ·have hq:(((lv o:Nat):Int)==3)=true:=by rw [h3]; rfl
     refine DRX.go rfl ?_
     simp -dsimp only [XZ,SZ,EZ,astep,aun,AVal.cells,seval,eql64,hq]
     refine DRX.ye rfl rfl ?_
     cases last with
     | true=>
      refine DRX.go rfl ?_
      simp -dsimp only [XZ,SZ,EZ,astep,aun,AVal.cells,seval]
      refine DRX.ye rfl rfl ?_
      refine DRX.exit rfl ?_
      have hb':BInv (i+1) ls ds true:=⟨hb.len,by have:=hb.le; omega,hb.dig,hb.ops,hb.cmp,hb.fresh⟩
      exact DRX.only [0,3,4,5,6,7,8] (next0 H1 v4 v5 ls ds true hf hb')
     | false=>
      refine DRX.go rfl ?_
      simp -dsimp only [XZ,SZ,EZ,astep,aun,AVal.cells,seval]
      refine DRX.ne rfl rfl ?_
      refine DRX.go rfl ?_
      simp -dsimp only [XZ,SZ,EZ,astep,aun,AVal.cells,seval]
      exact DRX.only [0,3,4,5,6,7,8,10,11] (b21 true (fun _=>⟨rfl,rfl⟩) (fun h=>absurd h3 h))
    ·have hq:(((lv o:Nat):Int)==3)=false:=by simp; omega
     refine DRX.go rfl ?_
     simp -dsimp only [XZ,SZ,EZ,astep,aun,AVal.cells,seval,eql64,hq]
     refine DRX.ne rfl rfl ?_
     exact DRX.skip (DRX.only [0,3,4,5,6,7,8,10,11] (b21 last (fun h=>absurd h h3) (fun _=>rfl)))
   have l12:∀ H',alenT H' 1 (.sl id3 0 12 (some 12))=some 12:=fun _=>rfl
   have hrem:abin .rem (.int .i64 a) (.int .i64 ((12:Nat):Int))=some (.int .i64 (a.tmod 12)):=rfl
   refine DRX.go rfl ?_
   simp -dsimp only [XZ,SZ,EZ,astep,aun,AVal.cells,seval,hlen,lss64,dlt hlt]
   refine DRX.ye rfl rfl ?_
   have hrem':abin .rem (.int .i64 a) (.int .i64 12)=some (.int .i64 (a.tmod 12)):=rfl
   refine DRX.go rfl ?_
   simp -dsimp only [XZ,SZ,EZ,astep,aun,AVal.cells,seval,ix,ld,l12,hrem,hrem']
   have b1:a.tmod 12 < 12:=Int.tmod_lt_of_pos _ (by omega)
   have b2 : -12 < a.tmod 12:=Int.lt_tmod_of_pos _ (by omega)
   by_cases hneg:a.tmod 12 < 0
   ·have hd:decide (a.tmod 12 < 0)=true:=decide_eq_true hneg
    obtain ⟨n,hn⟩:∃ n:Nat,a.tmod 12 = -(n:Int):=⟨(-(a.tmod 12)).toNat,by omega⟩
    have hsub:abin .sub (.int .i64 0) (.int .i64 (a.tmod 12))=some (.int .i64 (n:Nat)):=by
     have e:abin .sub (.int .i64 0) (.int .i64 (a.tmod 12))=some (.int .i64 (IntKind.i64.wrap (0 - a.tmod 12))):=rfl
     rw [e,show (0 - a.tmod 12:Int)=(n:Int) by omega,wrap64 (by omega)]
    refine DRX.go rfl ?_
    simp -dsimp only [XZ,SZ,EZ,astep,aun,AVal.cells,seval,lss64,hd]
    refine DRX.ye rfl rfl ?_
    refine DRX.go rfl ?_
    simp -dsimp only [XZ,SZ,EZ,astep,aun,AVal.cells,seval,hsub]
    exact DRX.only [0,3,4,5,6,7,8,9] (main n (by omega))
   ·have hd:decide (a.tmod 12 < 0)=false:=decide_eq_false hneg
    obtain ⟨n,hn⟩:∃ n:Nat,a.tmod 12=(n:Int):=⟨(a.tmod 12).toNat,by omega⟩
    rw [hn] at hd b1
    simp only [hn]
    refine DRX.go rfl ?_
    simp -dsimp only [XZ,SZ,EZ,astep,aun,AVal.cells,seval,lss64,hd]
    refine DRX.ne rfl rfl ?_
    exact DRX.skip (DRX.only [0,3,4,5,6,7,8,9] (main n (by omega)))
  ·obtain rfl:i=l.length:=by omega
   exact fin H v4 v5 ls ds last hf hb
end
abbrev t6c:ACode:=.seq (.g r6_27 [4,5,14,15]) (.seq (.g r6_28 [14,15,16,17]) (.seq (.g r6_29 [2]) .ret))
theorem g6e {H0 H:AHeap} {id3:Nat} {v4 v5:AVal} {ls:List ByteArray} {ds:List Nat} {last:Bool} {n:Nat} (hn:n≤30) (hf:FInv H0 H id3 v4 v5 ls (ds.map dstr)) (hb:BInv n ls ds last) :
  DRX Tryd.prog (kof k6) 107 [.code t6c] [] [(4,v4),(5,v5),(6,.str (rstr ds ls))] H (fun e ds T' H'=>DLeave Tryd.prog [.tmp 2] ds e T' H' fun o _=>o = .ret (.bool true)):=by
 have hle:=hb.le
 have q2:Rows2 ls ds:=⟨hb.len,by omega,hb.dig,hb.ops,hb.cmp⟩
 have ix0:∀ a b:AVal,([a,b]:List AVal)[0]? = some a:=fun _ _=>rfl
 have ix1:∀ a b:AVal,([a,b]:List AVal)[1]? = some b:=fun _ _=>rfl
 obtain ⟨k1,ksz,_,_⟩:=brkT_ok ls.length ls ds (Nat.le_refl _) q2.len q2.dig q2.ops
 have z1:=rstr_size ls ds q2.len q2.ops
 have z2:=bstr_size _ k1
 have p19:(⟨#[45,109,111,100,117,108,101,40,109,41,46,32,102,40,41,32,45,62,32]⟩:ByteArray).size=19:=rfl
 have p1:(⟨#[46]⟩:ByteArray).size=1:=rfl
 have c1:=cat_small (a:=⟨#[45,109,111,100,117,108,101,40,109,41,46,32,102,40,41,32,45,62,32]⟩) (b:=rstr ds ls) (by omega)
 have c2:=cat_small (a:=⟨#[45,109,111,100,117,108,101,40,109,41,46,32,102,40,41,32,45,62,32]⟩++rstr ds ls) (b:=⟨#[46]⟩) (by rw [ByteArray.size_append]; omega)
 obtain ⟨W1,hW1⟩:∃ W1,W1=(⟨#[45,109,111,100,117,108,101,40,109,41,46,32,102,40,41,32,45,62,32]⟩++rstr ds ls)++(⟨#[46]⟩:ByteArray):=⟨_,rfl⟩
 have s1:W1.size≤1000:=by rw [hW1,ByteArray.size_append,ByteArray.size_append]; omega
 rw [← hW1] at c2
 refine DRX.go rfl ?_
 simp -dsimp only [XZ,SZ,EZ,astep,aun,AVal.cells,seval,c1,c2]
 refine (g10 (s:=W1) (by omega)).mono ?_
 rintro o H1 ⟨r,x,hp,rfl,ht,e1⟩
 obtain ⟨nd,rfl,her⟩:=row_parse q2 (by rw [hW1] at hp; exact hp)
 obtain ⟨H2,H3,H4,H5,f2,f3,f4,f5,e5,g51,g52,n2⟩:=pair34 (H1:=H1) (x:=x) (i:=(brkT ls.length ds ls).size+5) (e:=0) (p:=0) (ht.one.2 _)
 simp -dsimp only [XZ,SZ,EZ,astep,aun,AVal.cells,seval,Parsed.root,Parsed.e,Parsed.p,ix0,ix1,f2,f3,f4,f5]
 have gg:=e1.trans e5
 have rv:RW H5 v5 (ds.map dstr):=(hf.sw.frame fun j hj=>gg.2 j (hf.sw.lt hj)).rw
 have rw4:RW H5 v4 ls:=(hf.sv.frame fun j hj=>gg.2 j (hf.sv.lt hj)).rw
 refine DRX.go rfl ?_
 simp -dsimp only [XZ,SZ,EZ,astep,aun,AVal.cells,seval]
 refine DCall.monoX (g16 (H:=H5) ls.length ls ds v5 v4 (Nat.le_refl _) q2.le q2.len q2.dig q2.ops rv rw4) ?_
 rintro a H6 ⟨rfl,rfl⟩
 have c3:=cat_small (a:=⟨#[45,109,111,100,117,108,101,40,109,41,46,32,102,40,41,32,45,62,32]⟩) (b:=bstr (brkT ls.length ds ls)) (by omega)
 have c4:=cat_small (a:=⟨#[45,109,111,100,117,108,101,40,109,41,46,32,102,40,41,32,45,62,32]⟩++bstr (brkT ls.length ds ls)) (b:=⟨#[46]⟩) (by rw [ByteArray.size_append]; omega)
 obtain ⟨W2,hW2⟩:∃ W2,W2=(⟨#[45,109,111,100,117,108,101,40,109,41,46,32,102,40,41,32,45,62,32]⟩++bstr (brkT ls.length ds ls))++(⟨#[46]⟩:ByteArray):=⟨_,rfl⟩
 have s2:W2.size≤1000:=by rw [hW2,ByteArray.size_append,ByteArray.size_append]; omega
 rw [← hW2] at c4
 simp -dsimp only [XZ,SZ,EZ,astep,aun,AVal.cells,seval,c3,c4]
 refine (g10 (s:=W2) (by omega)).mono ?_
 rintro o H7 ⟨r,y,hp2,rfl,ht2,e7⟩
 obtain ⟨nd2,rfl,her2⟩:=brk_parse q2 (by rw [hW2] at hp2; exact hp2)
 obtain ⟨H8,H9,H10,H11,f8,f9,f10,f11,e11,g111,g112,n8⟩:=pair34 (H1:=H7) (x:=y) (i:=(brkT ls.length ds ls).size+5) (e:=0) (p:=0) (ht2.one.2 _)
 simp -dsimp only [XZ,SZ,EZ,astep,aun,AVal.cells,seval,Parsed.root,Parsed.e,Parsed.p,ix0,ix1,f8,f9,f10,f11]
 have kk:=e7.trans e11
 have la:=load_all (n:=2) (kk.get g52) rfl
 have lb:=load_all (n:=2) g112 rfl
 have lt1:=load_all (n:=2) (kk.get g51) rfl
 have lt2:=load_all (n:=2) g111 rfl
 have hz:afill [.int .i64 0,.int .i64 0] []=some [.int .i64 0,.int .i64 0]:=rfl
 have hq:aeqs [1,1] [.int .i64 0,.int .i64 0] [.int .i64 0,.int .i64 0]=some true:=rfl
 have x01:(false ^^ true)=true:=rfl
 have tx:TreeR H11 x nd:=(ht.gro e5).gro kk
 have ty:TreeR H11 y nd2:=ht2.gro e11
 obtain ⟨ml,mn⟩:=modN_of her
 refine DRX.go rfl ?_
 simp -dsimp only [XZ,SZ,EZ,astep,aun,AVal.cells,seval,la,lb,Env.parts,hz,hq,x01,lt1,lt2]
 refine DCall.monoX (g11 (root:=(brkT ls.length ds ls).size+5) tx ty (her.trans her2.symm) (by omega) mn) ?_
 rintro a H12 ⟨rfl,k12⟩
 simp -dsimp only [XZ,SZ,EZ,astep,aun,AVal.cells,seval]
 refine DRX.nm rfl ?_
 exact DRX.retv ⟨_,by simp [aresult,ares,Env.get] <;> rfl,rfl⟩
theorem g6 (H:AHeap) {v:AVal} {l:List Int} (hv:PK v l):DCallX Tryd.prog 6 [v] H fun o H'=>o = .ret (.bool true):=by
 refine DCallX.of_body (fn:=Tryd.f6) (by kernel_rfl) c6 (by kernel_rfl) (by simp [f6]) ?_
 unfold f6
 simp only []
 refine DRX.go rfl ?_
 simp -dsimp only [XZ,SZ,EZ,astep,aun,AVal.cells,seval]
 refine DRX.go rfl ?_
 simp -dsimp only [XZ,SZ,EZ,astep,aun,AVal.cells,seval]
 refine (g8 H).mono ?_
 rintro o H0 ⟨rfl,k0⟩
 simp -dsimp only [XZ,SZ,EZ,astep,aun,AVal.cells,seval,Bool.not_true]
 refine DRX.ne rfl rfl ?_
 have hlen:=fun H=>hv.len H
 by_cases hbig:((l.length:Nat):Int) > 30
 ·have hb:decide (((l.length:Nat):Int) > 30)=true:=decide_eq_true hbig
  refine DRX.go rfl ?_
  simp -dsimp only [XZ,SZ,EZ,astep,aun,AVal.cells,seval,hlen,gtr64,hb]
  refine DRX.ye rfl rfl ?_
  refine DRX.go rfl ?_
  simp -dsimp only [XZ,SZ,EZ,astep,aun,AVal.cells,seval]
  refine DRX.nm rfl ?_
  exact DRX.retv ⟨_,by simp [aresult,ares,Env.get] <;> rfl,rfl⟩
 ·have hb:decide (((l.length:Nat):Int) > 30)=false:=decide_eq_false hbig
  refine DRX.go rfl ?_
  simp -dsimp only [XZ,SZ,EZ,astep,aun,AVal.cells,seval,hlen,gtr64,hb]
  refine DRX.ne rfl rfl ?_
  refine DRX.go rfl ?_
  simp -dsimp only [XZ,SZ,EZ,astep,aun,AVal.cells,seval]
  refine DCall.monoX (g14 H0) ?_
  rintro a H1 ⟨rfl,hH1⟩
  simp -dsimp only [XZ,SZ,EZ,astep,aun,AVal.cells,seval]
  obtain ⟨H2,hH2,g2,n2,f2⟩:=psh H1 (.cells 9 [.str ⟨#[48]⟩])
  have g1:H1.get H0.next=some (.cells 9 (ops12.map .str)):=by rw [hH1,AHeap.get_push,if_pos rfl]
  have n1:H1.next=H0.next+1:=by rw [hH1]; rfl
  have f1:∀ j,j < H0.next→H1.get j=H0.get j:=fun j hj=>by rw [hH1,AHeap.get_push,if_neg (by omega)]
  have hz:afill [.str ⟨#[]⟩] [(0,1,.str ⟨#[48]⟩)]=some [.str ⟨#[48]⟩]:=rfl
  refine DRX.go rfl ?_
  simp -dsimp only [XZ,SZ,EZ,astep,aun,AVal.cells,seval]
  refine DRX.go rfl ?_
  simp -dsimp only [XZ,SZ,EZ,astep,aun,AVal.cells,seval,Env.parts,hz,← hH2]
  refine DRX.go rfl ?_
  simp -dsimp only [XZ,SZ,EZ,astep,aun,AVal.cells,seval]
  refine DRX.go rfl ?_
  simp -dsimp only [XZ,SZ,EZ,astep,aun,AVal.cells,seval]
  refine DRX.go rfl ?_
  simp -dsimp only [XZ,SZ,EZ,astep,aun,AVal.cells,seval]
  have fi:FInv H0 H2 H0.next .nils (.sl H1.next 0 1 (some 1)) [] ([0].map dstr):=
   ⟨⟨by omega,fun j hj=>by rw [f2 j (by omega),f1 j hj]⟩,Nat.le_refl _,(f2 _ (by omega)).trans g1,.inl ⟨rfl,rfl⟩,.inr ⟨H1.next,some 1,rfl,.inr rfl,g2⟩,fun j hj=>(by cases hj),fun j hj=>(by simp only [rid,Option.some.injEq] at hj; omega),fun j hj=>(by cases hj)⟩
  have bi:BInv 0 [] [0] false:=⟨rfl,Nat.le_refl _,fun d hd=>(by rw [List.mem_singleton.mp hd]; omega),fun o ho=>(by cases ho),fun a b h1 h2=>(by simp at h2),fun _ a ha=>(by simp at ha)⟩
  refine DRX.nm rfl ?_
  refine DRX.loop ?_
  refine loop6 (l:=l) rfl hv (by omega) ?_ l.length 0 H2 .nils (.sl H1.next 0 1 (some 1)) [] [0] false (by omega) (Nat.zero_le _) fi bi
  intro H' v4 v5 ls ds last hf hb'
  exact g6e (by omega) hf hb'
end Go.Am.Rl
namespace Go.Am
theorem DCallX.call {P:Program} {f:FuncId} {args:List AVal} {H:AHeap} {Q:AVal→AHeap→Prop} (h:DCallX P f args H fun o H'=>∃ v,o = .ret v∧Q v H'):CallEv P f args H Q:=by
 obtain ⟨o,H1,⟨v,rfl,hq⟩,hc,hd⟩:=h
 intro w ro μ argv hg ha
 refine (hd w ro μ argv hg ha).mono fun e w' ⟨o,H',ro',μ',⟨e1,e2⟩,ho,hg',hout⟩=> ?_
 subst e1; subst e2
 obtain ⟨v',h1,h2⟩:=ho
 exact ⟨v',v,_,ro',μ',h1,hq,h2,hg',hout⟩
end Go.Am
