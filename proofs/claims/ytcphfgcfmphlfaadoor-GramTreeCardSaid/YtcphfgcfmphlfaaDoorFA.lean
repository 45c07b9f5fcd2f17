/- Parts: Fn. -/
import Derived.Test.YtcphfgcfmphlfaaDoorAmP
import Derived.Test.YtcphfgcfmphlfaaDoorProg
set_option linter.unusedVariables false
set_option maxRecDepth 20000
namespace Go.Am.Rl
open Go.Proofs
abbrev r9_0:List AOper:=[
 oo 2 (.mv (.c (.nils))) [],
 oo 3 (.alloc 26 (.agg [.int .i64 0,.int .i64 0])) []]
abbrev r9_1:List AOper:=[
 oo 9 (.mv (.t 0)) [],
 oo 10 (.len 0 (.t 9)) [0],
 oo 11 (.bin .gtr (.t 10) (.c (.int .i64 65536))) [1]]
abbrev r9_2:List AOper:=[
 oo 12 (.build [.int .i64 0,.int .i64 0] [(0,1,(.c (.int .i64 3)))]) [],
 oo 2 (.mv (.c (.nils))) [],
 on (.store 2 (.t 3) (.t 12)) [0,1,0,1]]
abbrev r9_3:List AOper:=[
 oo 13 (.mv (.t 0)) [],
 oo 14 (.build [.str ⟨#[]⟩,.int .i64 0,.int .i64 0] [(0,1,(.t 13))]) [0],
 oo 15 (.box 54 (.t 14)) [1],
 oo 4 (.mv (.t 15)) [2,0,1,2]]
abbrev r9_4:List AOper:=[
 oo 5 (.mv (.c (.nils))) []]
abbrev r9_5:List AOper:=[
 oo 16 (.mv (.t 4)) [],
 oo 17 (.nilchk (.t 16)) [0],
 oo 18 (.faddr 1 (.t 17)) [1],
 oo 19 (.load none (.t 18)) [2],
 oo 20 (.mv (.t 0)) [],
 oo 21 (.len 0 (.t 20)) [4],
 oo 22 (.bin .lss (.t 19) (.t 21)) [3,5]]
abbrev r9_6:List AOper:=[
 oo 23 (.mv (.t 0)) [],
 oo 24 (.mv (.t 4)) [],
 oo 25 (.nilchk (.t 24)) [1],
 oo 26 (.faddr 1 (.t 25)) [2],
 oo 27 (.load none (.t 26)) [3],
 oo 28 (.idxS (.t 23) (.t 27)) [0,4],
 oo 6 (.mv (.t 28)) [5,0,1,2,3,4,5]]
abbrev r9_7:List AOper:=[
 oo 30 (.mv (.t 6)) [],
 oo 31 (.bin .eql (.t 30) (.c (.int .u8 32))) [0],
 oo 32 (.mv (.t 31)) [1],
 og 33 (.mv (.t 6)) 32 false [2],
 og 34 (.bin .eql (.t 33) (.c (.int .u8 9))) 32 false [3,2],
 oo 35 (.pick (.t 32) (.c (.bool true)) (.t 34)) [2,4],
 oo 36 (.mv (.t 35)) [5,2],
 og 37 (.mv (.t 6)) 36 false [6],
 og 38 (.bin .eql (.t 37) (.c (.int .u8 10))) 36 false [7,6],
 oo 39 (.pick (.t 36) (.c (.bool true)) (.t 38)) [6,8],
 oo 40 (.mv (.t 39)) [9,6],
 og 41 (.mv (.t 6)) 40 false [10],
 og 42 (.bin .eql (.t 41) (.c (.int .u8 13))) 40 false [11,10],
 oo 43 (.pick (.t 40) (.c (.bool true)) (.t 42)) [10,12],
 oo 29 (.mv (.t 43)) [13,10]]
abbrev r9_8:List AOper:=[
 oo 44 (.mv (.t 4)) [],
 oo 45 (.nilchk (.t 44)) [0],
 oo 46 (.faddr 1 (.t 45)) [1],
 oo 47 (.load none (.t 46)) [2],
 oo 48 (.bin .add (.t 47) (.c (.int .i64 1))) [3],
 oo 49 (.nilchk (.t 44)) [0,0,1,2,3,4],
 oo 50 (.faddr 1 (.t 49)) [5,0,1,2,3,4],
 on (.store 1 (.t 50) (.t 48)) [6,4,0,1,2,3,4]]
abbrev r9_9:List AOper:=[
 oo 52 (.mv (.t 6)) [],
 oo 53 (.bin .eql (.t 52) (.c (.int .u8 37))) [0],
 oo 51 (.mv (.t 53)) [1]]
abbrev r9_10:List AOper:=[
 oo 54 (.mv (.t 4)) [],
 oo 55 (.mv (.t 4)) [],
 oo 56 (.mv (.t 4)) [],
 oo 57 (.nilchk (.t 56)) [2],
 oo 58 (.faddr 1 (.t 57)) [3],
 oo 59 (.load none (.t 58)) [4],
 oo 60 (.callF 17 [(.t 55),(.t 59),(.c (.fn (.func 18) [] []))]) [1,5],
 oo 61 (.nilchk (.t 54)) [0,0,1,2,3,4,5,6],
 oo 62 (.faddr 1 (.t 61)) [7,0,1,2,3,4,5,6],
 on (.store 1 (.t 62) (.t 60)) [8,6,6,0,1,2,3,4,5,6]]
abbrev r9_11:List AOper:=[
 oo 64 (.mv (.t 4)) [],
 oo 65 (.callF 19 [(.t 64)]) [0],
 oo 63 (.mv (.t 65)) [1],
 oo 66 (.extract (.t 63) 0) [2],
 oo 67 (.extract (.t 63) 1) [2],
 oo 7 (.alloc 31 (.agg [.int .i64 0,.str ⟨#[]⟩,.int .i64 0,.flt .f64 0,.int .i64 0])) [],
 on (.store 5 (.t 7) (.t 66)) [5,3,1,0,1,2,3,5],
 oo 8 (.mv (.t 67)) [4,6,0,1,2,3,4,5,6]]
abbrev r9_12:List AOper:=[
 oo 68 (.mv (.t 4)) [],
 oo 69 (.nilchk (.t 68)) [0],
 oo 70 (.faddr 2 (.t 69)) [1],
 oo 71 (.load none (.t 70)) [2],
 oo 72 (.bin .neq (.t 71) (.c (.int .i64 0))) [3]]
abbrev r9_13:List AOper:=[
 oo 73 (.mv (.t 4)) [],
 oo 74 (.nilchk (.t 73)) [0],
 oo 75 (.faddr 2 (.t 74)) [1],
 oo 76 (.load none (.t 75)) [2],
 oo 77 (.mv (.t 4)) [],
 oo 78 (.nilchk (.t 77)) [4],
 oo 79 (.faddr 1 (.t 78)) [5],
 oo 80 (.load none (.t 79)) [6],
 oo 81 (.build [.int .i64 0,.int .i64 0] [(0,1,(.t 76)),(1,1,(.t 80))]) [3,7],
 oo 2 (.mv (.c (.nils))) [],
 on (.store 2 (.t 3) (.t 81)) [8,9,0,1,2,3,4,5,6,7,8,9]]
abbrev r9_14:List AOper:=[
 oo 82 (.mv (.t 4)) [],
 oo 83 (.nilchk (.t 82)) [0],
 oo 84 (.faddr 1 (.t 83)) [1],
 oo 85 (.load none (.t 84)) [2],
 oo 86 (.faddr 4 (.t 7)) [0,1,2,3],
 on (.store 1 (.t 86) (.t 85)) [4,3,0,1,2,3]]
abbrev r9_15:List AOper:=[
 oo 87 (.mv (.t 5)) [],
 oo 88 (.load (some 5) (.t 7)) [],
 oo 89 (.bslice 31 1 [.int .i64 0,.str ⟨#[]⟩,.int .i64 0,.flt .f64 0,.int .i64 0] [(0,5,(.t 88))]) [1],
 oo 90 (.app 31 5 48 (.t 87) (.t 89)) [0,2],
 oo 5 (.mv (.t 90)) [3,3,0,1,2,3]]
abbrev r9_16:List AOper:=[
 oo 91 (.mv (.t 4)) [],
 oo 92 (.mv (.t 8)) [],
 oo 93 (.nilchk (.t 91)) [0,0,1],
 oo 94 (.faddr 1 (.t 93)) [2,0,1],
 on (.store 1 (.t 94) (.t 92)) [3,1,0,1]]
def l9_0:ACode:=
 .seq (
 .seq (
 .region false r9_5 [0,3,4,5,22]) (
 .cond (.t 22) (
  .skip) (
  .exit 0))) (
 .block 1 (
  .seq (
  .seq (
  .region false r9_6 [0,3,4,5,6]) (
  .block 2 (
   .seq (
   .region false r9_7 [0,3,4,5,6,29]) (
   .cond (.t 29) (
    .seq (
    .region false r9_8 [0,3,4,5]) (
    .exit 1)) (
    .seq (
    .region false r9_9 [0,3,4,5,51]) (
    .cond (.t 51) (
     .seq (
     .region false r9_10 [0,3,4,5]) (
     .exit 1)) (
     .skip))))))) (
  .seq (
  .region false r9_11 [0,3,4,5,7,8]) (
  .seq (
  .seq (
  .region false r9_12 [0,3,4,5,7,8,72]) (
  .cond (.t 72) (
   .seq (
   .region true r9_13 [2,3]) (
   .ret)) (
   .skip))) (
  .seq (
  .region false r9_14 [0,3,4,5,7,8]) (
  .seq (
  .region false r9_15 [0,3,4,5,8]) (
  .region false r9_16 [0,3,4,5])))))))
abbrev r9_17:List AOper:=[
 oo 95 (.mv (.t 5)) [],
 oo 96 (.mv (.t 0)) [],
 oo 97 (.len 0 (.t 96)) [1],
 oo 98 (.build [.int .i64 0,.str ⟨#[]⟩,.int .i64 0,.flt .f64 0,.int .i64 0] [(0,1,(.c (.int .i64 8))),(4,1,(.t 97))]) [2],
 oo 99 (.bslice 31 1 [.int .i64 0,.str ⟨#[]⟩,.int .i64 0,.flt .f64 0,.int .i64 0] [(0,5,(.t 98))]) [3],
 oo 100 (.app 31 5 48 (.t 95) (.t 99)) [0,4],
 oo 101 (.build [.int .i64 0,.int .i64 0] []) [],
 oo 2 (.mv (.t 100)) [5,5,0,1,2,3,4,5],
 on (.store 2 (.t 3) (.t 101)) [6,7,0,1,2,3,4,5,6,7]]
def m9_13:List Nat:=[0,1,3,7,0,16,48,112,255,0,1023]
theorem d9_13:okDraw r9_13 m9_13=true:=by kernel_rfl
def k9:List (List Nat):=[[0,3],[0,3,11],[2,3],[0,3,4],[0,3,4,5],[0,3,4,5,22],[0,3,4,5,6],[0,3,4,5,6,29],[0,3,4,5],[0,3,4,5,51],[0,3,4,5],[0,3,4,5,7,8],[0,3,4,5,7,8,72],[2,3],[0,3,4,5,7,8],[0,3,4,5,8],[0,3,4,5],[2,3]]
def f9:AFunc:={ ntmps:=102,results:=[.tmp 2,.cell 3 (some 2)],body:=(
 .seq (
 .region false r9_0 [0,3]) (
 .scope (
  .seq (
  .seq (
  .region false r9_1 [0,3,11]) (
  .cond (.t 11) (
   .seq (
   .region false r9_2 [2,3]) (
   .ret)) (
   .skip))) (
  .seq (
  .region false r9_3 [0,3,4]) (
  .seq (
  .region false r9_4 [0,3,4,5]) (
  .seq (
  .label 0) (
  .seq (
  .block 0 (
   .loop l9_0)) (
  .seq (
  .region false r9_17 [2,3]) (
  .ret))))))))) }
theorem c9:cfunc Tryd.prog (kof k9) Tryd.f9=some f9:=by kernel_rfl
abbrev r17_0:List AOper:=[
 oo 6 (.mv (.c (.int .i64 0))) []]
abbrev r17_1:List AOper:=[
 oo 7 (.mv (.t 1)) [],
 oo 8 (.mv (.t 0)) [],
 oo 9 (.nilchk (.t 8)) [1],
 oo 10 (.faddr 0 (.t 9)) [2],
 oo 11 (.load none (.t 10)) [3],
 oo 12 (.len 0 (.t 11)) [4],
 oo 13 (.bin .lss (.t 7) (.t 12)) [0,5],
 oo 14 (.mv (.t 13)) [6],
 og 15 (.mv (.t 2)) 14 true [7],
 og 16 (.mv (.t 0)) 14 true [7],
 og 17 (.nilchk (.t 16)) 14 true [9,7],
 og 18 (.faddr 0 (.t 17)) 14 true [10,7],
 og 19 (.load none (.t 18)) 14 true [11,7],
 og 20 (.mv (.t 1)) 14 true [7],
 og 21 (.idxS (.t 19) (.t 20)) 14 true [12,13,7],
 og 22 (.callV (.t 15) [(.t 21)]) 14 true [8,14,7,7],
 oo 23 (.pick (.t 14) (.t 22) (.c (.bool false))) [7,15]]
abbrev r17_2:List AOper:=[
 oo 24 (.mv (.t 1)) [],
 oo 25 (.bin .add (.t 24) (.c (.int .i64 1))) [0],
 oo 1 (.mv (.t 25)) [1,0,1]]
def l17_0:ACode:=
 .seq (
 .seq (
 .region false r17_1 [0,1,2,23]) (
 .cond (.t 23) (
  .skip) (
  .exit 0))) (
 .block 1 (
  .region false r17_2 [0,1,2]))
abbrev r17_3:List AOper:=[
 oo 26 (.mv (.t 1)) [],
 oo 6 (.mv (.t 26)) [0,0]]
def k17:List (List Nat):=[[0,1,2],[0,1,2,23],[0,1,2],[6]]
def f17:AFunc:={ ntmps:=27,results:=[.tmp 6],body:=(
 .seq (
 .region false r17_0 [0,1,2]) (
 .seq (
 .block 0 (
  .loop l17_0)) (
 .seq (
 .region false r17_3 [6]) (
 .ret)))) }
theorem c17:cfunc Tryd.prog (kof k17) Tryd.f17=some f17:=by kernel_rfl
abbrev r18_0:List AOper:=[
 oo 2 (.mv (.c (.bool false))) []]
abbrev r18_1:List AOper:=[
 oo 3 (.mv (.t 0)) [],
 oo 4 (.bin .neq (.t 3) (.c (.int .u8 10))) [0],
 oo 2 (.mv (.t 4)) [1,0,1]]
def k18:List (List Nat):=[[0],[2]]
def f18:AFunc:={ ntmps:=5,results:=[.tmp 2],body:=(
 .seq (
 .region false r18_0 [0]) (
 .seq (
 .region false r18_1 [2]) (
 .ret))) }
theorem c18:cfunc Tryd.prog (kof k18) Tryd.f18=some f18:=by kernel_rfl
abbrev r19_0:List AOper:=[
 oo 2 (.alloc 31 (.agg [.int .i64 0,.str ⟨#[]⟩,.int .i64 0,.flt .f64 0,.int .i64 0])) [],
 oo 3 (.mv (.c (.int .i64 0))) []]
abbrev r19_1:List AOper:=[
 oo 6 (.mv (.t 0)) [],
 oo 7 (.nilchk (.t 6)) [0],
 oo 8 (.faddr 0 (.t 7)) [1],
 oo 9 (.load none (.t 8)) [2],
 oo 10 (.mv (.t 0)) [],
 oo 11 (.nilchk (.t 10)) [4],
 oo 12 (.faddr 1 (.t 11)) [5],
 oo 13 (.load none (.t 12)) [6],
 oo 14 (.idxS (.t 9) (.t 13)) [3,7],
 oo 4 (.mv (.c (.str ⟨#[]⟩))) [],
 oo 5 (.mv (.t 14)) [8,9,0,1,2,3,4,5,6,7,8,9]]
abbrev r19_2:List AOper:=[
 oo 16 (.mv (.t 5)) [],
 oo 17 (.callF 24 [(.t 16)]) [0],
 oo 15 (.mv (.t 17)) [1,1]]
abbrev r19_3:List AOper:=[
 oo 19 (.mv (.t 5)) [],
 oo 20 (.callF 25 [(.t 19)]) [0],
 oo 21 (.mv (.t 20)) [1,1],
 og 22 (.mv (.t 5)) 21 false [2],
 og 23 (.bin .eql (.t 22) (.c (.int .u8 95))) 21 false [3,2],
 oo 24 (.pick (.t 21) (.c (.bool true)) (.t 23)) [2,4],
 oo 18 (.mv (.t 24)) [5,2]]
abbrev r19_4:List AOper:=[
 oo 26 (.mv (.t 5)) [],
 oo 27 (.callF 26 [(.t 26)]) [0],
 oo 25 (.mv (.t 27)) [1,1]]
abbrev r19_5:List AOper:=[
 oo 28 (.mv (.t 0)) [],
 oo 29 (.callF 27 [(.t 28)]) [0],
 oo 30 (.extract (.t 29) 0) [1],
 oo 31 (.extract (.t 29) 1) [1],
 on (.store 5 (.t 2) (.t 30)) [2,1,0,1,2,3],
 oo 3 (.mv (.t 31)) [3,4,0,1,2,3,4]]
abbrev r19_6:List AOper:=[
 oo 33 (.mv (.t 5)) [],
 oo 34 (.bin .eql (.t 33) (.c (.int .u8 35))) [0],
 oo 32 (.mv (.t 34)) [1]]
abbrev r19_7:List AOper:=[
 oo 35 (.mv (.t 0)) [],
 oo 36 (.callF 28 [(.t 35)]) [0],
 oo 37 (.extract (.t 36) 0) [1],
 oo 38 (.extract (.t 36) 1) [1],
 on (.store 5 (.t 2) (.t 37)) [2,1,0,1,2,3],
 oo 3 (.mv (.t 38)) [3,4,0,1,2,3,4]]
abbrev r19_8:List AOper:=[
 oo 40 (.mv (.t 5)) [],
 oo 41 (.bin .eql (.t 40) (.c (.int .u8 39))) [0],
 oo 39 (.mv (.t 41)) [1]]
abbrev r19_9:List AOper:=[
 oo 43 (.mv (.t 5)) [],
 oo 44 (.bin .eql (.t 43) (.c (.int .u8 34))) [0],
 oo 42 (.mv (.t 44)) [1]]
abbrev r19_10:List AOper:=[
 oo 46 (.mv (.t 0)) [],
 oo 47 (.mv (.t 5)) [],
 oo 48 (.callF 29 [(.t 46),(.t 47)]) [0,1],
 oo 45 (.mv (.t 48)) [2],
 oo 49 (.extract (.t 45) 0) [3],
 oo 50 (.extract (.t 45) 1) [3],
 oo 4 (.mv (.t 49)) [4,2,0,1,2,3,4],
 oo 3 (.mv (.t 50)) [5,6,0,1,2,3,4,5,6]]
abbrev r19_11:List AOper:=[
 oo 51 (.mv (.t 4)) [],
 oo 52 (.build [.int .i64 0,.str ⟨#[]⟩,.int .i64 0,.flt .f64 0,.int .i64 0] [(0,1,(.c (.int .i64 5))),(1,1,(.t 51))]) [0],
 oo 53 (.mv (.t 3)) [],
 on (.store 5 (.t 2) (.t 52)) [1,0,1],
 oo 3 (.mv (.t 53)) [2,3,0,1,2,3]]
abbrev r19_12:List AOper:=[
 oo 54 (.mv (.t 0)) [],
 oo 55 (.callF 30 [(.t 54)]) [0],
 oo 4 (.mv (.t 55)) [1,1,0,1]]
abbrev r19_13:List AOper:=[
 oo 56 (.mv (.t 4)) [],
 oo 57 (.bin .eql (.t 56) (.c (.str ⟨#[]⟩))) [0]]
abbrev r19_14:List AOper:=[
 oo 58 (.mv (.t 0)) [],
 oo 59 (.nilchk (.t 58)) [0,0],
 oo 60 (.faddr 2 (.t 59)) [1,0],
 on (.store 1 (.t 60) (.c (.int .i64 21))) [2,0]]
abbrev r19_15:List AOper:=[
 oo 61 (.mv (.t 4)) [],
 oo 62 (.build [.int .i64 0,.str ⟨#[]⟩,.int .i64 0,.flt .f64 0,.int .i64 0] [(0,1,(.c (.int .i64 6))),(1,1,(.t 61))]) [0],
 oo 63 (.mv (.t 0)) [],
 oo 64 (.nilchk (.t 63)) [2],
 oo 65 (.faddr 1 (.t 64)) [3],
 oo 66 (.load none (.t 65)) [4],
 oo 67 (.mv (.t 4)) [],
 oo 68 (.len 0 (.t 67)) [6],
 oo 69 (.bin .add (.t 66) (.t 68)) [5,7],
 on (.store 5 (.t 2) (.t 62)) [1,0,1],
 oo 3 (.mv (.t 69)) [8,9,0,1,2,3,4,5,6,7,8,9]]
abbrev r19_16:List AOper:=[
 oo 70 (.mv (.t 0)) [],
 oo 71 (.mv (.t 0)) [],
 oo 72 (.nilchk (.t 71)) [1],
 oo 73 (.faddr 1 (.t 72)) [2],
 oo 74 (.load none (.t 73)) [3],
 oo 75 (.callF 17 [(.t 70),(.t 74),(.c (.fn (.func 31) [] []))]) [0,4],
 oo 3 (.mv (.t 75)) [5,5,0,1,2,3,4,5]]
abbrev r19_17:List AOper:=[
 oo 76 (.mv (.t 0)) [],
 oo 77 (.nilchk (.t 76)) [0],
 oo 78 (.faddr 0 (.t 77)) [1],
 oo 79 (.load none (.t 78)) [2],
 oo 80 (.mv (.t 0)) [],
 oo 81 (.nilchk (.t 80)) [4],
 oo 82 (.faddr 1 (.t 81)) [5],
 oo 83 (.load none (.t 82)) [6],
 oo 84 (.mv (.t 3)) [],
 oo 85 (.slcS (.t 79) (some (.t 83)) (some (.t 84))) [3,7,8],
 oo 4 (.mv (.t 85)) [9,0,1,2,3,4,5,6,7,8,9]]
abbrev r19_18:List AOper:=[
 oo 86 (.mv (.t 4)) [],
 oo 87 (.callF 32 [(.t 86)]) [0]]
abbrev r19_19:List AOper:=[
 oo 88 (.mv (.t 4)) [],
 oo 89 (.build [.int .i64 0,.str ⟨#[]⟩,.int .i64 0,.flt .f64 0,.int .i64 0] [(0,1,(.c (.int .i64 7))),(1,1,(.t 88))]) [0],
 oo 90 (.mv (.t 3)) [],
 on (.store 5 (.t 2) (.t 89)) [1,0,1],
 oo 3 (.mv (.t 90)) [2,3,0,1,2,3]]
abbrev r19_20:List AOper:=[
 oo 91 (.mv (.t 0)) [],
 oo 92 (.mv (.t 0)) [],
 oo 93 (.nilchk (.t 92)) [1],
 oo 94 (.faddr 1 (.t 93)) [2],
 oo 95 (.load none (.t 94)) [3],
 oo 96 (.callF 17 [(.t 91),(.t 95),(.c (.fn (.func 31) [] []))]) [0,4],
 oo 3 (.mv (.t 96)) [5,5,0,1,2,3,4,5]]
abbrev r19_21:List AOper:=[
 oo 97 (.mv (.t 0)) [],
 oo 98 (.nilchk (.t 97)) [0],
 oo 99 (.faddr 0 (.t 98)) [1],
 oo 100 (.load none (.t 99)) [2],
 oo 101 (.mv (.t 0)) [],
 oo 102 (.nilchk (.t 101)) [4],
 oo 103 (.faddr 1 (.t 102)) [5],
 oo 104 (.load none (.t 103)) [6],
 oo 105 (.mv (.t 3)) [],
 oo 106 (.slcS (.t 100) (some (.t 104)) (some (.t 105))) [3,7,8],
 oo 107 (.build [.int .i64 0,.str ⟨#[]⟩,.int .i64 0,.flt .f64 0,.int .i64 0] [(0,1,(.c (.int .i64 2))),(1,1,(.t 106))]) [9],
 oo 108 (.mv (.t 3)) [],
 on (.store 5 (.t 2) (.t 107)) [10,0,1,2,3,4,5,6,7,8,9,10],
 oo 3 (.mv (.t 108)) [11,12,0,1,2,3,4,5,6,7,8,9,10,11,12]]
abbrev r19_22:List AOper:=[
 oo 110 (.mv (.t 0)) [],
 oo 111 (.mv (.t 5)) [],
 oo 112 (.callF 29 [(.t 110),(.t 111)]) [0,1],
 oo 109 (.mv (.t 112)) [2],
 oo 113 (.extract (.t 109) 0) [3],
 oo 114 (.extract (.t 109) 1) [3],
 oo 4 (.mv (.t 113)) [4,2,0,1,2,3,4],
 oo 3 (.mv (.t 114)) [5,6,0,1,2,3,4,5,6]]
abbrev r19_23:List AOper:=[
 oo 115 (.mv (.t 0)) [],
 oo 116 (.nilchk (.t 115)) [0],
 oo 117 (.faddr 2 (.t 116)) [1],
 oo 118 (.load none (.t 117)) [2],
 oo 119 (.bin .eql (.t 118) (.c (.int .i64 0))) [3],
 oo 120 (.mv (.t 119)) [4],
 og 121 (.mv (.t 4)) 120 true [5],
 og 122 (.len 0 (.t 121)) 120 true [6,5],
 og 123 (.bin .gtr (.t 122) (.c (.int .i64 64))) 120 true [7,5],
 oo 124 (.pick (.t 120) (.t 123) (.c (.bool false))) [5,8]]
abbrev r19_24:List AOper:=[
 oo 125 (.mv (.t 0)) [],
 oo 126 (.nilchk (.t 125)) [0,0],
 oo 127 (.faddr 2 (.t 126)) [1,0],
 on (.store 1 (.t 127) (.c (.int .i64 23))) [2,0]]
abbrev r19_25:List AOper:=[
 oo 128 (.mv (.t 4)) [],
 oo 129 (.build [.int .i64 0,.str ⟨#[]⟩,.int .i64 0,.flt .f64 0,.int .i64 0] [(0,1,(.c (.int .i64 1))),(1,1,(.t 128))]) [0],
 oo 130 (.mv (.t 3)) [],
 on (.store 5 (.t 2) (.t 129)) [1,0,1],
 oo 3 (.mv (.t 130)) [2,3,0,1,2,3]]
def m19_1:List Nat:=[0,1,3,7,0,16,48,112,255,0,1023]
theorem d19_1:okDraw r19_1 m19_1=true:=by kernel_rfl
def m19_15:List Nat:=[0,1,0,4,12,28,0,64,252,3,1023]
theorem d19_15:okDraw r19_15 m19_15=true:=by kernel_rfl
def m19_17:List Nat:=[0,1,3,7,0,16,48,112,0,511,1023]
theorem d19_17:okDraw r19_17 m19_17=true:=by kernel_rfl
def m19_21:List Nat:=[0,1,3,7,0,16,48,112,0,511,1023,0,2047,8191]
theorem d19_21:okDraw r19_21 m19_21=true:=by kernel_rfl
def k19:List (List Nat):=[[0,2],[0,2,5],[0,2,5,15],[0,2,5,18],[0,2,5,25],[2,3],[0,2,5,32],[2,3],[0,2,5,39],[0,2,5,42],[2,3,4],[2,3],[0,2,4],[0,2,4,57],[0,2,4],[2,3],[0,2,3],[0,2,3,4],[0,2,3,4,87],[2,3],[0,2,3],[2,3],[0,2,3,4],[0,2,3,4,124],[2,3,4],[2,3]]
def f19:AFunc:={ ntmps:=131,results:=[.cell 2 (some 5),.tmp 3],body:=(
 .seq (
 .region false r19_0 [0,2]) (
 .scope (
  .seq (
  .region true r19_1 [0,2,5]) (
  .seq (
  .block 0 (
   .seq (
   .region false r19_2 [0,2,5,15]) (
   .cond (.t 15) (
    .goto 0) (
    .seq (
    .region false r19_3 [0,2,5,18]) (
    .cond (.t 18) (
     .goto 1) (
     .seq (
     .region false r19_4 [0,2,5,25]) (
     .cond (.t 25) (
      .seq (
      .region false r19_5 [2,3]) (
      .ret)) (
      .seq (
      .region false r19_6 [0,2,5,32]) (
      .cond (.t 32) (
       .seq (
       .region false r19_7 [2,3]) (
       .ret)) (
       .seq (
       .region false r19_8 [0,2,5,39]) (
       .cond (.t 39) (
        .goto 2) (
        .seq (
        .region false r19_9 [0,2,5,42]) (
        .cond (.t 42) (
         .seq (
         .region false r19_10 [2,3,4]) (
         .seq (
         .region false r19_11 [2,3]) (
         .ret))) (
         .skip)))))))))))))) (
  .seq (
  .seq (
  .region false r19_12 [0,2,4]) (
  .seq (
  .region false r19_13 [0,2,4,57]) (
  .cond (.t 57) (
   .region false r19_14 [0,2,4]) (
   .skip)))) (
  .seq (
  .seq (
  .region true r19_15 [2,3]) (
  .ret)) (
  .seq (
  .label 0) (
  .seq (
  .region false r19_16 [0,2,3]) (
  .seq (
  .region true r19_17 [0,2,3,4]) (
  .seq (
  .seq (
  .region false r19_18 [0,2,3,4,87]) (
  .cond (.t 87) (
   .seq (
   .region false r19_19 [2,3]) (
   .ret)) (
   .skip))) (
  .seq (
  .goto 3) (
  .seq (
  .label 1) (
  .seq (
  .region false r19_20 [0,2,3]) (
  .seq (
  .seq (
  .region true r19_21 [2,3]) (
  .ret)) (
  .seq (
  .label 2) (
  .seq (
  .region false r19_22 [0,2,3,4]) (
  .seq (
  .label 3) (
  .seq (
  .seq (
  .region false r19_23 [0,2,3,4,124]) (
  .cond (.t 124) (
   .region false r19_24 [2,3,4]) (
   .skip))) (
  .seq (
  .region false r19_25 [2,3]) (
  .ret)))))))))))))))))))) }
theorem c19:cfunc Tryd.prog (kof k19) Tryd.f19=some f19:=by kernel_rfl
abbrev r24_0:List AOper:=[
 oo 2 (.mv (.c (.bool false))) []]
abbrev r24_1:List AOper:=[
 oo 3 (.mv (.t 0)) [],
 oo 4 (.bin .geq (.t 3) (.c (.int .u8 97))) [0],
 oo 5 (.mv (.t 4)) [1],
 og 6 (.mv (.t 0)) 5 true [2],
 og 7 (.bin .leq (.t 6) (.c (.int .u8 122))) 5 true [3,2],
 oo 8 (.pick (.t 5) (.t 7) (.c (.bool false))) [2,4],
 oo 2 (.mv (.t 8)) [5,2,0,1,2,3,4,5]]
def k24:List (List Nat):=[[0],[2]]
def f24:AFunc:={ ntmps:=9,results:=[.tmp 2],body:=(
 .seq (
 .region false r24_0 [0]) (
 .seq (
 .region false r24_1 [2]) (
 .ret))) }
theorem c24:cfunc Tryd.prog (kof k24) Tryd.f24=some f24:=by kernel_rfl
abbrev r25_0:List AOper:=[
 oo 2 (.mv (.c (.bool false))) []]
abbrev r25_1:List AOper:=[
 oo 3 (.mv (.t 0)) [],
 oo 4 (.bin .geq (.t 3) (.c (.int .u8 65))) [0],
 oo 5 (.mv (.t 4)) [1],
 og 6 (.mv (.t 0)) 5 true [2],
 og 7 (.bin .leq (.t 6) (.c (.int .u8 90))) 5 true [3,2],
 oo 8 (.pick (.t 5) (.t 7) (.c (.bool false))) [2,4],
 oo 2 (.mv (.t 8)) [5,2,0,1,2,3,4,5]]
def k25:List (List Nat):=[[0],[2]]
def f25:AFunc:={ ntmps:=9,results:=[.tmp 2],body:=(
 .seq (
 .region false r25_0 [0]) (
 .seq (
 .region false r25_1 [2]) (
 .ret))) }
theorem c25:cfunc Tryd.prog (kof k25) Tryd.f25=some f25:=by kernel_rfl
abbrev r26_0:List AOper:=[
 oo 2 (.mv (.c (.bool false))) []]
abbrev r26_1:List AOper:=[
 oo 3 (.mv (.t 0)) [],
 oo 4 (.bin .geq (.t 3) (.c (.int .u8 48))) [0],
 oo 5 (.mv (.t 4)) [1],
 og 6 (.mv (.t 0)) 5 true [2],
 og 7 (.bin .leq (.t 6) (.c (.int .u8 57))) 5 true [3,2],
 oo 8 (.pick (.t 5) (.t 7) (.c (.bool false))) [2,4],
 oo 2 (.mv (.t 8)) [5,2,0,1,2,3,4,5]]
def k26:List (List Nat):=[[0],[2]]
def f26:AFunc:={ ntmps:=9,results:=[.tmp 2],body:=(
 .seq (
 .region false r26_0 [0]) (
 .seq (
 .region false r26_1 [2]) (
 .ret))) }
theorem c26:cfunc Tryd.prog (kof k26) Tryd.f26=some f26:=by kernel_rfl
abbrev r27_0:List AOper:=[
 oo 2 (.alloc 31 (.agg [.int .i64 0,.str ⟨#[]⟩,.int .i64 0,.flt .f64 0,.int .i64 0])) [],
 oo 3 (.mv (.c (.int .i64 0))) []]
abbrev r27_1:List AOper:=[
 oo 12 (.mv (.t 0)) [],
 oo 13 (.mv (.t 0)) [],
 oo 14 (.nilchk (.t 13)) [1],
 oo 15 (.faddr 1 (.t 14)) [2],
 oo 16 (.load none (.t 15)) [3],
 oo 17 (.callF 17 [(.t 12),(.t 16),(.c (.fn (.func 26) [] []))]) [0,4],
 oo 4 (.mv (.t 17)) [5,5,0,1,2,3,4,5]]
abbrev r27_2:List AOper:=[
 oo 18 (.mv (.t 0)) [],
 oo 19 (.nilchk (.t 18)) [0],
 oo 20 (.faddr 0 (.t 19)) [1],
 oo 21 (.load none (.t 20)) [2],
 oo 22 (.mv (.t 0)) [],
 oo 23 (.nilchk (.t 22)) [4],
 oo 24 (.faddr 1 (.t 23)) [5],
 oo 25 (.load none (.t 24)) [6],
 oo 26 (.mv (.t 4)) [],
 oo 27 (.slcS (.t 21) (some (.t 25)) (some (.t 26))) [3,7,8],
 oo 5 (.mv (.t 27)) [9,0,1,2,3,4,5,6,7,8,9]]
abbrev r27_3:List AOper:=[
 oo 6 (.mv (.c (.str ⟨#[]⟩))) []]
abbrev r27_4:List AOper:=[
 oo 28 (.mv (.t 4)) [],
 oo 29 (.bin .add (.t 28) (.c (.int .i64 1))) [0],
 oo 30 (.mv (.t 0)) [],
 oo 31 (.nilchk (.t 30)) [2],
 oo 32 (.faddr 0 (.t 31)) [3],
 oo 33 (.load none (.t 32)) [4],
 oo 34 (.len 0 (.t 33)) [5],
 oo 35 (.bin .lss (.t 29) (.t 34)) [1,6],
 oo 36 (.mv (.t 35)) [7],
 og 37 (.mv (.t 0)) 36 true [8],
 og 38 (.nilchk (.t 37)) 36 true [9,8],
 og 39 (.faddr 0 (.t 38)) 36 true [10,8],
 og 40 (.load none (.t 39)) 36 true [11,8],
 og 41 (.mv (.t 4)) 36 true [8],
 og 42 (.idxS (.t 40) (.t 41)) 36 true [12,13,8],
 og 43 (.bin .eql (.t 42) (.c (.int .u8 46))) 36 true [14,8],
 oo 44 (.pick (.t 36) (.t 43) (.c (.bool false))) [8,15],
 oo 45 (.mv (.t 44)) [16,8],
 og 46 (.mv (.t 0)) 45 true [17],
 og 47 (.nilchk (.t 46)) 45 true [18,17],
 og 48 (.faddr 0 (.t 47)) 45 true [19,17],
 og 49 (.load none (.t 48)) 45 true [20,17],
 og 50 (.mv (.t 4)) 45 true [17],
 og 51 (.bin .add (.t 50) (.c (.int .i64 1))) 45 true [22,17],
 og 52 (.idxS (.t 49) (.t 51)) 45 true [21,23,17],
 og 53 (.callF 26 [(.t 52)]) 45 true [24,17,17],
 oo 54 (.pick (.t 45) (.t 53) (.c (.bool false))) [17,25]]
abbrev r27_5:List AOper:=[
 oo 55 (.mv (.t 4)) [],
 oo 56 (.bin .add (.t 55) (.c (.int .i64 1))) [0],
 oo 7 (.mv (.t 56)) [1,0,1]]
abbrev r27_6:List AOper:=[
 oo 57 (.mv (.t 0)) [],
 oo 58 (.mv (.t 7)) [],
 oo 59 (.callF 17 [(.t 57),(.t 58),(.c (.fn (.func 26) [] []))]) [0,1],
 oo 4 (.mv (.t 59)) [2,2,0,1,2]]
abbrev r27_7:List AOper:=[
 oo 60 (.mv (.t 0)) [],
 oo 61 (.nilchk (.t 60)) [0],
 oo 62 (.faddr 0 (.t 61)) [1],
 oo 63 (.load none (.t 62)) [2],
 oo 64 (.mv (.t 7)) [],
 oo 65 (.mv (.t 4)) [],
 oo 66 (.slcS (.t 63) (some (.t 64)) (some (.t 65))) [3,4,5],
 oo 6 (.mv (.t 66)) [6,0,1,2,3,4,5,6]]
abbrev r27_8:List AOper:=[
 oo 67 (.mv (.t 5)) [],
 oo 68 (.len 0 (.t 67)) [0],
 oo 69 (.bin .gtr (.t 68) (.c (.int .i64 1))) [1],
 oo 70 (.mv (.t 69)) [2],
 og 71 (.mv (.t 5)) 70 true [3],
 og 72 (.idxS (.t 71) (.c (.int .i64 0))) 70 true [4,3],
 og 73 (.bin .eql (.t 72) (.c (.int .u8 48))) 70 true [5,3],
 oo 74 (.pick (.t 70) (.t 73) (.c (.bool false))) [3,6],
 oo 75 (.mv (.t 74)) [7,3],
 og 76 (.mv (.t 6)) 75 false [8],
 og 77 (.bin .neq (.t 76) (.c (.str ⟨#[]⟩))) 75 false [9,8],
 og 78 (.mv (.t 77)) 75 false [10,8,8],
 og 79 (.mv (.t 5)) 78 true [11],
 og 80 (.len 0 (.t 79)) 78 true [12,11],
 og 81 (.mv (.t 6)) 78 true [11],
 og 82 (.len 0 (.t 81)) 78 true [14,11],
 og 83 (.bin .add (.t 80) (.t 82)) 78 true [13,15,11],
 og 84 (.bin .gtr (.t 83) (.c (.int .i64 15))) 78 true [16,11],
 og 85 (.pick (.t 78) (.t 84) (.c (.bool false))) 75 false [11,17,8],
 oo 86 (.pick (.t 75) (.c (.bool true)) (.t 85)) [8,18],
 oo 87 (.mv (.t 86)) [19,11],
 og 88 (.mv (.t 5)) 87 false [20],
 og 89 (.len 0 (.t 88)) 87 false [21,20],
 og 90 (.bin .gtr (.t 89) (.c (.int .i64 18))) 87 false [22,20],
 oo 91 (.pick (.t 87) (.c (.bool true)) (.t 90)) [20,23]]
abbrev r27_9:List AOper:=[
 oo 92 (.mv (.t 0)) [],
 oo 93 (.nilchk (.t 92)) [0,0],
 oo 94 (.faddr 2 (.t 93)) [1,0],
 on (.store 1 (.t 94) (.c (.int .i64 22))) [2,0]]
abbrev r27_10:List AOper:=[
 oo 95 (.build [.int .i64 0,.str ⟨#[]⟩,.int .i64 0,.flt .f64 0,.int .i64 0] []) [],
 oo 96 (.mv (.t 4)) [],
 on (.store 5 (.t 2) (.t 95)) [0,0],
 oo 3 (.mv (.t 96)) [1,2,0,1,2]]
abbrev r27_11:List AOper:=[
 oo 8 (.mv (.c (.int .i64 0))) []]
abbrev r27_12:List AOper:=[
 oo 97 (.mv (.t 5)) [],
 oo 98 (.mv (.t 6)) [],
 oo 99 (.bin .add (.t 97) (.t 98)) [0,1],
 oo 100 (.conv (.strBytes 5) (.t 99)) [2],
 oo 101 (.len 1 (.t 100)) [3],
 oo 102 (.mv (.c (.int .i64 0))) []]
abbrev r27_13:List AOper:=[
 oo 103 (.bin .lss (.t 102) (.t 101)) []]
abbrev r27_14:List AOper:=[
 oo 104 (.iaddr 1 (.t 100) (.t 102)) [],
 oo 105 (.load none (.t 104)) [0],
 oo 10 (.mv (.t 105)) [1,0,1]]
abbrev r27_15:List AOper:=[
 oo 106 (.mv (.t 8)) [],
 oo 107 (.bin .mul (.c (.int .i64 10)) (.t 106)) [0],
 oo 108 (.mv (.t 10)) [],
 oo 109 (.bin .sub (.t 108) (.c (.int .u8 48))) [2],
 oo 110 (.conv (.toInt .i64) (.t 109)) [3],
 oo 111 (.bin .add (.t 107) (.t 110)) [1,4],
 oo 8 (.mv (.t 111)) [5,0,1,2,3,4,5]]
abbrev r27_16:List AOper:=[
 oo 112 (.bin .add (.t 102) (.c (.int .i64 1))) [],
 oo 102 (.mv (.t 112)) [0]]
def l27_0:ACode:=
 .seq (
 .region false r27_13 [0,2,4,6,8,100,101,102,103]) (
 .seq (
 .cond (.t 103) (
  .skip) (
  .exit 0)) (
 .seq (
 .block 1 (
  .seq (
  .region false r27_14 [0,2,4,6,8,10,100,101,102]) (
  .region false r27_15 [0,2,4,6,8,100,101,102]))) (
 .region false r27_16 [0,2,4,6,8,100,101,102])))
abbrev r27_17:List AOper:=[
 oo 113 (.mv (.t 6)) [],
 oo 114 (.bin .eql (.t 113) (.c (.str ⟨#[]⟩))) [0]]
abbrev r27_18:List AOper:=[
 oo 115 (.mv (.t 8)) [],
 oo 116 (.bin .gtr (.t 115) (.c (.int .i64 576460752303423487))) [0]]
abbrev r27_19:List AOper:=[
 oo 117 (.mv (.t 0)) [],
 oo 118 (.nilchk (.t 117)) [0,0],
 oo 119 (.faddr 2 (.t 118)) [1,0],
 on (.store 1 (.t 119) (.c (.int .i64 22))) [2,0]]
abbrev r27_20:List AOper:=[
 oo 120 (.mv (.t 8)) [],
 oo 121 (.build [.int .i64 0,.str ⟨#[]⟩,.int .i64 0,.flt .f64 0,.int .i64 0] [(0,1,(.c (.int .i64 3))),(2,1,(.t 120))]) [0],
 oo 122 (.mv (.t 4)) [],
 on (.store 5 (.t 2) (.t 121)) [1,0,1],
 oo 3 (.mv (.t 122)) [2,3,0,1,2,3]]
abbrev r27_21:List AOper:=[
 oo 11 (.mv (.c (.flt .f64 4607182418800017408))) []]
abbrev r27_22:List AOper:=[
 oo 123 (.mv (.t 6)) [],
 oo 124 (.rngS (.t 123)) [0]]
abbrev r27_23:List AOper:=[
 oo 125 (.nxtS (.t 124)) [],
 oo 126 (.extract (.t 125) 0) [0]]
abbrev r27_24:List AOper:=[
 oo 127 (.mv (.t 11)) [],
 oo 128 (.bin .mul (.t 127) (.c (.flt .f64 4621819117588971520))) [0],
 oo 11 (.mv (.t 128)) [1,0,1]]
def l27_1:ACode:=
 .seq (
 .region false r27_23 [2,4,8,11,124,126]) (
 .seq (
 .cond (.t 126) (
  .skip) (
  .exit 2)) (
 .block 3 (
  .region false r27_24 [2,4,8,11,124])))
abbrev r27_25:List AOper:=[
 oo 129 (.mv (.t 8)) [],
 oo 130 (.conv (.toFlt .f64) (.t 129)) [0],
 oo 131 (.mv (.t 11)) [],
 oo 132 (.bin .quo (.t 130) (.t 131)) [1,2],
 oo 133 (.build [.int .i64 0,.str ⟨#[]⟩,.int .i64 0,.flt .f64 0,.int .i64 0] [(0,1,(.c (.int .i64 4))),(3,1,(.t 132))]) [3],
 oo 134 (.mv (.t 4)) [],
 on (.store 5 (.t 2) (.t 133)) [4,0,1,2,3,4],
 oo 3 (.mv (.t 134)) [5,6,0,1,2,3,4,5,6]]
def m27_2:List Nat:=[0,1,3,7,0,16,48,112,0,511,1023]
theorem d27_2:okDraw r27_2 m27_2=true:=by kernel_rfl
def k27:List (List Nat):=[[0,2],[0,2,4],[0,2,4,5],[0,2,4,5,6],[0,2,4,5,6,54],[0,2,5,7],[0,2,4,5,7],[0,2,4,5,6],[0,2,4,5,6,91],[2,4],[2,3],[0,2,4,5,6,8],[0,2,4,6,8,100,101,102],[0,2,4,6,8,100,101,102,103],[0,2,4,6,8,10,100,101,102],[0,2,4,6,8,100,101,102],[0,2,4,6,8,100,101,102],[0,2,4,6,8,114],[0,2,4,8,116],[2,4,8],[2,3],[2,4,6,8,11],[2,4,8,11,124],[2,4,8,11,124,126],[2,4,8,11,124],[2,3]]
def f27:AFunc:={ ntmps:=135,results:=[.cell 2 (some 5),.tmp 3],body:=(
 .seq (
 .region false r27_0 [0,2]) (
 .seq (
 .region false r27_1 [0,2,4]) (
 .seq (
 .region true r27_2 [0,2,4,5]) (
 .seq (
 .region false r27_3 [0,2,4,5,6]) (
 .seq (
 .seq (
 .region false r27_4 [0,2,4,5,6,54]) (
 .cond (.t 54) (
  .seq (
  .region false r27_5 [0,2,5,7]) (
  .seq (
  .region false r27_6 [0,2,4,5,7]) (
  .region false r27_7 [0,2,4,5,6]))) (
  .skip))) (
 .seq (
 .seq (
 .region false r27_8 [0,2,4,5,6,91]) (
 .cond (.t 91) (
  .seq (
  .region false r27_9 [2,4]) (
  .seq (
  .region false r27_10 [2,3]) (
  .ret))) (
  .skip))) (
 .seq (
 .region false r27_11 [0,2,4,5,6,8]) (
 .seq (
 .seq (
 .region false r27_12 [0,2,4,6,8,100,101,102]) (
 .block 0 (
  .loop l27_0))) (
 .seq (
 .seq (
 .region false r27_17 [0,2,4,6,8,114]) (
 .cond (.t 114) (
  .seq (
  .seq (
  .region false r27_18 [0,2,4,8,116]) (
  .cond (.t 116) (
   .region false r27_19 [2,4,8]) (
   .skip))) (
  .seq (
  .region false r27_20 [2,3]) (
  .ret))) (
  .skip))) (
 .seq (
 .region false r27_21 [2,4,6,8,11]) (
 .seq (
 .seq (
 .region false r27_22 [2,4,8,11,124]) (
 .block 2 (
  .loop l27_1))) (
 .seq (
 .region false r27_25 [2,3]) (
 .ret))))))))))))) }
theorem c27:cfunc Tryd.prog (kof k27) Tryd.f27=some f27:=by kernel_rfl
abbrev r28_0:List AOper:=[
 oo 2 (.alloc 31 (.agg [.int .i64 0,.str ⟨#[]⟩,.int .i64 0,.flt .f64 0,.int .i64 0])) [],
 oo 3 (.mv (.c (.int .i64 0))) []]
abbrev r28_1:List AOper:=[
 oo 8 (.mv (.t 0)) [],
 oo 9 (.nilchk (.t 8)) [0],
 oo 10 (.faddr 1 (.t 9)) [1],
 oo 11 (.load none (.t 10)) [2],
 oo 12 (.bin .add (.t 11) (.c (.int .i64 1))) [3],
 oo 4 (.mv (.t 12)) [4,0,1,2,3,4]]
abbrev r28_2:List AOper:=[
 oo 5 (.mv (.c (.int .u64 0))) []]
abbrev r28_3:List AOper:=[
 oo 13 (.mv (.t 4)) [],
 oo 14 (.mv (.t 0)) [],
 oo 15 (.nilchk (.t 14)) [1],
 oo 16 (.faddr 1 (.t 15)) [2],
 oo 17 (.load none (.t 16)) [3],
 oo 18 (.bin .add (.t 17) (.c (.int .i64 17))) [4],
 oo 19 (.bin .lss (.t 13) (.t 18)) [0,5]]
abbrev r28_5:List AOper:=[
 oo 22 (.mv (.t 4)) [],
 oo 23 (.mv (.t 0)) [],
 oo 24 (.nilchk (.t 23)) [1],
 oo 25 (.faddr 0 (.t 24)) [2],
 oo 26 (.load none (.t 25)) [3],
 oo 27 (.len 0 (.t 26)) [4],
 oo 28 (.bin .eql (.t 22) (.t 27)) [0,5],
 oo 29 (.mv (.t 28)) [6],
 og 30 (.mv (.t 0)) 29 false [7],
 og 31 (.nilchk (.t 30)) 29 false [8,7],
 og 32 (.faddr 0 (.t 31)) 29 false [9,7],
 og 33 (.load none (.t 32)) 29 false [10,7],
 og 34 (.mv (.t 4)) 29 false [7],
 og 35 (.idxS (.t 33) (.t 34)) 29 false [11,12,7],
 og 36 (.callF 40 [(.t 35)]) 29 false [13,7,7],
 og 37 (.bin .lss (.t 36) (.c (.int .i64 0))) 29 false [14,7],
 oo 38 (.pick (.t 29) (.c (.bool true)) (.t 37)) [7,15]]
abbrev r28_6:List AOper:=[
 oo 39 (.mv (.t 0)) [],
 oo 40 (.nilchk (.t 39)) [0,0],
 oo 41 (.faddr 2 (.t 40)) [1,0],
 on (.store 1 (.t 41) (.c (.int .i64 22))) [2,0]]
abbrev r28_7:List AOper:=[
 oo 42 (.build [.int .i64 0,.str ⟨#[]⟩,.int .i64 0,.flt .f64 0,.int .i64 0] []) [],
 oo 43 (.mv (.t 4)) [],
 on (.store 5 (.t 2) (.t 42)) [0,0],
 oo 3 (.mv (.t 43)) [1,2,0,1,2]]
abbrev r28_8:List AOper:=[
 oo 44 (.mv (.t 5)) [],
 oo 45 (.bin .shl (.t 44) (.c (.int .u64 4))) [0],
 oo 46 (.mv (.t 0)) [],
 oo 47 (.nilchk (.t 46)) [2],
 oo 48 (.faddr 0 (.t 47)) [3],
 oo 49 (.load none (.t 48)) [4],
 oo 50 (.mv (.t 4)) [],
 oo 51 (.idxS (.t 49) (.t 50)) [5,6],
 oo 52 (.callF 40 [(.t 51)]) [7],
 oo 53 (.conv (.toInt .u64) (.t 52)) [8],
 oo 54 (.bin .or (.t 45) (.t 53)) [1,9],
 oo 5 (.mv (.t 54)) [10,8,0,1,2,3,4,5,6,7,8,9,10]]
abbrev r28_4:List AOper:=[
 oo 20 (.mv (.t 4)) [],
 oo 21 (.bin .add (.t 20) (.c (.int .i64 1))) [0],
 oo 4 (.mv (.t 21)) [1,0,1]]
def l28_0:ACode:=
 .seq (
 .seq (
 .region false r28_3 [0,2,4,5,19]) (
 .cond (.t 19) (
  .skip) (
  .exit 0))) (
 .seq (
 .block 1 (
  .seq (
  .seq (
  .region false r28_5 [0,2,4,5,38]) (
  .cond (.t 38) (
   .seq (
   .region false r28_6 [2,4]) (
   .seq (
   .region false r28_7 [2,3]) (
   .ret))) (
   .skip))) (
  .region false r28_8 [0,2,4,5]))) (
 .region false r28_4 [0,2,4,5]))
abbrev r28_9:List AOper:=[
 oo 56 (.mv (.t 5)) [],
 oo 57 (.callF 41 [(.t 56)]) [0],
 oo 55 (.mv (.t 57)) [1],
 oo 58 (.extract (.t 55) 0) [2],
 oo 59 (.extract (.t 55) 1) [2],
 oo 6 (.alloc 78 (.agg [.int .i64 0,.int .i64 0,.flt .f64 0,.str ⟨#[]⟩,.nils])) [],
 on (.store 5 (.t 6) (.t 58)) [5,3,1,0,1,2,3,5],
 oo 7 (.mv (.t 59)) [4,6,0,1,2,3,4,5,6]]
abbrev r28_10:List AOper:=[
 oo 60 (.mv (.t 7)) [],
 oo 61 (.bin .neq (.t 60) (.c (.int .i64 0))) [0]]
abbrev r28_11:List AOper:=[
 oo 62 (.mv (.t 0)) [],
 oo 63 (.nilchk (.t 62)) [0,0],
 oo 64 (.faddr 2 (.t 63)) [1,0],
 on (.store 1 (.t 64) (.c (.int .i64 22))) [2,0]]
abbrev r28_12:List AOper:=[
 oo 65 (.faddr 2 (.t 6)) [],
 oo 66 (.load none (.t 65)) [0],
 oo 67 (.build [.int .i64 0,.str ⟨#[]⟩,.int .i64 0,.flt .f64 0,.int .i64 0] [(0,1,(.c (.int .i64 4))),(3,1,(.t 66))]) [1],
 oo 68 (.mv (.t 4)) [],
 on (.store 5 (.t 2) (.t 67)) [2,0,1,2],
 oo 3 (.mv (.t 68)) [3,4,0,1,2,3,4]]
def k28:List (List Nat):=[[0,2],[0,2,4],[0,2,4,5],[0,2,4,5,19],[0,2,4,5],[0,2,4,5,38],[2,4],[2,3],[0,2,4,5],[0,2,4,6,7],[0,2,4,6,61],[2,4,6],[2,3]]
def f28:AFunc:={ ntmps:=69,results:=[.cell 2 (some 5),.tmp 3],body:=(
 .seq (
 .region false r28_0 [0,2]) (
 .seq (
 .region false r28_1 [0,2,4]) (
 .seq (
 .region false r28_2 [0,2,4,5]) (
 .seq (
 .block 0 (
  .loop l28_0)) (
 .seq (
 .region false r28_9 [0,2,4,6,7]) (
 .seq (
 .seq (
 .region false r28_10 [0,2,4,6,61]) (
 .cond (.t 61) (
  .region false r28_11 [2,4,6]) (
  .skip))) (
 .seq (
 .region false r28_12 [2,3]) (
 .ret)))))))) }
theorem c28:cfunc Tryd.prog (kof k28) Tryd.f28=some f28:=by kernel_rfl
abbrev r29_0:List AOper:=[
 oo 4 (.mv (.c (.str ⟨#[]⟩))) [],
 oo 5 (.mv (.c (.int .i64 0))) [0]]
abbrev r29_1:List AOper:=[
 oo 6 (.mv (.c (.nils))) []]
abbrev r29_2:List AOper:=[
 oo 10 (.mv (.t 0)) [],
 oo 11 (.nilchk (.t 10)) [0],
 oo 12 (.faddr 1 (.t 11)) [1],
 oo 13 (.load none (.t 12)) [2],
 oo 14 (.bin .add (.t 13) (.c (.int .i64 1))) [3],
 oo 7 (.mv (.t 14)) [4,0,1,2,3,4]]
abbrev r29_3:List AOper:=[
 oo 15 (.mv (.t 7)) [],
 oo 16 (.mv (.t 0)) [],
 oo 17 (.nilchk (.t 16)) [1],
 oo 18 (.faddr 0 (.t 17)) [2],
 oo 19 (.load none (.t 18)) [3],
 oo 20 (.len 0 (.t 19)) [4],
 oo 21 (.bin .lss (.t 15) (.t 20)) [0,5]]
abbrev r29_4:List AOper:=[
 oo 22 (.mv (.t 0)) [],
 oo 23 (.nilchk (.t 22)) [0],
 oo 24 (.faddr 0 (.t 23)) [1],
 oo 25 (.load none (.t 24)) [2],
 oo 26 (.mv (.t 7)) [],
 oo 27 (.idxS (.t 25) (.t 26)) [3,4],
 oo 8 (.mv (.t 27)) [5,0,1,2,3,4,5]]
abbrev r29_5:List AOper:=[
 oo 29 (.mv (.t 8)) [],
 oo 30 (.mv (.t 1)) [],
 oo 31 (.bin .eql (.t 29) (.t 30)) [0,1],
 oo 28 (.mv (.t 31)) [2]]
abbrev r29_6:List AOper:=[
 oo 32 (.mv (.t 6)) [],
 oo 33 (.conv .bytesStr (.t 32)) [0],
 oo 34 (.mv (.t 7)) [],
 oo 35 (.bin .add (.t 34) (.c (.int .i64 1))) [2],
 oo 4 (.mv (.t 33)) [1,0,1],
 oo 5 (.mv (.t 35)) [3,4,0,1,2,3,4]]
abbrev r29_7:List AOper:=[
 oo 37 (.mv (.t 8)) [],
 oo 38 (.bin .neq (.t 37) (.c (.int .u8 92))) [0],
 oo 36 (.mv (.t 38)) [1]]
abbrev r29_8:List AOper:=[
 oo 39 (.mv (.t 6)) [],
 oo 40 (.mv (.t 8)) [],
 oo 41 (.bslice 5 1 [.int .u8 0] [(0,1,(.t 40))]) [1],
 oo 42 (.app 5 1 1 (.t 39) (.t 41)) [0,2],
 oo 6 (.mv (.t 42)) [3,3,0,1,2,3]]
abbrev r29_9:List AOper:=[
 oo 43 (.mv (.t 7)) [],
 oo 44 (.bin .add (.t 43) (.c (.int .i64 1))) [0],
 oo 7 (.mv (.t 44)) [1,0,1]]
abbrev r29_10:List AOper:=[
 oo 46 (.mv (.t 0)) [],
 oo 47 (.nilchk (.t 46)) [0],
 oo 48 (.faddr 0 (.t 47)) [1],
 oo 49 (.load none (.t 48)) [2],
 oo 50 (.mv (.t 7)) [],
 oo 51 (.slcS (.t 49) (some (.t 50)) none) [3,4],
 oo 52 (.callF 42 [(.t 51)]) [5],
 oo 45 (.mv (.t 52)) [6],
 oo 53 (.extract (.t 45) 0) [7],
 oo 54 (.extract (.t 45) 1) [7],
 oo 8 (.mv (.t 53)) [8,6,0,1,2,3,4,5,6,7,8],
 oo 9 (.mv (.t 54)) [9,10,0,1,2,3,4,5,6,7,8,9,10]]
abbrev r29_11:List AOper:=[
 oo 55 (.mv (.t 9)) [],
 oo 56 (.bin .eql (.t 55) (.c (.int .i64 0))) [0]]
abbrev r29_12:List AOper:=[
 oo 57 (.mv (.t 6)) [],
 oo 58 (.mv (.t 8)) [],
 oo 59 (.bslice 5 1 [.int .u8 0] [(0,1,(.t 58))]) [1],
 oo 60 (.app 5 1 1 (.t 57) (.t 59)) [0,2],
 oo 6 (.mv (.t 60)) [3,3,0,1,2,3]]
abbrev r29_13:List AOper:=[
 oo 61 (.mv (.t 7)) [],
 oo 62 (.mv (.t 9)) [],
 oo 63 (.bin .add (.t 61) (.t 62)) [0,1],
 oo 7 (.mv (.t 63)) [2,0,1,2]]
def l29_0:ACode:=
 .seq (
 .seq (
 .region false r29_3 [0,1,6,7,21]) (
 .cond (.t 21) (
  .skip) (
  .exit 0))) (
 .block 1 (
  .seq (
  .region false r29_4 [0,1,6,7,8]) (
  .seq (
  .block 2 (
   .seq (
   .region false r29_5 [0,1,6,7,8,28]) (
   .cond (.t 28) (
    .seq (
    .region false r29_6 [4,5]) (
    .ret)) (
    .seq (
    .region false r29_7 [0,1,6,7,8,36]) (
    .cond (.t 36) (
     .seq (
     .region false r29_8 [0,1,6,7]) (
     .seq (
     .region false r29_9 [0,1,6,7]) (
     .exit 1))) (
     .skip)))))) (
  .seq (
  .region false r29_10 [0,1,6,7,8,9]) (
  .seq (
  .seq (
  .region false r29_11 [0,1,6,7,8,9,56]) (
  .cond (.t 56) (
   .exit 0) (
   .skip))) (
  .seq (
  .region false r29_12 [0,1,6,7,9]) (
  .region false r29_13 [0,1,6,7])))))))
abbrev r29_14:List AOper:=[
 oo 64 (.mv (.t 0)) [],
 oo 65 (.nilchk (.t 64)) [0,0],
 oo 66 (.faddr 2 (.t 65)) [1,0],
 on (.store 1 (.t 66) (.c (.int .i64 23))) [2,0]]
abbrev r29_15:List AOper:=[
 oo 67 (.mv (.t 7)) [],
 oo 4 (.mv (.c (.str ⟨#[]⟩))) [],
 oo 5 (.mv (.t 67)) [0,1,0,1]]
def k29:List (List Nat):=[[0,1],[0,1,6],[0,1,6,7],[0,1,6,7,21],[0,1,6,7,8],[0,1,6,7,8,28],[4,5],[0,1,6,7,8,36],[0,1,6,7],[0,1,6,7],[0,1,6,7,8,9],[0,1,6,7,8,9,56],[0,1,6,7,9],[0,1,6,7],[7],[4,5]]
def f29:AFunc:={ ntmps:=68,results:=[.tmp 4,.tmp 5],body:=(
 .seq (
 .region false r29_0 [0,1]) (
 .seq (
 .region false r29_1 [0,1,6]) (
 .seq (
 .region false r29_2 [0,1,6,7]) (
 .seq (
 .block 0 (
  .loop l29_0)) (
 .seq (
 .region false r29_14 [7]) (
 .seq (
 .region false r29_15 [4,5]) (
 .ret))))))) }
theorem c29:cfunc Tryd.prog (kof k29) Tryd.f29=some f29:=by kernel_rfl
abbrev r30_0:List AOper:=[
 oo 2 (.mv (.c (.str ⟨#[]⟩))) []]
abbrev r30_1:List AOper:=[
 oo 6 (.mv (.t 0)) [],
 oo 7 (.nilchk (.t 6)) [0],
 oo 8 (.faddr 0 (.t 7)) [1],
 oo 9 (.load none (.t 8)) [2],
 oo 10 (.mv (.t 0)) [],
 oo 11 (.nilchk (.t 10)) [4],
 oo 12 (.faddr 1 (.t 11)) [5],
 oo 13 (.load none (.t 12)) [6],
 oo 14 (.slcS (.t 9) (some (.t 13)) none) [3,7],
 oo 3 (.mv (.t 14)) [8,0,1,2,3,4,5,6,7,8]]
abbrev r30_2:List AOper:=[
 oo 15 (.callF 43 [(.c (.str ⟨#[61,58,61,32,61,47,61,32,45,62,32,61,61,32,47,61,32,61,60,32,62,61,32,43,43,32,40,32,41,32,123,32,125,32,91,32,93,32,44,32,59,32,46,32,124,32,61,32,60,32,62,32,43,32,45,32,42,32,47,32,33,32,58]⟩))]) [],
 oo 16 (.len 1 (.t 15)) [0],
 oo 17 (.mv (.c (.int .i64 0))) []]
abbrev r30_3:List AOper:=[
 oo 18 (.bin .lss (.t 17) (.t 16)) []]
abbrev r30_4:List AOper:=[
 oo 19 (.iaddr 1 (.t 15) (.t 17)) [],
 oo 20 (.load none (.t 19)) [0],
 oo 5 (.mv (.t 20)) [1,0,1]]
abbrev r30_5:List AOper:=[
 oo 21 (.mv (.t 3)) [],
 oo 22 (.mv (.t 5)) [],
 oo 23 (.callF 44 [(.t 21),(.t 22)]) [0,1]]
abbrev r30_6:List AOper:=[
 oo 24 (.mv (.t 5)) [],
 oo 2 (.mv (.t 24)) [0,0]]
abbrev r30_7:List AOper:=[
 oo 25 (.bin .add (.t 17) (.c (.int .i64 1))) [],
 oo 17 (.mv (.t 25)) [0]]
def l30_0:ACode:=
 .seq (
 .region false r30_3 [3,15,16,17,18]) (
 .seq (
 .cond (.t 18) (
  .skip) (
  .exit 0)) (
 .seq (
 .block 1 (
  .seq (
  .region false r30_4 [3,5,15,16,17]) (
  .seq (
  .region false r30_5 [3,5,15,16,17,23]) (
  .cond (.t 23) (
   .seq (
   .region false r30_6 [2]) (
   .ret)) (
   .skip))))) (
 .region false r30_7 [3,15,16,17])))
abbrev r30_8:List AOper:=[
 oo 2 (.mv (.c (.str ⟨#[]⟩))) []]
def m30_1:List Nat:=[0,1,3,7,0,16,48,112,255,511]
theorem d30_1:okDraw r30_1 m30_1=true:=by kernel_rfl
def k30:List (List Nat):=[[0],[3],[3,15,16,17],[3,15,16,17,18],[3,5,15,16,17],[3,5,15,16,17,23],[2],[3,15,16,17],[2]]
def f30:AFunc:={ ntmps:=26,results:=[.tmp 2],body:=(
 .seq (
 .region false r30_0 [0]) (
 .seq (
 .region true r30_1 [3]) (
 .seq (
 .seq (
 .region false r30_2 [3,15,16,17]) (
 .block 0 (
  .loop l30_0))) (
 .seq (
 .region false r30_8 [2]) (
 .ret))))) }
theorem c30:cfunc Tryd.prog (kof k30) Tryd.f30=some f30:=by kernel_rfl
abbrev r31_0:List AOper:=[
 oo 2 (.mv (.c (.bool false))) []]
abbrev r31_1:List AOper:=[
 oo 3 (.mv (.t 0)) [],
 oo 4 (.callF 24 [(.t 3)]) [0],
 oo 5 (.mv (.t 4)) [1,1],
 og 6 (.mv (.t 0)) 5 false [2],
 og 7 (.callF 25 [(.t 6)]) 5 false [3,2,2],
 oo 8 (.pick (.t 5) (.c (.bool true)) (.t 7)) [2,4],
 oo 9 (.mv (.t 8)) [5,4],
 og 10 (.mv (.t 0)) 9 false [6],
 og 11 (.callF 26 [(.t 10)]) 9 false [7,6,6],
 oo 12 (.pick (.t 9) (.c (.bool true)) (.t 11)) [6,8],
 oo 13 (.mv (.t 12)) [9,8],
 og 14 (.mv (.t 0)) 13 false [10],
 og 15 (.bin .eql (.t 14) (.c (.int .u8 95))) 13 false [11,10],
 oo 16 (.pick (.t 13) (.c (.bool true)) (.t 15)) [10,12],
 oo 17 (.mv (.t 16)) [13,10],
 og 18 (.mv (.t 0)) 17 false [14],
 og 19 (.bin .eql (.t 18) (.c (.int .u8 64))) 17 false [15,14],
 oo 20 (.pick (.t 17) (.c (.bool true)) (.t 19)) [14,16],
 oo 2 (.mv (.t 20)) [17,14,0,1,2,3,4,5,6,7,8,9,10,11,12,13,14,15,16,17]]
def k31:List (List Nat):=[[0],[2]]
def f31:AFunc:={ ntmps:=21,results:=[.tmp 2],body:=(
 .seq (
 .region false r31_0 [0]) (
 .seq (
 .region false r31_1 [2]) (
 .ret))) }
theorem c31:cfunc Tryd.prog (kof k31) Tryd.f31=some f31:=by kernel_rfl
abbrev r32_0:List AOper:=[
 oo 2 (.mv (.c (.bool false))) []]
abbrev r32_1:List AOper:=[
 oo 3 (.mv (.t 0)) []]
abbrev r32_2:List AOper:=[
 oo 5 (.bin .eql (.t 3) (.c (.str ⟨#[97,102,116,101,114]⟩))) [],
 oo 4 (.mv (.t 5)) [0]]
abbrev r32_3:List AOper:=[
 oo 6 (.bin .eql (.t 3) (.c (.str ⟨#[97,110,100,97,108,115,111]⟩))) [],
 oo 4 (.mv (.t 6)) [0]]
abbrev r32_4:List AOper:=[
 oo 7 (.bin .eql (.t 3) (.c (.str ⟨#[98,101,103,105,110]⟩))) [],
 oo 4 (.mv (.t 7)) [0]]
abbrev r32_5:List AOper:=[
 oo 8 (.bin .eql (.t 3) (.c (.str ⟨#[99,97,115,101]⟩))) [],
 oo 4 (.mv (.t 8)) [0]]
abbrev r32_6:List AOper:=[
 oo 9 (.bin .eql (.t 3) (.c (.str ⟨#[99,97,116,99,104]⟩))) [],
 oo 4 (.mv (.t 9)) [0]]
abbrev r32_7:List AOper:=[
 oo 10 (.bin .eql (.t 3) (.c (.str ⟨#[100,105,118]⟩))) [],
 oo 4 (.mv (.t 10)) [0]]
abbrev r32_8:List AOper:=[
 oo 11 (.bin .eql (.t 3) (.c (.str ⟨#[101,110,100]⟩))) [],
 oo 4 (.mv (.t 11)) [0]]
abbrev r32_9:List AOper:=[
 oo 12 (.bin .eql (.t 3) (.c (.str ⟨#[102,117,110]⟩))) [],
 oo 4 (.mv (.t 12)) [0]]
abbrev r32_10:List AOper:=[
 oo 13 (.bin .eql (.t 3) (.c (.str ⟨#[110,111,116]⟩))) [],
 oo 4 (.mv (.t 13)) [0]]
abbrev r32_11:List AOper:=[
 oo 14 (.bin .eql (.t 3) (.c (.str ⟨#[111,102]⟩))) [],
 oo 4 (.mv (.t 14)) [0]]
abbrev r32_12:List AOper:=[
 oo 15 (.bin .eql (.t 3) (.c (.str ⟨#[111,114,101,108,115,101]⟩))) [],
 oo 4 (.mv (.t 15)) [0]]
abbrev r32_13:List AOper:=[
 oo 16 (.bin .eql (.t 3) (.c (.str ⟨#[114,101,99,101,105,118,101]⟩))) [],
 oo 4 (.mv (.t 16)) [0]]
abbrev r32_14:List AOper:=[
 oo 17 (.bin .eql (.t 3) (.c (.str ⟨#[114,101,109]⟩))) [],
 oo 4 (.mv (.t 17)) [0]]
abbrev r32_15:List AOper:=[
 oo 18 (.bin .eql (.t 3) (.c (.str ⟨#[116,114,121]⟩))) [],
 oo 4 (.mv (.t 18)) [0]]
abbrev r32_16:List AOper:=[
 oo 19 (.bin .eql (.t 3) (.c (.str ⟨#[119,104,101,110]⟩))) [],
 oo 4 (.mv (.t 19)) [0]]
abbrev r32_17:List AOper:=[
 oo 2 (.mv (.c (.bool true))) []]
abbrev r32_18:List AOper:=[
 oo 2 (.mv (.c (.bool false))) []]
def k32:List (List Nat):=[[0],[3],[3,4],[3,4],[3,4],[3,4],[3,4],[3,4],[3,4],[3,4],[3,4],[3,4],[3,4],[3,4],[3,4],[3,4],[4],[2],[2]]
def f32:AFunc:={ ntmps:=20,results:=[.tmp 2],body:=(
 .seq (
 .region false r32_0 [0]) (
 .seq (
 .seq (
 .region false r32_1 [3]) (
 .block 0 (
  .seq (
  .seq (
  .region false r32_2 [3,4]) (
  .cond (.t 4) (
   .skip) (
   .seq (
   .region false r32_3 [3,4]) (
   .cond (.t 4) (
    .skip) (
    .seq (
    .region false r32_4 [3,4]) (
    .cond (.t 4) (
     .skip) (
     .seq (
     .region false r32_5 [3,4]) (
     .cond (.t 4) (
      .skip) (
      .seq (
      .region false r32_6 [3,4]) (
      .cond (.t 4) (
       .skip) (
       .seq (
       .region false r32_7 [3,4]) (
       .cond (.t 4) (
        .skip) (
        .seq (
        .region false r32_8 [3,4]) (
        .cond (.t 4) (
         .skip) (
         .seq (
         .region false r32_9 [3,4]) (
         .cond (.t 4) (
          .skip) (
          .seq (
          .region false r32_10 [3,4]) (
          .cond (.t 4) (
           .skip) (
           .seq (
           .region false r32_11 [3,4]) (
           .cond (.t 4) (
            .skip) (
            .seq (
            .region false r32_12 [3,4]) (
            .cond (.t 4) (
             .skip) (
             .seq (
             .region false r32_13 [3,4]) (
             .cond (.t 4) (
              .skip) (
              .seq (
              .region false r32_14 [3,4]) (
              .cond (.t 4) (
               .skip) (
               .seq (
               .region false r32_15 [3,4]) (
               .cond (.t 4) (
                .skip) (
                .region false r32_16 [4]))))))))))))))))))))))))))))) (
  .cond (.t 4) (
   .seq (
   .region false r32_17 [2]) (
   .ret)) (
   .skip))))) (
 .seq (
 .region false r32_18 [2]) (
 .ret)))) }
theorem c32:cfunc Tryd.prog (kof k32) Tryd.f32=some f32:=by kernel_rfl
abbrev r40_0:List AOper:=[
 oo 2 (.mv (.c (.int .i64 0))) []]
abbrev r40_1:List AOper:=[
 oo 3 (.mv (.t 0)) [],
 oo 4 (.callF 47 [(.c (.str ⟨#[48,49,50,51,52,53,54,55,56,57,97,98,99,100,101,102]⟩)),(.t 3)]) [0],
 oo 2 (.mv (.t 4)) [1,1,0,1]]
def k40:List (List Nat):=[[0],[2]]
def f40:AFunc:={ ntmps:=5,results:=[.tmp 2],body:=(
 .seq (
 .region false r40_0 [0]) (
 .seq (
 .region false r40_1 [2]) (
 .ret))) }
theorem c40:cfunc Tryd.prog (kof k40) Tryd.f40=some f40:=by kernel_rfl
abbrev r41_0:List AOper:=[
 oo 2 (.alloc 78 (.agg [.int .i64 0,.int .i64 0,.flt .f64 0,.str ⟨#[]⟩,.nils])) [],
 oo 3 (.mv (.c (.int .i64 0))) []]
abbrev r41_1:List AOper:=[
 oo 4 (.mv (.t 0)) [],
 oo 5 (.ext 1 [(.t 4)]) [0],
 oo 6 (.callF 48 [(.t 5)]) [1,1],
 oo 7 (.extract (.t 6) 0) [2],
 oo 8 (.extract (.t 6) 1) [2],
 on (.store 5 (.t 2) (.t 7)) [3,2,0,1,2,3,4],
 oo 3 (.mv (.t 8)) [4,5,0,1,2,3,4,5]]
def k41:List (List Nat):=[[0,2],[2,3]]
def f41:AFunc:={ ntmps:=9,results:=[.cell 2 (some 5),.tmp 3],body:=(
 .seq (
 .region false r41_0 [0,2]) (
 .seq (
 .region false r41_1 [2,3]) (
 .ret))) }
theorem c41:cfunc Tryd.prog (kof k41) Tryd.f41=some f41:=by kernel_rfl
abbrev r42_0:List AOper:=[
 oo 2 (.mv (.c (.int .u8 0))) [],
 oo 3 (.mv (.c (.int .i64 0))) [0]]
abbrev r42_1:List AOper:=[
 oo 5 (.mv (.t 0)) [],
 oo 6 (.len 0 (.t 5)) [0],
 oo 7 (.bin .lss (.t 6) (.c (.int .i64 2))) [1]]
abbrev r42_2:List AOper:=[
 oo 2 (.mv (.c (.int .u8 0))) [],
 oo 3 (.mv (.c (.int .i64 0))) [0,0]]
abbrev r42_3:List AOper:=[
 oo 8 (.mv (.t 0)) [],
 oo 9 (.idxS (.t 8) (.c (.int .i64 1))) [0],
 oo 4 (.mv (.t 9)) [1,0,1]]
abbrev r42_4:List AOper:=[
 oo 10 (.mv (.t 4)) []]
abbrev r42_5:List AOper:=[
 oo 12 (.bin .eql (.t 10) (.c (.int .u8 92))) [],
 oo 11 (.mv (.t 12)) [0]]
abbrev r42_6:List AOper:=[
 oo 13 (.bin .eql (.t 10) (.c (.int .u8 39))) [],
 oo 11 (.mv (.t 13)) [0]]
abbrev r42_7:List AOper:=[
 oo 14 (.bin .eql (.t 10) (.c (.int .u8 34))) [],
 oo 11 (.mv (.t 14)) [0]]
abbrev r42_8:List AOper:=[
 oo 15 (.mv (.t 4)) [],
 oo 2 (.mv (.t 15)) [0,0],
 oo 3 (.mv (.c (.int .i64 2))) [1,0,1]]
abbrev r42_9:List AOper:=[
 oo 17 (.bin .eql (.t 10) (.c (.int .u8 110))) [],
 oo 16 (.mv (.t 17)) [0]]
abbrev r42_10:List AOper:=[
 oo 2 (.mv (.c (.int .u8 10))) [],
 oo 3 (.mv (.c (.int .i64 2))) [0,0]]
abbrev r42_11:List AOper:=[
 oo 19 (.bin .eql (.t 10) (.c (.int .u8 116))) [],
 oo 18 (.mv (.t 19)) [0]]
abbrev r42_12:List AOper:=[
 oo 2 (.mv (.c (.int .u8 9))) [],
 oo 3 (.mv (.c (.int .i64 2))) [0,0]]
abbrev r42_13:List AOper:=[
 oo 21 (.bin .eql (.t 10) (.c (.int .u8 120))) [],
 oo 20 (.mv (.t 21)) [0]]
abbrev r42_14:List AOper:=[
 oo 22 (.mv (.t 0)) [],
 oo 23 (.len 0 (.t 22)) [0],
 oo 24 (.bin .gtr (.t 23) (.c (.int .i64 3))) [1],
 oo 25 (.mv (.t 24)) [2],
 og 26 (.mv (.t 0)) 25 true [3],
 og 27 (.idxS (.t 26) (.c (.int .i64 2))) 25 true [4,3],
 og 28 (.callF 40 [(.t 27)]) 25 true [5,3,3],
 og 29 (.bin .geq (.t 28) (.c (.int .i64 0))) 25 true [6,3],
 oo 30 (.pick (.t 25) (.t 29) (.c (.bool false))) [3,7],
 oo 31 (.mv (.t 30)) [8,6],
 og 32 (.mv (.t 0)) 31 true [9],
 og 33 (.idxS (.t 32) (.c (.int .i64 3))) 31 true [10,9],
 og 34 (.callF 40 [(.t 33)]) 31 true [11,9,9],
 og 35 (.bin .geq (.t 34) (.c (.int .i64 0))) 31 true [12,9],
 oo 36 (.pick (.t 31) (.t 35) (.c (.bool false))) [9,13]]
abbrev r42_15:List AOper:=[
 oo 37 (.mv (.t 0)) [],
 oo 38 (.idxS (.t 37) (.c (.int .i64 2))) [0],
 oo 39 (.callF 40 [(.t 38)]) [1],
 oo 40 (.bin .mul (.c (.int .i64 16)) (.t 39)) [2],
 oo 41 (.mv (.t 0)) [],
 oo 42 (.idxS (.t 41) (.c (.int .i64 3))) [4],
 oo 43 (.callF 40 [(.t 42)]) [5,2],
 oo 44 (.bin .add (.t 40) (.t 43)) [3,6],
 oo 45 (.conv (.toInt .u8) (.t 44)) [7],
 oo 2 (.mv (.t 45)) [8,6,0,1,2,3,4,5,6,7,8],
 oo 3 (.mv (.c (.int .i64 4))) [9,0,1,2,3,4,5,6,7,8,9]]
abbrev r42_16:List AOper:=[
 oo 2 (.mv (.c (.int .u8 0))) [],
 oo 3 (.mv (.c (.int .i64 0))) [0,0]]
def m42_15:List Nat:=[0,1,3,7,0,16,55,127,255,511,1023]
theorem d42_15:okDraw r42_15 m42_15=true:=by kernel_rfl
def k42:List (List Nat):=[[0],[0,7],[2,3],[0,4],[0,4,10],[0,4,10,11],[0,4,10,11],[0,4,10,11],[2,3],[0,10,16],[2,3],[0,10,18],[2,3],[0,20],[0,36],[2,3],[2,3]]
def f42:AFunc:={ ntmps:=46,results:=[.tmp 2,.tmp 3],body:=(
 .seq (
 .region false r42_0 [0]) (
 .seq (
 .seq (
 .region false r42_1 [0,7]) (
 .cond (.t 7) (
  .seq (
  .region false r42_2 [2,3]) (
  .ret)) (
  .skip))) (
 .seq (
 .seq (
 .region false r42_3 [0,4]) (
 .seq (
 .region false r42_4 [0,4,10]) (
 .block 0 (
  .seq (
  .seq (
  .region false r42_5 [0,4,10,11]) (
  .cond (.t 11) (
   .skip) (
   .seq (
   .region false r42_6 [0,4,10,11]) (
   .cond (.t 11) (
    .skip) (
    .region false r42_7 [0,4,10,11]))))) (
  .cond (.t 11) (
   .seq (
   .region false r42_8 [2,3]) (
   .ret)) (
   .seq (
   .region false r42_9 [0,10,16]) (
   .cond (.t 16) (
    .seq (
    .region false r42_10 [2,3]) (
    .ret)) (
    .seq (
    .region false r42_11 [0,10,18]) (
    .cond (.t 18) (
     .seq (
     .region false r42_12 [2,3]) (
     .ret)) (
     .seq (
     .region false r42_13 [0,20]) (
     .cond (.t 20) (
      .seq (
      .region false r42_14 [0,36]) (
      .cond (.t 36) (
       .seq (
       .region true r42_15 [2,3]) (
       .ret)) (
       .skip))) (
      .skip)))))))))))) (
 .seq (
 .region false r42_16 [2,3]) (
 .ret))))) }
theorem c42:cfunc Tryd.prog (kof k42) Tryd.f42=some f42:=by kernel_rfl
abbrev r43_0:List AOper:=[
 oo 2 (.mv (.c (.nils))) []]
abbrev r43_1:List AOper:=[
 oo 3 (.mv (.c (.int .i64 0))) []]
abbrev r43_2:List AOper:=[
 oo 4 (.mv (.c (.int .i64 1))) []]
abbrev r43_3:List AOper:=[
 oo 5 (.mv (.c (.int .u8 0))) []]
abbrev r43_4:List AOper:=[
 oo 6 (.mv (.c (.int .i64 0))) []]
abbrev r43_5:List AOper:=[
 oo 13 (.mv (.t 6)) [],
 oo 14 (.mv (.t 0)) [],
 oo 15 (.len 0 (.t 14)) [1],
 oo 16 (.bin .lss (.t 13) (.t 15)) [0,2]]
abbrev r43_7:List AOper:=[
 oo 19 (.mv (.t 0)) [],
 oo 20 (.mv (.t 6)) [],
 oo 21 (.idxS (.t 19) (.t 20)) [0,1],
 oo 7 (.mv (.t 21)) [2,0,1,2]]
abbrev r43_8:List AOper:=[
 oo 22 (.mv (.t 5)) [],
 oo 23 (.mv (.t 7)) [],
 oo 24 (.bin .or (.t 22) (.t 23)) [0,1],
 oo 5 (.mv (.t 24)) [2,0,1,2]]
abbrev r43_9:List AOper:=[
 oo 25 (.mv (.t 7)) [],
 oo 26 (.iaddrA 256 1 (gl 1) (.t 25)) [0],
 oo 27 (.load none (.t 26)) [1],
 oo 28 (.conv (.toInt .i64) (.t 27)) [2],
 oo 8 (.mv (.t 28)) [3,0,1,2,3]]
abbrev r43_10:List AOper:=[
 oo 29 (.mv (.t 3)) [],
 oo 30 (.mv (.t 4)) [],
 oo 31 (.mv (.t 8)) [],
 oo 32 (.un .xor (.t 31)) [2],
 oo 33 (.bin .and (.t 30) (.t 32)) [1,3],
 oo 34 (.bin .add (.t 29) (.t 33)) [0,4],
 oo 3 (.mv (.t 34)) [5,0,1,2,3,4,5]]
abbrev r43_11:List AOper:=[
 oo 35 (.mv (.t 8)) [],
 oo 4 (.mv (.t 35)) [0,0]]
abbrev r43_6:List AOper:=[
 oo 17 (.mv (.t 6)) [],
 oo 18 (.bin .add (.t 17) (.c (.int .i64 1))) [0],
 oo 6 (.mv (.t 18)) [1,0,1]]
def l43_0:ACode:=
 .seq (
 .seq (
 .region false r43_5 [0,3,4,5,6,16]) (
 .cond (.t 16) (
  .skip) (
  .exit 0))) (
 .seq (
 .block 1 (
  .seq (
  .region false r43_7 [0,3,4,5,6,7]) (
  .seq (
  .region false r43_8 [0,3,4,5,6,7]) (
  .seq (
  .region false r43_9 [0,3,4,5,6,8]) (
  .seq (
  .region false r43_10 [0,3,5,6,8]) (
  .region false r43_11 [0,3,4,5,6])))))) (
 .region false r43_6 [0,3,4,5,6]))
abbrev r43_12:List AOper:=[
 oo 36 (.mv (.t 5)) [],
 oo 37 (.bin .geq (.t 36) (.c (.int .u8 128))) [0]]
abbrev r43_13:List AOper:=[
 oo 38 (.mv (.t 0)) [],
 oo 39 (.callF 50 [(.t 38),(.c (.fn (.func 51) [] []))]) [0],
 oo 2 (.mv (.t 39)) [1,1,0,1]]
abbrev r43_14:List AOper:=[
 oo 40 (.mv (.t 3)) [],
 oo 41 (.mkslice 9 [.str ⟨#[]⟩] 16 (.t 40) (.t 40)) [0,0],
 oo 9 (.mv (.t 41)) [1,0,1]]
abbrev r43_15:List AOper:=[
 oo 10 (.mv (.c (.int .i64 0))) []]
abbrev r43_16:List AOper:=[
 oo 11 (.mv (.c (.int .i64 0))) []]
abbrev r43_17:List AOper:=[
 oo 12 (.mv (.c (.int .i64 0))) []]
abbrev r43_18:List AOper:=[
 oo 42 (.mv (.t 12)) [],
 oo 43 (.mv (.t 0)) [],
 oo 44 (.len 0 (.t 43)) [1],
 oo 45 (.bin .lss (.t 42) (.t 44)) [0,2],
 oo 46 (.mv (.t 45)) [3],
 og 47 (.mv (.t 0)) 46 true [4],
 og 48 (.mv (.t 12)) 46 true [4],
 og 49 (.idxS (.t 47) (.t 48)) 46 true [5,6,4],
 og 50 (.iaddrA 256 1 (gl 1) (.t 49)) 46 true [7,4],
 og 51 (.load none (.t 50)) 46 true [8,4],
 og 52 (.bin .neq (.t 51) (.c (.int .u8 0))) 46 true [9,4],
 oo 53 (.pick (.t 46) (.t 52) (.c (.bool false))) [4,10]]
abbrev r43_19:List AOper:=[
 oo 54 (.mv (.t 12)) [],
 oo 55 (.bin .add (.t 54) (.c (.int .i64 1))) [0],
 oo 12 (.mv (.t 55)) [1,0,1]]
def l43_1:ACode:=
 .seq (
 .seq (
 .region false r43_18 [0,9,10,12,53]) (
 .cond (.t 53) (
  .skip) (
  .exit 2))) (
 .block 3 (
  .region false r43_19 [0,9,10,12]))
abbrev r43_20:List AOper:=[
 oo 56 (.mv (.t 12)) [],
 oo 11 (.mv (.t 56)) [0,0]]
abbrev r43_21:List AOper:=[
 oo 57 (.mv (.t 12)) [],
 oo 58 (.mv (.t 0)) [],
 oo 59 (.len 0 (.t 58)) [1],
 oo 60 (.bin .lss (.t 57) (.t 59)) [0,2]]
abbrev r43_22:List AOper:=[
 oo 61 (.mv (.t 0)) [],
 oo 62 (.mv (.t 12)) [],
 oo 63 (.idxS (.t 61) (.t 62)) [0,1],
 oo 64 (.iaddrA 256 1 (gl 1) (.t 63)) [2],
 oo 65 (.load none (.t 64)) [3],
 oo 66 (.bin .eql (.t 65) (.c (.int .u8 0))) [4]]
abbrev r43_23:List AOper:=[
 oo 67 (.mv (.t 12)) [],
 oo 68 (.bin .add (.t 67) (.c (.int .i64 1))) [0],
 oo 12 (.mv (.t 68)) [1,0,1]]
abbrev r43_24:List AOper:=[
 oo 69 (.mv (.t 9)) [],
 oo 70 (.mv (.t 10)) [],
 oo 71 (.mv (.t 0)) [],
 oo 72 (.mv (.t 11)) [],
 oo 73 (.mv (.t 12)) [],
 oo 74 (.slcS (.t 71) (some (.t 72)) (some (.t 73))) [2,3,4],
 oo 75 (.iaddr 1 (.t 69) (.t 70)) [0,1,0,1,2,3,4,5],
 on (.store 1 (.t 75) (.t 74)) [6,5,0,1,2,3,4,5]]
abbrev r43_25:List AOper:=[
 oo 76 (.mv (.t 10)) [],
 oo 77 (.bin .add (.t 76) (.c (.int .i64 1))) [0],
 oo 10 (.mv (.t 77)) [1,0,1]]
abbrev r43_26:List AOper:=[
 oo 78 (.mv (.t 12)) [],
 oo 79 (.bin .add (.t 78) (.c (.int .i64 1))) [0],
 oo 12 (.mv (.t 79)) [1,0,1]]
abbrev r43_27:List AOper:=[
 oo 80 (.mv (.t 12)) [],
 oo 81 (.mv (.t 0)) [],
 oo 82 (.len 0 (.t 81)) [1],
 oo 83 (.bin .lss (.t 80) (.t 82)) [0,2],
 oo 84 (.mv (.t 83)) [3],
 og 85 (.mv (.t 0)) 84 true [4],
 og 86 (.mv (.t 12)) 84 true [4],
 og 87 (.idxS (.t 85) (.t 86)) 84 true [5,6,4],
 og 88 (.iaddrA 256 1 (gl 1) (.t 87)) 84 true [7,4],
 og 89 (.load none (.t 88)) 84 true [8,4],
 og 90 (.bin .neq (.t 89) (.c (.int .u8 0))) 84 true [9,4],
 oo 91 (.pick (.t 84) (.t 90) (.c (.bool false))) [4,10]]
abbrev r43_28:List AOper:=[
 oo 92 (.mv (.t 12)) [],
 oo 93 (.bin .add (.t 92) (.c (.int .i64 1))) [0],
 oo 12 (.mv (.t 93)) [1,0,1]]
def l43_2:ACode:=
 .seq (
 .seq (
 .region false r43_27 [0,9,10,12,91]) (
 .cond (.t 91) (
  .skip) (
  .exit 6))) (
 .block 7 (
  .region false r43_28 [0,9,10,12]))
abbrev r43_29:List AOper:=[
 oo 94 (.mv (.t 12)) [],
 oo 11 (.mv (.t 94)) [0,0]]
def l43_3:ACode:=
 .seq (
 .seq (
 .region false r43_21 [0,9,10,11,12,60]) (
 .cond (.t 60) (
  .skip) (
  .exit 4))) (
 .block 5 (
  .seq (
  .seq (
  .region false r43_22 [0,9,10,11,12,66]) (
  .cond (.t 66) (
   .seq (
   .region false r43_23 [0,9,10,11,12]) (
   .exit 5)) (
   .skip))) (
  .seq (
  .region false r43_24 [0,9,10,12]) (
  .seq (
  .region false r43_25 [0,9,10,12]) (
  .seq (
  .region false r43_26 [0,9,10,12]) (
  .seq (
  .block 6 (
   .loop l43_2)) (
  .region false r43_29 [0,9,10,11,12])))))))
abbrev r43_30:List AOper:=[
 oo 95 (.mv (.t 11)) [],
 oo 96 (.mv (.t 0)) [],
 oo 97 (.len 0 (.t 96)) [1],
 oo 98 (.bin .lss (.t 95) (.t 97)) [0,2]]
abbrev r43_31:List AOper:=[
 oo 99 (.mv (.t 9)) [],
 oo 100 (.mv (.t 10)) [],
 oo 101 (.mv (.t 0)) [],
 oo 102 (.mv (.t 11)) [],
 oo 103 (.slcS (.t 101) (some (.t 102)) none) [2,3],
 oo 104 (.iaddr 1 (.t 99) (.t 100)) [0,1,0,1,2,3,4],
 on (.store 1 (.t 104) (.t 103)) [5,4,0,1,2,3,4]]
abbrev r43_32:List AOper:=[
 oo 105 (.mv (.t 9)) [],
 oo 2 (.mv (.t 105)) [0,0]]
def k43:List (List Nat):=[[0],[0,3],[0,3,4],[0,3,4,5],[0,3,4,5,6],[0,3,4,5,6,16],[0,3,4,5,6],[0,3,4,5,6,7],[0,3,4,5,6,7],[0,3,4,5,6,8],[0,3,5,6,8],[0,3,4,5,6],[0,3,37],[2],[0,9],[0,9,10],[0,9,10],[0,9,10,12],[0,9,10,12,53],[0,9,10,12],[0,9,10,11,12],[0,9,10,11,12,60],[0,9,10,11,12,66],[0,9,10,11,12],[0,9,10,12],[0,9,10,12],[0,9,10,12],[0,9,10,12,91],[0,9,10,12],[0,9,10,11,12],[0,9,10,11,98],[9],[2]]
def f43:AFunc:={ ntmps:=106,results:=[.tmp 2],body:=(
 .seq (
 .region false r43_0 [0]) (
 .seq (
 .region false r43_1 [0,3]) (
 .seq (
 .region false r43_2 [0,3,4]) (
 .seq (
 .region false r43_3 [0,3,4,5]) (
 .seq (
 .seq (
 .region false r43_4 [0,3,4,5,6]) (
 .block 0 (
  .loop l43_0))) (
 .seq (
 .seq (
 .region false r43_12 [0,3,37]) (
 .cond (.t 37) (
  .seq (
  .region false r43_13 [2]) (
  .ret)) (
  .skip))) (
 .seq (
 .region false r43_14 [0,9]) (
 .seq (
 .region false r43_15 [0,9,10]) (
 .seq (
 .region false r43_16 [0,9,10]) (
 .seq (
 .region false r43_17 [0,9,10,12]) (
 .seq (
 .block 2 (
  .loop l43_1)) (
 .seq (
 .region false r43_20 [0,9,10,11,12]) (
 .seq (
 .block 4 (
  .loop l43_3)) (
 .seq (
 .seq (
 .region false r43_30 [0,9,10,11,98]) (
 .cond (.t 98) (
  .region false r43_31 [9]) (
  .skip))) (
 .seq (
 .region false r43_32 [2]) (
 .ret)))))))))))))))) }
theorem c43:cfunc Tryd.prog (kof k43) Tryd.f43=some f43:=by kernel_rfl
abbrev r44_0:List AOper:=[
 oo 4 (.mv (.c (.bool false))) []]
abbrev r44_1:List AOper:=[
 oo 5 (.mv (.t 0)) [],
 oo 6 (.mv (.t 1)) [],
 oo 7 (.callF 52 [(.t 5),(.t 6)]) [0,1],
 oo 4 (.mv (.t 7)) [2,2,0,1,2]]
def k44:List (List Nat):=[[0,1],[4]]
def f44:AFunc:={ ntmps:=8,results:=[.tmp 4],body:=(
 .seq (
 .region false r44_0 [0,1]) (
 .seq (
 .region false r44_1 [4]) (
 .ret))) }
theorem c44:cfunc Tryd.prog (kof k44) Tryd.f44=some f44:=by kernel_rfl
abbrev r47_0:List AOper:=[
 oo 4 (.mv (.c (.int .i64 0))) []]
abbrev r47_1:List AOper:=[
 oo 5 (.mv (.t 0)) [],
 oo 6 (.mv (.t 1)) [],
 oo 7 (.callF 56 [(.t 5),(.t 6)]) [0,1],
 oo 4 (.mv (.t 7)) [2,2,0,1,2]]
def k47:List (List Nat):=[[0,1],[4]]
def f47:AFunc:={ ntmps:=8,results:=[.tmp 4],body:=(
 .seq (
 .region false r47_0 [0,1]) (
 .seq (
 .region false r47_1 [4]) (
 .ret))) }
theorem c47:cfunc Tryd.prog (kof k47) Tryd.f47=some f47:=by kernel_rfl
abbrev r48_0:List AOper:=[
 oo 2 (.alloc 78 (.agg [.int .i64 0,.int .i64 0,.flt .f64 0,.str ⟨#[]⟩,.nils])) [],
 oo 3 (.mv (.c (.int .i64 0))) []]
abbrev r48_1:List AOper:=[
 oo 4 (.mv (.t 0)) [],
 oo 5 (.callF 57 [(.t 4)]) [0],
 oo 6 (.mv (.t 5)) [1,1],
 og 7 (.mv (.t 0)) 6 false [2],
 og 8 (.callF 58 [(.t 7),(.c (.int .i64 0))]) 6 false [3,2,2],
 oo 9 (.pick (.t 6) (.c (.bool true)) (.t 8)) [2,4]]
abbrev r48_2:List AOper:=[
 oo 10 (.build [.int .i64 0,.int .i64 0,.flt .f64 0,.str ⟨#[]⟩,.nils] []) [],
 on (.store 5 (.t 2) (.t 10)) [0,0],
 oo 3 (.mv (.c (.int .i64 11))) [1,0,1]]
abbrev r48_3:List AOper:=[
 oo 11 (.mv (.t 0)) [],
 oo 12 (.build [.int .i64 0,.int .i64 0,.flt .f64 0,.str ⟨#[]⟩,.nils] [(0,1,(.c (.int .i64 2))),(2,1,(.t 11))]) [0],
 on (.store 5 (.t 2) (.t 12)) [1,0,1],
 oo 3 (.mv (.c (.int .i64 0))) [2,0,1,2]]
def k48:List (List Nat):=[[0,2],[0,2,9],[2,3],[2,3]]
def f48:AFunc:={ ntmps:=13,results:=[.cell 2 (some 5),.tmp 3],body:=(
 .seq (
 .region false r48_0 [0,2]) (
 .seq (
 .seq (
 .region false r48_1 [0,2,9]) (
 .cond (.t 9) (
  .seq (
  .region false r48_2 [2,3]) (
  .ret)) (
  .skip))) (
 .seq (
 .region false r48_3 [2,3]) (
 .ret)))) }
theorem c48:cfunc Tryd.prog (kof k48) Tryd.f48=some f48:=by kernel_rfl
abbrev r50_0:List AOper:=[
 oo 4 (.mv (.c (.nils))) []]
abbrev r50_1:List AOper:=[
 oo 12 (.mkslice 96 [.int .i64 0,.int .i64 0] 16 (.c (.int .i64 0)) (.c (.int .i64 32))) [],
 oo 5 (.mv (.t 12)) [0,0]]
abbrev r50_2:List AOper:=[
 oo 6 (.mv (.c (.int .i64 (-1)))) []]
abbrev r50_3:List AOper:=[
 oo 13 (.mv (.t 0)) [],
 oo 14 (.rngS (.t 13)) [0]]
abbrev r50_4:List AOper:=[
 oo 15 (.nxtS (.t 14)) [],
 oo 16 (.extract (.t 15) 0) [0]]
abbrev r50_5:List AOper:=[
 oo 17 (.extract (.t 15) 1) [],
 oo 18 (.extract (.t 15) 2) [],
 oo 7 (.mv (.t 17)) [0,0],
 oo 8 (.mv (.t 18)) [1,2,0,1,2]]
abbrev r50_6:List AOper:=[
 oo 19 (.mv (.t 1)) [],
 oo 20 (.mv (.t 8)) [],
 oo 21 (.callV (.t 19) [(.t 20)]) [0,1]]
abbrev r50_7:List AOper:=[
 oo 22 (.mv (.t 6)) [],
 oo 23 (.bin .geq (.t 22) (.c (.int .i64 0))) [0]]
abbrev r50_8:List AOper:=[
 oo 24 (.mv (.t 5)) [],
 oo 25 (.mv (.t 6)) [],
 oo 26 (.mv (.t 7)) [],
 oo 27 (.build [.int .i64 0,.int .i64 0] [(0,1,(.t 25)),(1,1,(.t 26))]) [1,2],
 oo 28 (.bslice 96 1 [.int .i64 0,.int .i64 0] [(0,2,(.t 27))]) [3],
 oo 29 (.app 96 2 16 (.t 24) (.t 28)) [0,4],
 oo 5 (.mv (.t 29)) [5,5,0,1,2,3,4,5]]
abbrev r50_9:List AOper:=[
 oo 30 (.mv (.t 6)) [],
 oo 31 (.un .xor (.t 30)) [0],
 oo 6 (.mv (.t 31)) [1,0,1]]
abbrev r50_10:List AOper:=[
 oo 32 (.mv (.t 6)) [],
 oo 33 (.bin .lss (.t 32) (.c (.int .i64 0))) [0]]
abbrev r50_11:List AOper:=[
 oo 34 (.mv (.t 7)) [],
 oo 6 (.mv (.t 34)) [0,0]]
def l50_0:ACode:=
 .seq (
 .region false r50_4 [0,1,5,6,14,15,16]) (
 .seq (
 .cond (.t 16) (
  .skip) (
  .exit 0)) (
 .block 1 (
  .seq (
  .region false r50_5 [0,1,5,6,7,8,14]) (
  .seq (
  .region false r50_6 [0,1,5,6,7,14,21]) (
  .cond (.t 21) (
   .seq (
   .region false r50_7 [0,1,5,6,7,14,23]) (
   .cond (.t 23) (
    .seq (
    .region false r50_8 [0,1,5,6,14]) (
    .region false r50_9 [0,1,5,6,14])) (
    .skip))) (
   .seq (
   .region false r50_10 [0,1,5,6,7,14,33]) (
   .cond (.t 33) (
    .region false r50_11 [0,1,5,6,14]) (
    .skip))))))))
abbrev r50_12:List AOper:=[
 oo 35 (.mv (.t 6)) [],
 oo 36 (.bin .geq (.t 35) (.c (.int .i64 0))) [0]]
abbrev r50_13:List AOper:=[
 oo 37 (.mv (.t 5)) [],
 oo 38 (.mv (.t 6)) [],
 oo 39 (.mv (.t 0)) [],
 oo 40 (.len 0 (.t 39)) [2],
 oo 41 (.build [.int .i64 0,.int .i64 0] [(0,1,(.t 38)),(1,1,(.t 40))]) [1,3],
 oo 42 (.bslice 96 1 [.int .i64 0,.int .i64 0] [(0,2,(.t 41))]) [4],
 oo 43 (.app 96 2 16 (.t 37) (.t 42)) [0,5],
 oo 5 (.mv (.t 43)) [6,6,0,1,2,3,4,5,6]]
abbrev r50_14:List AOper:=[
 oo 44 (.mv (.t 5)) [],
 oo 45 (.len 1 (.t 44)) [0],
 oo 46 (.mkslice 9 [.str ⟨#[]⟩] 16 (.t 45) (.t 45)) [1,1],
 oo 9 (.mv (.t 46)) [2,0,1,2]]
abbrev r50_15:List AOper:=[
 oo 47 (.mv (.t 5)) [],
 oo 48 (.len 1 (.t 47)) [0],
 oo 49 (.mv (.c (.int .i64 0))) []]
abbrev r50_16:List AOper:=[
 oo 50 (.bin .lss (.t 49) (.t 48)) []]
abbrev r50_17:List AOper:=[
 oo 51 (.mv (.t 49)) [],
 oo 52 (.iaddr 2 (.t 47) (.t 49)) [],
 oo 53 (.load (some 2) (.t 52)) [1],
 oo 11 (.alloc 96 (.agg [.int .i64 0,.int .i64 0])) [],
 oo 10 (.mv (.t 51)) [0,0,1,2,3],
 on (.store 2 (.t 11) (.t 53)) [3,2,4,0,1,2,3,4]]
abbrev r50_18:List AOper:=[
 oo 54 (.mv (.t 9)) [],
 oo 55 (.mv (.t 10)) [],
 oo 56 (.mv (.t 0)) [],
 oo 57 (.faddr 0 (.t 11)) [],
 oo 58 (.load none (.t 57)) [3],
 oo 59 (.faddr 1 (.t 11)) [],
 oo 60 (.load none (.t 59)) [5],
 oo 61 (.slcS (.t 56) (some (.t 58)) (some (.t 60))) [2,4,6],
 oo 62 (.iaddr 1 (.t 54) (.t 55)) [0,1,0,1,2,3,4,5,6,7],
 on (.store 1 (.t 62) (.t 61)) [8,7,0,1,2,3,4,5,6,7]]
abbrev r50_19:List AOper:=[
 oo 63 (.bin .add (.t 49) (.c (.int .i64 1))) [],
 oo 49 (.mv (.t 63)) [0]]
def l50_1:ACode:=
 .seq (
 .region false r50_16 [0,9,47,48,49,50]) (
 .seq (
 .cond (.t 50) (
  .skip) (
  .exit 2)) (
 .seq (
 .block 3 (
  .seq (
  .region false r50_17 [0,9,10,11,47,48,49]) (
  .region false r50_18 [0,9,47,48,49]))) (
 .region false r50_19 [0,9,47,48,49])))
abbrev r50_20:List AOper:=[
 oo 64 (.mv (.t 9)) [],
 oo 4 (.mv (.t 64)) [0,0]]
def k50:List (List Nat):=[[0,1],[0,1,5],[0,1,5,6],[0,1,5,6,14],[0,1,5,6,14,15,16],[0,1,5,6,7,8,14],[0,1,5,6,7,14,21],[0,1,5,6,7,14,23],[0,1,5,6,14],[0,1,5,6,14],[0,1,5,6,7,14,33],[0,1,5,6,14],[0,5,6,36],[0,5],[0,5,9],[0,9,47,48,49],[0,9,47,48,49,50],[0,9,10,11,47,48,49],[0,9,47,48,49],[0,9,47,48,49],[4]]
def f50:AFunc:={ ntmps:=65,results:=[.tmp 4],body:=(
 .seq (
 .region false r50_0 [0,1]) (
 .seq (
 .region false r50_1 [0,1,5]) (
 .seq (
 .region false r50_2 [0,1,5,6]) (
 .seq (
 .seq (
 .region false r50_3 [0,1,5,6,14]) (
 .block 0 (
  .loop l50_0))) (
 .seq (
 .seq (
 .region false r50_12 [0,5,6,36]) (
 .cond (.t 36) (
  .region false r50_13 [0,5]) (
  .skip))) (
 .seq (
 .region false r50_14 [0,5,9]) (
 .seq (
 .seq (
 .region false r50_15 [0,9,47,48,49]) (
 .block 2 (
  .loop l50_1))) (
 .seq (
 .region false r50_20 [4]) (
 .ret))))))))) }
theorem c50:cfunc Tryd.prog (kof k50) Tryd.f50=some f50:=by kernel_rfl
abbrev r51_0:List AOper:=[
 oo 2 (.mv (.c (.bool false))) []]
abbrev r51_1:List AOper:=[
 oo 3 (.mv (.t 0)) [],
 oo 4 (.conv (.toInt .u32) (.t 3)) [0],
 oo 5 (.bin .leq (.t 4) (.c (.int .u32 255))) [1]]
abbrev r51_2:List AOper:=[
 oo 6 (.mv (.t 0)) []]
abbrev r51_3:List AOper:=[
 oo 8 (.bin .eql (.t 6) (.c (.int .i32 9))) [],
 oo 7 (.mv (.t 8)) [0]]
abbrev r51_4:List AOper:=[
 oo 9 (.bin .eql (.t 6) (.c (.int .i32 10))) [],
 oo 7 (.mv (.t 9)) [0]]
abbrev r51_5:List AOper:=[
 oo 10 (.bin .eql (.t 6) (.c (.int .i32 11))) [],
 oo 7 (.mv (.t 10)) [0]]
abbrev r51_6:List AOper:=[
 oo 11 (.bin .eql (.t 6) (.c (.int .i32 12))) [],
 oo 7 (.mv (.t 11)) [0]]
abbrev r51_7:List AOper:=[
 oo 12 (.bin .eql (.t 6) (.c (.int .i32 13))) [],
 oo 7 (.mv (.t 12)) [0]]
abbrev r51_8:List AOper:=[
 oo 13 (.bin .eql (.t 6) (.c (.int .i32 32))) [],
 oo 7 (.mv (.t 13)) [0]]
abbrev r51_9:List AOper:=[
 oo 14 (.bin .eql (.t 6) (.c (.int .i32 133))) [],
 oo 7 (.mv (.t 14)) [0]]
abbrev r51_10:List AOper:=[
 oo 15 (.bin .eql (.t 6) (.c (.int .i32 160))) [],
 oo 7 (.mv (.t 15)) [0]]
abbrev r51_11:List AOper:=[
 oo 2 (.mv (.c (.bool true))) []]
abbrev r51_12:List AOper:=[
 oo 2 (.mv (.c (.bool false))) []]
abbrev r51_13:List AOper:=[
 oo 16 (.load none (gl 2)) [],
 oo 17 (.mv (.t 0)) [],
 oo 18 (.callF 59 [(.t 16),(.t 17)]) [0,1],
 oo 2 (.mv (.t 18)) [2,2,0,1,2]]
def k51:List (List Nat):=[[0],[0,5],[6],[6,7],[6,7],[6,7],[6,7],[6,7],[6,7],[6,7],[7],[2],[2],[2]]
def f51:AFunc:={ ntmps:=19,results:=[.tmp 2],body:=(
 .seq (
 .region false r51_0 [0]) (
 .seq (
 .seq (
 .region false r51_1 [0,5]) (
 .cond (.t 5) (
  .seq (
  .seq (
  .region false r51_2 [6]) (
  .block 0 (
   .seq (
   .seq (
   .region false r51_3 [6,7]) (
   .cond (.t 7) (
    .skip) (
    .seq (
    .region false r51_4 [6,7]) (
    .cond (.t 7) (
     .skip) (
     .seq (
     .region false r51_5 [6,7]) (
     .cond (.t 7) (
      .skip) (
      .seq (
      .region false r51_6 [6,7]) (
      .cond (.t 7) (
       .skip) (
       .seq (
       .region false r51_7 [6,7]) (
       .cond (.t 7) (
        .skip) (
        .seq (
        .region false r51_8 [6,7]) (
        .cond (.t 7) (
         .skip) (
         .seq (
         .region false r51_9 [6,7]) (
         .cond (.t 7) (
          .skip) (
          .region false r51_10 [7]))))))))))))))) (
   .cond (.t 7) (
    .seq (
    .region false r51_11 [2]) (
    .ret)) (
    .skip))))) (
  .seq (
  .region false r51_12 [2]) (
  .ret))) (
  .skip))) (
 .seq (
 .region false r51_13 [2]) (
 .ret)))) }
theorem c51:cfunc Tryd.prog (kof k51) Tryd.f51=some f51:=by kernel_rfl
abbrev r52_0:List AOper:=[
 oo 4 (.mv (.c (.bool false))) []]
abbrev r52_1:List AOper:=[
 oo 5 (.mv (.t 0)) [],
 oo 6 (.len 0 (.t 5)) [0],
 oo 7 (.mv (.t 1)) [],
 oo 8 (.len 0 (.t 7)) [2],
 oo 9 (.bin .geq (.t 6) (.t 8)) [1,3],
 oo 10 (.mv (.t 9)) [4],
 og 11 (.mv (.t 0)) 10 true [5],
 og 12 (.mv (.t 1)) 10 true [5],
 og 13 (.len 0 (.t 12)) 10 true [7,5],
 og 14 (.slcS (.t 11) none (some (.t 13))) 10 true [6,8,5],
 og 15 (.mv (.t 1)) 10 true [5],
 og 16 (.bin .eql (.t 14) (.t 15)) 10 true [9,10,5],
 oo 17 (.pick (.t 10) (.t 16) (.c (.bool false))) [5,11],
 oo 4 (.mv (.t 17)) [12,5,0,1,2,3,4,5,6,7,8,9,10,11,12]]
def k52:List (List Nat):=[[0,1],[4]]
def f52:AFunc:={ ntmps:=18,results:=[.tmp 4],body:=(
 .seq (
 .region false r52_0 [0,1]) (
 .seq (
 .region false r52_1 [4]) (
 .ret))) }
theorem c52:cfunc Tryd.prog (kof k52) Tryd.f52=some f52:=by kernel_rfl
abbrev r56_0:List AOper:=[
 oo 4 (.mv (.c (.int .i64 0))) []]
abbrev r56_1:List AOper:=[
 oo 5 (.mv (.t 0)) [],
 oo 6 (.mv (.t 1)) [],
 oo 7 (.ext 2 [(.t 5),(.t 6)]) [0,1],
 oo 4 (.mv (.t 7)) [2,2,0,1,2]]
def k56:List (List Nat):=[[0,1],[4]]
def f56:AFunc:={ ntmps:=8,results:=[.tmp 4],body:=(
 .seq (
 .region false r56_0 [0,1]) (
 .seq (
 .region false r56_1 [4]) (
 .ret))) }
theorem c56:cfunc Tryd.prog (kof k56) Tryd.f56=some f56:=by kernel_rfl
abbrev r57_0:List AOper:=[
 oo 2 (.mv (.c (.bool false))) []]
abbrev r57_1:List AOper:=[
 oo 3 (.mv (.t 0)) [],
 oo 4 (.mv (.t 0)) [],
 oo 5 (.bin .neq (.t 3) (.t 4)) [0,1],
 oo 2 (.mv (.t 5)) [2,0,1,2]]
def k57:List (List Nat):=[[0],[2]]
def f57:AFunc:={ ntmps:=6,results:=[.tmp 2],body:=(
 .seq (
 .region false r57_0 [0]) (
 .seq (
 .region false r57_1 [2]) (
 .ret))) }
theorem c57:cfunc Tryd.prog (kof k57) Tryd.f57=some f57:=by kernel_rfl
abbrev r58_0:List AOper:=[
 oo 4 (.mv (.c (.bool false))) []]
abbrev r58_1:List AOper:=[
 oo 5 (.mv (.t 1)) [],
 oo 6 (.bin .eql (.t 5) (.c (.int .i64 0))) [0]]
abbrev r58_2:List AOper:=[
 oo 7 (.mv (.t 0)) [],
 oo 8 (.callF 64 [(.t 7)]) [0],
 oo 0 (.mv (.t 8)) [1,1,0,1]]
abbrev r58_3:List AOper:=[
 oo 9 (.mv (.t 1)) [],
 oo 10 (.bin .lss (.t 9) (.c (.int .i64 0))) [0]]
abbrev r58_4:List AOper:=[
 oo 11 (.mv (.t 0)) [],
 oo 12 (.un .neg (.t 11)) [0],
 oo 0 (.mv (.t 12)) [1,0,1]]
abbrev r58_5:List AOper:=[
 oo 13 (.mv (.t 0)) [],
 oo 14 (.bin .gtr (.t 13) (.c (.flt .f64 9218868437227405311))) [0],
 oo 4 (.mv (.t 14)) [1,0,1]]
def k58:List (List Nat):=[[0,1],[0,1,6],[0],[0,10],[0],[4]]
def f58:AFunc:={ ntmps:=15,results:=[.tmp 4],body:=(
 .seq (
 .region false r58_0 [0,1]) (
 .seq (
 .seq (
 .region false r58_1 [0,1,6]) (
 .cond (.t 6) (
  .region false r58_2 [0]) (
  .seq (
  .region false r58_3 [0,10]) (
  .cond (.t 10) (
   .region false r58_4 [0]) (
   .skip))))) (
 .seq (
 .region false r58_5 [4]) (
 .ret)))) }
theorem c58:cfunc Tryd.prog (kof k58) Tryd.f58=some f58:=by kernel_rfl
abbrev r59_0:List AOper:=[
 oo 4 (.mv (.c (.bool false))) []]
abbrev r59_1:List AOper:=[
 oo 8 (.mv (.t 0)) [],
 oo 9 (.nilchk (.t 8)) [0],
 oo 10 (.faddr 0 (.t 9)) [1],
 oo 11 (.load none (.t 10)) [2],
 oo 5 (.mv (.t 11)) [3,0,1,2,3]]
abbrev r59_2:List AOper:=[
 oo 12 (.mv (.t 0)) [],
 oo 13 (.nilchk (.t 12)) [0],
 oo 14 (.faddr 2 (.t 13)) [1],
 oo 15 (.load none (.t 14)) [2],
 oo 6 (.mv (.t 15)) [3,0,1,2,3]]
abbrev r59_3:List AOper:=[
 oo 16 (.mv (.t 5)) [],
 oo 17 (.len 1 (.t 16)) [0],
 oo 18 (.mv (.t 6)) [],
 oo 19 (.bin .gtr (.t 17) (.t 18)) [1,2],
 oo 20 (.mv (.t 19)) [3],
 og 21 (.mv (.t 1)) 20 true [4],
 og 22 (.conv (.toInt .u32) (.t 21)) 20 true [5,4],
 og 23 (.mv (.t 5)) 20 true [4],
 og 24 (.mv (.t 5)) 20 true [4],
 og 25 (.len 1 (.t 24)) 20 true [8,4],
 og 26 (.bin .sub (.t 25) (.c (.int .i64 1))) 20 true [9,4],
 og 27 (.iaddr 3 (.t 23) (.t 26)) 20 true [7,10,4],
 og 28 (.faddr 1 (.t 27)) 20 true [11,4],
 og 29 (.load none (.t 28)) 20 true [12,4],
 og 30 (.conv (.toInt .u32) (.t 29)) 20 true [13,4],
 og 31 (.bin .leq (.t 22) (.t 30)) 20 true [6,14,4],
 oo 32 (.pick (.t 20) (.t 31) (.c (.bool false))) [4,15]]
abbrev r59_4:List AOper:=[
 oo 33 (.mv (.t 5)) [],
 oo 34 (.mv (.t 6)) [],
 oo 35 (.slc 109 3 (.t 33) (some (.t 34)) none none) [0,1],
 oo 36 (.mv (.t 1)) [],
 oo 37 (.conv (.toInt .u16) (.t 36)) [3],
 oo 38 (.callF 65 [(.t 35),(.t 37)]) [2,4],
 oo 4 (.mv (.t 38)) [5,5,0,1,2,3,4,5]]
abbrev r59_5:List AOper:=[
 oo 39 (.mv (.t 0)) [],
 oo 40 (.nilchk (.t 39)) [0],
 oo 41 (.faddr 1 (.t 40)) [1],
 oo 42 (.load none (.t 41)) [2],
 oo 7 (.mv (.t 42)) [3,0,1,2,3]]
abbrev r59_6:List AOper:=[
 oo 43 (.mv (.t 7)) [],
 oo 44 (.len 1 (.t 43)) [0],
 oo 45 (.bin .gtr (.t 44) (.c (.int .i64 0))) [1],
 oo 46 (.mv (.t 45)) [2],
 og 47 (.mv (.t 1)) 46 true [3],
 og 48 (.mv (.t 7)) 46 true [3],
 og 49 (.iaddr 3 (.t 48) (.c (.int .i64 0))) 46 true [5,3],
 og 50 (.faddr 0 (.t 49)) 46 true [6,3],
 og 51 (.load none (.t 50)) 46 true [7,3],
 og 52 (.conv (.toInt .i32) (.t 51)) 46 true [8,3],
 og 53 (.bin .geq (.t 47) (.t 52)) 46 true [4,9,3],
 oo 54 (.pick (.t 46) (.t 53) (.c (.bool false))) [3,10]]
abbrev r59_7:List AOper:=[
 oo 55 (.mv (.t 7)) [],
 oo 56 (.mv (.t 1)) [],
 oo 57 (.conv (.toInt .u32) (.t 56)) [1],
 oo 58 (.callF 66 [(.t 55),(.t 57)]) [0,2],
 oo 4 (.mv (.t 58)) [3,3,0,1,2,3]]
abbrev r59_8:List AOper:=[
 oo 4 (.mv (.c (.bool false))) []]
def k59:List (List Nat):=[[0,1],[0,1,5],[0,1,5,6],[0,1,5,6,32],[4],[1,7],[1,7,54],[4],[4]]
def f59:AFunc:={ ntmps:=59,results:=[.tmp 4],body:=(
 .seq (
 .region false r59_0 [0,1]) (
 .seq (
 .region false r59_1 [0,1,5]) (
 .seq (
 .seq (
 .region false r59_2 [0,1,5,6]) (
 .seq (
 .region false r59_3 [0,1,5,6,32]) (
 .cond (.t 32) (
  .seq (
  .region false r59_4 [4]) (
  .ret)) (
  .skip)))) (
 .seq (
 .region false r59_5 [1,7]) (
 .seq (
 .seq (
 .region false r59_6 [1,7,54]) (
 .cond (.t 54) (
  .seq (
  .region false r59_7 [4]) (
  .ret)) (
  .skip))) (
 .seq (
 .region false r59_8 [4]) (
 .ret))))))) }
theorem c59:cfunc Tryd.prog (kof k59) Tryd.f59=some f59:=by kernel_rfl
abbrev r64_0:List AOper:=[
 oo 2 (.mv (.c (.flt .f64 0))) []]
abbrev r64_1:List AOper:=[
 oo 3 (.mv (.t 0)) [],
 oo 4 (.ext 0 [(.t 3)]) [0],
 oo 5 (.bin .andNot (.t 4) (.c (.int .u64 9223372036854775808))) [1],
 oo 6 (.ext 1 [(.t 5)]) [2,1],
 oo 2 (.mv (.t 6)) [3,3,0,1,2,3]]
def k64:List (List Nat):=[[0],[2]]
def f64:AFunc:={ ntmps:=7,results:=[.tmp 2],body:=(
 .seq (
 .region false r64_0 [0]) (
 .seq (
 .region false r64_1 [2]) (
 .ret))) }
theorem c64:cfunc Tryd.prog (kof k64) Tryd.f64=some f64:=by kernel_rfl
abbrev r65_0:List AOper:=[
 oo 4 (.mv (.c (.bool false))) []]
abbrev r65_1:List AOper:=[
 oo 11 (.mv (.t 0)) [],
 oo 12 (.len 1 (.t 11)) [0],
 oo 13 (.bin .leq (.t 12) (.c (.int .i64 18))) [1],
 oo 14 (.mv (.t 13)) [2],
 og 15 (.mv (.t 1)) 14 false [3],
 og 16 (.bin .leq (.t 15) (.c (.int .u16 255))) 14 false [4,3],
 oo 17 (.pick (.t 14) (.c (.bool true)) (.t 16)) [3,5]]
abbrev r65_2:List AOper:=[
 oo 18 (.mv (.t 0)) [],
 oo 19 (.len 1 (.t 18)) [0],
 oo 20 (.mv (.c (.int .i64 0))) []]
abbrev r65_3:List AOper:=[
 oo 21 (.bin .lss (.t 20) (.t 19)) []]
abbrev r65_4:List AOper:=[
 oo 22 (.mv (.t 20)) [],
 oo 5 (.mv (.t 22)) [0,0]]
abbrev r65_5:List AOper:=[
 oo 23 (.mv (.t 0)) [],
 oo 24 (.mv (.t 5)) [],
 oo 25 (.iaddr 3 (.t 23) (.t 24)) [0,1],
 oo 6 (.mv (.t 25)) [2,0,1,2]]
abbrev r65_6:List AOper:=[
 oo 26 (.mv (.t 1)) [],
 oo 27 (.mv (.t 6)) [],
 oo 28 (.nilchk (.t 27)) [1],
 oo 29 (.faddr 0 (.t 28)) [2],
 oo 30 (.load none (.t 29)) [3],
 oo 31 (.bin .lss (.t 26) (.t 30)) [0,4]]
abbrev r65_7:List AOper:=[
 oo 4 (.mv (.c (.bool false))) []]
abbrev r65_8:List AOper:=[
 oo 32 (.mv (.t 1)) [],
 oo 33 (.mv (.t 6)) [],
 oo 34 (.nilchk (.t 33)) [1],
 oo 35 (.faddr 1 (.t 34)) [2],
 oo 36 (.load none (.t 35)) [3],
 oo 37 (.bin .leq (.t 32) (.t 36)) [0,4]]
abbrev r65_9:List AOper:=[
 oo 38 (.mv (.t 6)) [],
 oo 39 (.nilchk (.t 38)) [0],
 oo 40 (.faddr 2 (.t 39)) [1],
 oo 41 (.load none (.t 40)) [2],
 oo 42 (.bin .eql (.t 41) (.c (.int .u16 1))) [3],
 oo 43 (.mv (.t 42)) [4],
 og 44 (.mv (.t 1)) 43 false [5],
 og 45 (.mv (.t 6)) 43 false [5],
 og 46 (.nilchk (.t 45)) 43 false [7,5],
 og 47 (.faddr 0 (.t 46)) 43 false [8,5],
 og 48 (.load none (.t 47)) 43 false [9,5],
 og 49 (.bin .sub (.t 44) (.t 48)) 43 false [6,10,5],
 og 50 (.mv (.t 6)) 43 false [5],
 og 51 (.nilchk (.t 50)) 43 false [12,5],
 og 52 (.faddr 2 (.t 51)) 43 false [13,5],
 og 53 (.load none (.t 52)) 43 false [14,5],
 og 54 (.bin .rem (.t 49) (.t 53)) 43 false [11,15,5],
 og 55 (.bin .eql (.t 54) (.c (.int .u16 0))) 43 false [16,5],
 oo 56 (.pick (.t 43) (.c (.bool true)) (.t 55)) [5,17],
 oo 4 (.mv (.t 56)) [18,5,0,1,2,3,4,5,6,7,8,9,10,11,12,13,14,15,16,17,18]]
abbrev r65_10:List AOper:=[
 oo 57 (.bin .add (.t 20) (.c (.int .i64 1))) [],
 oo 20 (.mv (.t 57)) [0]]
def l65_0:ACode:=
 .seq (
 .region false r65_3 [0,1,19,20,21]) (
 .seq (
 .cond (.t 21) (
  .skip) (
  .exit 0)) (
 .seq (
 .block 1 (
  .seq (
  .region false r65_4 [0,1,5,19,20]) (
  .seq (
  .region false r65_5 [0,1,6,19,20]) (
  .seq (
  .seq (
  .region false r65_6 [0,1,6,19,20,31]) (
  .cond (.t 31) (
   .seq (
   .region false r65_7 [4]) (
   .ret)) (
   .skip))) (
  .seq (
  .region false r65_8 [0,1,6,19,20,37]) (
  .cond (.t 37) (
   .seq (
   .region true r65_9 [4]) (
   .ret)) (
   .skip))))))) (
 .region false r65_10 [0,1,19,20])))
abbrev r65_11:List AOper:=[
 oo 4 (.mv (.c (.bool false))) []]
abbrev r65_12:List AOper:=[
 oo 7 (.mv (.c (.int .i64 0))) []]
abbrev r65_13:List AOper:=[
 oo 58 (.mv (.t 0)) [],
 oo 59 (.len 1 (.t 58)) [0],
 oo 8 (.mv (.t 59)) [1,0,1]]
abbrev r65_14:List AOper:=[
 oo 60 (.mv (.t 7)) [],
 oo 61 (.mv (.t 8)) [],
 oo 62 (.bin .lss (.t 60) (.t 61)) [0,1]]
abbrev r65_15:List AOper:=[
 oo 63 (.mv (.t 7)) [],
 oo 64 (.mv (.t 8)) [],
 oo 65 (.bin .add (.t 63) (.t 64)) [0,1],
 oo 66 (.conv (.toInt .u64) (.t 65)) [2],
 oo 67 (.bin .shr (.t 66) (.c (.int .u64 1))) [3],
 oo 68 (.conv (.toInt .i64) (.t 67)) [4],
 oo 9 (.mv (.t 68)) [5,0,1,2,3,4,5]]
abbrev r65_16:List AOper:=[
 oo 69 (.mv (.t 0)) [],
 oo 70 (.mv (.t 9)) [],
 oo 71 (.iaddr 3 (.t 69) (.t 70)) [0,1],
 oo 10 (.mv (.t 71)) [2,0,1,2]]
abbrev r65_17:List AOper:=[
 oo 72 (.mv (.t 10)) [],
 oo 73 (.nilchk (.t 72)) [0],
 oo 74 (.faddr 0 (.t 73)) [1],
 oo 75 (.load none (.t 74)) [2],
 oo 76 (.mv (.t 1)) [],
 oo 77 (.bin .leq (.t 75) (.t 76)) [3,4],
 oo 78 (.mv (.t 77)) [5],
 og 79 (.mv (.t 1)) 78 true [6],
 og 80 (.mv (.t 10)) 78 true [6],
 og 81 (.nilchk (.t 80)) 78 true [8,6],
 og 82 (.faddr 1 (.t 81)) 78 true [9,6],
 og 83 (.load none (.t 82)) 78 true [10,6],
 og 84 (.bin .leq (.t 79) (.t 83)) 78 true [7,11,6],
 oo 85 (.pick (.t 78) (.t 84) (.c (.bool false))) [6,12]]
abbrev r65_18:List AOper:=[
 oo 86 (.mv (.t 10)) [],
 oo 87 (.nilchk (.t 86)) [0],
 oo 88 (.faddr 2 (.t 87)) [1],
 oo 89 (.load none (.t 88)) [2],
 oo 90 (.bin .eql (.t 89) (.c (.int .u16 1))) [3],
 oo 91 (.mv (.t 90)) [4],
 og 92 (.mv (.t 1)) 91 false [5],
 og 93 (.mv (.t 10)) 91 false [5],
 og 94 (.nilchk (.t 93)) 91 false [7,5],
 og 95 (.faddr 0 (.t 94)) 91 false [8,5],
 og 96 (.load none (.t 95)) 91 false [9,5],
 og 97 (.bin .sub (.t 92) (.t 96)) 91 false [6,10,5],
 og 98 (.mv (.t 10)) 91 false [5],
 og 99 (.nilchk (.t 98)) 91 false [12,5],
 og 100 (.faddr 2 (.t 99)) 91 false [13,5],
 og 101 (.load none (.t 100)) 91 false [14,5],
 og 102 (.bin .rem (.t 97) (.t 101)) 91 false [11,15,5],
 og 103 (.bin .eql (.t 102) (.c (.int .u16 0))) 91 false [16,5],
 oo 104 (.pick (.t 91) (.c (.bool true)) (.t 103)) [5,17],
 oo 4 (.mv (.t 104)) [18,5,0,1,2,3,4,5,6,7,8,9,10,11,12,13,14,15,16,17,18]]
abbrev r65_19:List AOper:=[
 oo 105 (.mv (.t 1)) [],
 oo 106 (.mv (.t 10)) [],
 oo 107 (.nilchk (.t 106)) [1],
 oo 108 (.faddr 0 (.t 107)) [2],
 oo 109 (.load none (.t 108)) [3],
 oo 110 (.bin .lss (.t 105) (.t 109)) [0,4]]
abbrev r65_20:List AOper:=[
 oo 111 (.mv (.t 9)) [],
 oo 8 (.mv (.t 111)) [0,0]]
abbrev r65_21:List AOper:=[
 oo 112 (.mv (.t 9)) [],
 oo 113 (.bin .add (.t 112) (.c (.int .i64 1))) [0],
 oo 7 (.mv (.t 113)) [1,0,1]]
def l65_1:ACode:=
 .seq (
 .seq (
 .region false r65_14 [0,1,7,8,62]) (
 .cond (.t 62) (
  .skip) (
  .exit 2))) (
 .block 3 (
  .seq (
  .region false r65_15 [0,1,7,8,9]) (
  .seq (
  .region false r65_16 [0,1,7,8,9,10]) (
  .seq (
  .seq (
  .region false r65_17 [0,1,7,8,9,10,85]) (
  .cond (.t 85) (
   .seq (
   .region true r65_18 [4]) (
   .ret)) (
   .skip))) (
  .seq (
  .region false r65_19 [0,1,7,8,9,110]) (
  .cond (.t 110) (
   .region false r65_20 [0,1,7,8]) (
   .region false r65_21 [0,1,7,8])))))))
abbrev r65_22:List AOper:=[
 oo 4 (.mv (.c (.bool false))) []]
def m65_9:List Nat:=[0,1,3,7,15,31,63,63,191,447,959,2047,63,4159,12351,28735,65535,131071,262143,524287]
theorem d65_9:okDraw r65_9 m65_9=true:=by kernel_rfl
def m65_18:List Nat:=[0,1,3,7,15,31,63,63,191,447,959,2047,63,4159,12351,28735,65535,131071,262143,524287]
theorem d65_18:okDraw r65_18 m65_18=true:=by kernel_rfl
def k65:List (List Nat):=[[0,1],[0,1,17],[0,1,19,20],[0,1,19,20,21],[0,1,5,19,20],[0,1,6,19,20],[0,1,6,19,20,31],[4],[0,1,6,19,20,37],[4],[0,1,19,20],[4],[0,1,7],[0,1,7,8],[0,1,7,8,62],[0,1,7,8,9],[0,1,7,8,9,10],[0,1,7,8,9,10,85],[4],[0,1,7,8,9,110],[0,1,7,8],[0,1,7,8],[4]]
def f65:AFunc:={ ntmps:=114,results:=[.tmp 4],body:=(
 .seq (
 .region false r65_0 [0,1]) (
 .seq (
 .seq (
 .region false r65_1 [0,1,17]) (
 .cond (.t 17) (
  .seq (
  .seq (
  .region false r65_2 [0,1,19,20]) (
  .block 0 (
   .loop l65_0))) (
  .seq (
  .region false r65_11 [4]) (
  .ret))) (
  .skip))) (
 .seq (
 .region false r65_12 [0,1,7]) (
 .seq (
 .region false r65_13 [0,1,7,8]) (
 .seq (
 .block 2 (
  .loop l65_1)) (
 .seq (
 .region false r65_22 [4]) (
 .ret))))))) }
theorem c65:cfunc Tryd.prog (kof k65) Tryd.f65=some f65:=by kernel_rfl
abbrev r66_0:List AOper:=[
 oo 4 (.mv (.c (.bool false))) []]
abbrev r66_1:List AOper:=[
 oo 11 (.mv (.t 0)) [],
 oo 12 (.len 1 (.t 11)) [0],
 oo 13 (.bin .leq (.t 12) (.c (.int .i64 18))) [1]]
abbrev r66_2:List AOper:=[
 oo 14 (.mv (.t 0)) [],
 oo 15 (.len 1 (.t 14)) [0],
 oo 16 (.mv (.c (.int .i64 0))) []]
abbrev r66_3:List AOper:=[
 oo 17 (.bin .lss (.t 16) (.t 15)) []]
abbrev r66_4:List AOper:=[
 oo 18 (.mv (.t 16)) [],
 oo 5 (.mv (.t 18)) [0,0]]
abbrev r66_5:List AOper:=[
 oo 19 (.mv (.t 0)) [],
 oo 20 (.mv (.t 5)) [],
 oo 21 (.iaddr 3 (.t 19) (.t 20)) [0,1],
 oo 6 (.mv (.t 21)) [2,0,1,2]]
abbrev r66_6:List AOper:=[
 oo 22 (.mv (.t 1)) [],
 oo 23 (.mv (.t 6)) [],
 oo 24 (.nilchk (.t 23)) [1],
 oo 25 (.faddr 0 (.t 24)) [2],
 oo 26 (.load none (.t 25)) [3],
 oo 27 (.bin .lss (.t 22) (.t 26)) [0,4]]
abbrev r66_7:List AOper:=[
 oo 4 (.mv (.c (.bool false))) []]
abbrev r66_8:List AOper:=[
 oo 28 (.mv (.t 1)) [],
 oo 29 (.mv (.t 6)) [],
 oo 30 (.nilchk (.t 29)) [1],
 oo 31 (.faddr 1 (.t 30)) [2],
 oo 32 (.load none (.t 31)) [3],
 oo 33 (.bin .leq (.t 28) (.t 32)) [0,4]]
abbrev r66_9:List AOper:=[
 oo 34 (.mv (.t 6)) [],
 oo 35 (.nilchk (.t 34)) [0],
 oo 36 (.faddr 2 (.t 35)) [1],
 oo 37 (.load none (.t 36)) [2],
 oo 38 (.bin .eql (.t 37) (.c (.int .u32 1))) [3],
 oo 39 (.mv (.t 38)) [4],
 og 40 (.mv (.t 1)) 39 false [5],
 og 41 (.mv (.t 6)) 39 false [5],
 og 42 (.nilchk (.t 41)) 39 false [7,5],
 og 43 (.faddr 0 (.t 42)) 39 false [8,5],
 og 44 (.load none (.t 43)) 39 false [9,5],
 og 45 (.bin .sub (.t 40) (.t 44)) 39 false [6,10,5],
 og 46 (.mv (.t 6)) 39 false [5],
 og 47 (.nilchk (.t 46)) 39 false [12,5],
 og 48 (.faddr 2 (.t 47)) 39 false [13,5],
 og 49 (.load none (.t 48)) 39 false [14,5],
 og 50 (.bin .rem (.t 45) (.t 49)) 39 false [11,15,5],
 og 51 (.bin .eql (.t 50) (.c (.int .u32 0))) 39 false [16,5],
 oo 52 (.pick (.t 39) (.c (.bool true)) (.t 51)) [5,17],
 oo 4 (.mv (.t 52)) [18,5,0,1,2,3,4,5,6,7,8,9,10,11,12,13,14,15,16,17,18]]
abbrev r66_10:List AOper:=[
 oo 53 (.bin .add (.t 16) (.c (.int .i64 1))) [],
 oo 16 (.mv (.t 53)) [0]]
def l66_0:ACode:=
 .seq (
 .region false r66_3 [0,1,15,16,17]) (
 .seq (
 .cond (.t 17) (
  .skip) (
  .exit 0)) (
 .seq (
 .block 1 (
  .seq (
  .region false r66_4 [0,1,5,15,16]) (
  .seq (
  .region false r66_5 [0,1,6,15,16]) (
  .seq (
  .seq (
  .region false r66_6 [0,1,6,15,16,27]) (
  .cond (.t 27) (
   .seq (
   .region false r66_7 [4]) (
   .ret)) (
   .skip))) (
  .seq (
  .region false r66_8 [0,1,6,15,16,33]) (
  .cond (.t 33) (
   .seq (
   .region true r66_9 [4]) (
   .ret)) (
   .skip))))))) (
 .region false r66_10 [0,1,15,16])))
abbrev r66_11:List AOper:=[
 oo 4 (.mv (.c (.bool false))) []]
abbrev r66_12:List AOper:=[
 oo 7 (.mv (.c (.int .i64 0))) []]
abbrev r66_13:List AOper:=[
 oo 54 (.mv (.t 0)) [],
 oo 55 (.len 1 (.t 54)) [0],
 oo 8 (.mv (.t 55)) [1,0,1]]
abbrev r66_14:List AOper:=[
 oo 56 (.mv (.t 7)) [],
 oo 57 (.mv (.t 8)) [],
 oo 58 (.bin .lss (.t 56) (.t 57)) [0,1]]
abbrev r66_15:List AOper:=[
 oo 59 (.mv (.t 7)) [],
 oo 60 (.mv (.t 8)) [],
 oo 61 (.bin .add (.t 59) (.t 60)) [0,1],
 oo 62 (.conv (.toInt .u64) (.t 61)) [2],
 oo 63 (.bin .shr (.t 62) (.c (.int .u64 1))) [3],
 oo 64 (.conv (.toInt .i64) (.t 63)) [4],
 oo 9 (.mv (.t 64)) [5,0,1,2,3,4,5]]
abbrev r66_16:List AOper:=[
 oo 65 (.mv (.t 0)) [],
 oo 66 (.mv (.t 9)) [],
 oo 67 (.iaddr 3 (.t 65) (.t 66)) [0,1],
 oo 68 (.load (some 3) (.t 67)) [2],
 oo 10 (.alloc 112 (.agg [.int .u32 0,.int .u32 0,.int .u32 0])) [],
 on (.store 3 (.t 10) (.t 68)) [4,3,0,1,2,3,4]]
abbrev r66_17:List AOper:=[
 oo 69 (.faddr 0 (.t 10)) [],
 oo 70 (.load none (.t 69)) [0],
 oo 71 (.mv (.t 1)) [],
 oo 72 (.bin .leq (.t 70) (.t 71)) [1,2],
 oo 73 (.mv (.t 72)) [3],
 og 74 (.mv (.t 1)) 73 true [4],
 og 75 (.faddr 1 (.t 10)) 73 true [4],
 og 76 (.load none (.t 75)) 73 true [6,4],
 og 77 (.bin .leq (.t 74) (.t 76)) 73 true [5,7,4],
 oo 78 (.pick (.t 73) (.t 77) (.c (.bool false))) [4,8]]
abbrev r66_18:List AOper:=[
 oo 79 (.faddr 2 (.t 10)) [],
 oo 80 (.load none (.t 79)) [0],
 oo 81 (.bin .eql (.t 80) (.c (.int .u32 1))) [1],
 oo 82 (.mv (.t 81)) [2],
 og 83 (.mv (.t 1)) 82 false [3],
 og 84 (.faddr 0 (.t 10)) 82 false [3],
 og 85 (.load none (.t 84)) 82 false [5,3],
 og 86 (.bin .sub (.t 83) (.t 85)) 82 false [4,6,3],
 og 87 (.faddr 2 (.t 10)) 82 false [3],
 og 88 (.load none (.t 87)) 82 false [8,3],
 og 89 (.bin .rem (.t 86) (.t 88)) 82 false [7,9,3],
 og 90 (.bin .eql (.t 89) (.c (.int .u32 0))) 82 false [10,3],
 oo 91 (.pick (.t 82) (.c (.bool true)) (.t 90)) [3,11],
 oo 4 (.mv (.t 91)) [12,3,0,1,2,3,4,5,6,7,8,9,10,11,12]]
abbrev r66_19:List AOper:=[
 oo 92 (.mv (.t 1)) [],
 oo 93 (.faddr 0 (.t 10)) [],
 oo 94 (.load none (.t 93)) [1],
 oo 95 (.bin .lss (.t 92) (.t 94)) [0,2]]
abbrev r66_20:List AOper:=[
 oo 96 (.mv (.t 9)) [],
 oo 8 (.mv (.t 96)) [0,0]]
abbrev r66_21:List AOper:=[
 oo 97 (.mv (.t 9)) [],
 oo 98 (.bin .add (.t 97) (.c (.int .i64 1))) [0],
 oo 7 (.mv (.t 98)) [1,0,1]]
def l66_1:ACode:=
 .seq (
 .seq (
 .region false r66_14 [0,1,7,8,58]) (
 .cond (.t 58) (
  .skip) (
  .exit 2))) (
 .block 3 (
  .seq (
  .region false r66_15 [0,1,7,8,9]) (
  .seq (
  .region false r66_16 [0,1,7,8,9,10]) (
  .seq (
  .seq (
  .region false r66_17 [0,1,7,8,9,10,78]) (
  .cond (.t 78) (
   .seq (
   .region false r66_18 [4]) (
   .ret)) (
   .skip))) (
  .seq (
  .region false r66_19 [0,1,7,8,9,95]) (
  .cond (.t 95) (
   .region false r66_20 [0,1,7,8]) (
   .region false r66_21 [0,1,7,8])))))))
abbrev r66_22:List AOper:=[
 oo 4 (.mv (.c (.bool false))) []]
def m66_9:List Nat:=[0,1,3,7,15,31,63,63,191,447,959,2047,63,4159,12351,28735,65535,131071,262143,524287]
theorem d66_9:okDraw r66_9 m66_9=true:=by kernel_rfl
def k66:List (List Nat):=[[0,1],[0,1,13],[0,1,15,16],[0,1,15,16,17],[0,1,5,15,16],[0,1,6,15,16],[0,1,6,15,16,27],[4],[0,1,6,15,16,33],[4],[0,1,15,16],[4],[0,1,7],[0,1,7,8],[0,1,7,8,58],[0,1,7,8,9],[0,1,7,8,9,10],[0,1,7,8,9,10,78],[4],[0,1,7,8,9,95],[0,1,7,8],[0,1,7,8],[4]]
def f66:AFunc:={ ntmps:=99,results:=[.tmp 4],body:=(
 .seq (
 .region false r66_0 [0,1]) (
 .seq (
 .seq (
 .region false r66_1 [0,1,13]) (
 .cond (.t 13) (
  .seq (
  .seq (
  .region false r66_2 [0,1,15,16]) (
  .block 0 (
   .loop l66_0))) (
  .seq (
  .region false r66_11 [4]) (
  .ret))) (
  .skip))) (
 .seq (
 .region false r66_12 [0,1,7]) (
 .seq (
 .region false r66_13 [0,1,7,8]) (
 .seq (
 .block 2 (
  .loop l66_1)) (
 .seq (
 .region false r66_22 [4]) (
 .ret))))))) }
theorem c66:cfunc Tryd.prog (kof k66) Tryd.f66=some f66:=by kernel_rfl
end Go.Am.Rl
