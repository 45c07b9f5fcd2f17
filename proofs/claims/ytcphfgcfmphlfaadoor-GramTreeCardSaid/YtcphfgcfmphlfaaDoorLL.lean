/- Parts: Fn5, L5, ZC. -/
import Derived.Test.YtcphfgcfmphlfaaDoorFB
import Derived.Test.YtcphfgcfmphlfaaDoorProg
import Derived.Test.YtcphfgcfmphlfaaDoorPT
import Derived.Test.YtcphfgcfmphlfaaDoorPE
import Derived.Test.YtcphfgcfmphlfaaDoorAmP
set_option linter.unusedVariables false
set_option maxRecDepth 20000
set_option linter.unusedSimpArgs false
namespace Go.Am.Rl
open Go.Proofs
abbrev r5_0:List AOper:=[
 oo 2 (.mv (.c (.bool false))) []]
abbrev r5_1:List AOper:=[
 oo 11 (.callF 8 []) [],
 oo 12 (.un .not (.t 11)) [0]]
abbrev r5_2:List AOper:=[
 oo 2 (.mv (.c (.bool false))) []]
abbrev r5_3:List AOper:=[
 oo 13 (.mv (.t 0)) [],
 oo 14 (.len 0 (.t 13)) [0],
 oo 15 (.bin .gtr (.t 14) (.c (.int .i64 16384))) [1]]
abbrev r5_4:List AOper:=[
 oo 2 (.mv (.c (.bool true))) []]
abbrev r5_5:List AOper:=[
 oo 17 (.mv (.t 0)) [],
 oo 18 (.callF 10 [(.t 17)]) [0],
 oo 16 (.mv (.t 18)) [1],
 oo 19 (.extract (.t 16) 0) [2],
 oo 20 (.extract (.t 16) 1) [2],
 oo 3 (.alloc 34 (.agg [.nils,.int .i64 0])) [],
 oo 4 (.alloc 26 (.agg [.int .i64 0,.int .i64 0])) [],
 on (.store 2 (.t 3) (.t 19)) [5,3,1,0,1,2,3,5,6],
 on (.store 2 (.t 4) (.t 20)) [6,4,7,0,1,2,3,4,5,6,7]]
abbrev r5_6:List AOper:=[
 oo 21 (.load (some 2) (.t 4)) [],
 oo 22 (.build [.int .i64 0,.int .i64 0] []) [],
 oo 23 (.eqAgg [1,1] true (.t 21) (.t 22)) [0,1]]
abbrev r5_7:List AOper:=[
 oo 24 (.faddr 0 (.t 3)) [],
 oo 25 (.load none (.t 24)) [0],
 oo 26 (.len 1 (.t 25)) [1],
 oo 27 (.bin .eql (.t 26) (.c (.int .i64 0))) [2],
 oo 28 (.mv (.t 27)) [3],
 og 29 (.faddr 1 (.t 3)) 28 true [4],
 og 30 (.load none (.t 29)) 28 true [5,4],
 og 31 (.bin .eql (.t 30) (.c (.int .i64 0))) 28 true [6,4],
 oo 32 (.pick (.t 28) (.t 31) (.c (.bool false))) [4,7],
 oo 33 (.mv (.t 32)) [8,4],
 og 34 (.faddr 0 (.t 4)) 33 true [9],
 og 35 (.load none (.t 34)) 33 true [10,9],
 og 36 (.bin .neq (.t 35) (.c (.int .i64 0))) 33 true [11,9],
 oo 37 (.pick (.t 33) (.t 36) (.c (.bool false))) [9,12],
 oo 38 (.mv (.t 37)) [13,9],
 og 39 (.faddr 1 (.t 4)) 38 true [14],
 og 40 (.load none (.t 39)) 38 true [15,14],
 og 41 (.bin .geq (.t 40) (.c (.int .i64 0))) 38 true [16,14],
 oo 42 (.pick (.t 38) (.t 41) (.c (.bool false))) [14,17],
 oo 43 (.mv (.t 42)) [18,14],
 og 44 (.faddr 1 (.t 4)) 43 true [19],
 og 45 (.load none (.t 44)) 43 true [20,19],
 og 46 (.mv (.t 0)) 43 true [19],
 og 47 (.len 0 (.t 46)) 43 true [22,19],
 og 48 (.bin .leq (.t 45) (.t 47)) 43 true [21,23,19],
 oo 49 (.pick (.t 43) (.t 48) (.c (.bool false))) [19,24],
 oo 2 (.mv (.t 49)) [25,19,0,1,2,3,4,5,6,7,8,9,10,11,12,13,14,15,16,17,18,19,20,21,22,23,24,25]]
abbrev r5_8:List AOper:=[
 oo 50 (.faddr 0 (.t 3)) [],
 oo 51 (.load none (.t 50)) [0],
 oo 52 (.len 1 (.t 51)) [1],
 oo 5 (.mv (.t 52)) [2,0,1,2]]
abbrev r5_9:List AOper:=[
 oo 53 (.mv (.t 5)) [],
 oo 54 (.bin .eql (.t 53) (.c (.int .i64 0))) [0],
 oo 55 (.mv (.t 54)) [1],
 og 56 (.faddr 1 (.t 3)) 55 false [2],
 og 57 (.load none (.t 56)) 55 false [3,2],
 og 58 (.mv (.t 5)) 55 false [2],
 og 59 (.bin .sub (.t 58) (.c (.int .i64 1))) 55 false [5,2],
 og 60 (.bin .neq (.t 57) (.t 59)) 55 false [4,6,2],
 oo 61 (.pick (.t 55) (.c (.bool true)) (.t 60)) [2,7],
 oo 62 (.mv (.t 61)) [8,2],
 og 63 (.faddr 0 (.t 3)) 62 false [9],
 og 64 (.load none (.t 63)) 62 false [10,9],
 og 65 (.faddr 1 (.t 3)) 62 false [9],
 og 66 (.load none (.t 65)) 62 false [12,9],
 og 67 (.iaddr 6 (.t 64) (.t 66)) 62 false [11,13,9],
 og 68 (.faddr 0 (.t 67)) 62 false [14,9],
 og 69 (.load none (.t 68)) 62 false [15,9],
 og 70 (.bin .neq (.t 69) (.c (.int .i64 24))) 62 false [16,9],
 oo 71 (.pick (.t 62) (.c (.bool true)) (.t 70)) [9,17]]
abbrev r5_10:List AOper:=[
 oo 2 (.mv (.c (.bool false))) []]
abbrev r5_11:List AOper:=[
 oo 72 (.mv (.t 5)) [],
 oo 73 (.mkslice 3 [.int .i64 0] 8 (.t 72) (.t 72)) [0,0],
 oo 6 (.mv (.t 73)) [1,0,1]]
abbrev r5_12:List AOper:=[
 oo 7 (.mv (.c (.int .i64 0))) []]
abbrev r5_13:List AOper:=[
 oo 74 (.mv (.t 7)) [],
 oo 75 (.mv (.t 5)) [],
 oo 76 (.bin .lss (.t 74) (.t 75)) [0,1]]
abbrev r5_15:List AOper:=[
 oo 79 (.faddr 0 (.t 3)) [],
 oo 80 (.load none (.t 79)) [0],
 oo 81 (.mv (.t 7)) [],
 oo 82 (.iaddr 6 (.t 80) (.t 81)) [1,2],
 oo 83 (.load (some 6) (.t 82)) [3],
 oo 8 (.alloc 42 (.agg [.int .i64 0,.str ⟨#[]⟩,.int .i64 0,.flt .f64 0,.nils,.int .i64 0])) [],
 on (.store 6 (.t 8) (.t 83)) [5,4,0,1,2,3,4,5]]
abbrev r5_16:List AOper:=[
 oo 84 (.faddr 5 (.t 8)) [],
 oo 85 (.load none (.t 84)) [0],
 oo 86 (.bin .lss (.t 85) (.c (.int .i64 0))) [1],
 oo 87 (.mv (.t 86)) [2],
 og 88 (.faddr 5 (.t 8)) 87 false [3],
 og 89 (.load none (.t 88)) 87 false [4,3],
 og 90 (.mv (.t 0)) 87 false [3],
 og 91 (.len 0 (.t 90)) 87 false [6,3],
 og 92 (.bin .gtr (.t 89) (.t 91)) 87 false [5,7,3],
 oo 93 (.pick (.t 87) (.c (.bool true)) (.t 92)) [3,8]]
abbrev r5_17:List AOper:=[
 oo 2 (.mv (.c (.bool false))) []]
abbrev r5_18:List AOper:=[
 oo 9 (.mv (.c (.int .i64 0))) []]
abbrev r5_19:List AOper:=[
 oo 94 (.mv (.t 9)) [],
 oo 95 (.faddr 4 (.t 8)) [],
 oo 96 (.load none (.t 95)) [1],
 oo 97 (.len 1 (.t 96)) [2],
 oo 98 (.bin .lss (.t 94) (.t 97)) [0,3]]
abbrev r5_21:List AOper:=[
 oo 101 (.faddr 4 (.t 8)) [],
 oo 102 (.load none (.t 101)) [0],
 oo 103 (.mv (.t 9)) [],
 oo 104 (.iaddr 1 (.t 102) (.t 103)) [1,2],
 oo 105 (.load none (.t 104)) [3],
 oo 106 (.bin .lss (.t 105) (.c (.int .i64 0))) [4],
 oo 107 (.mv (.t 106)) [5],
 og 108 (.faddr 4 (.t 8)) 107 false [6],
 og 109 (.load none (.t 108)) 107 false [7,6],
 og 110 (.mv (.t 9)) 107 false [6],
 og 111 (.iaddr 1 (.t 109) (.t 110)) 107 false [8,9,6],
 og 112 (.load none (.t 111)) 107 false [10,6],
 og 113 (.mv (.t 7)) 107 false [6],
 og 114 (.bin .geq (.t 112) (.t 113)) 107 false [11,12,6],
 oo 115 (.pick (.t 107) (.c (.bool true)) (.t 114)) [6,13],
 oo 116 (.mv (.t 115)) [14,6],
 og 117 (.mv (.t 9)) 116 false [15],
 og 118 (.bin .gtr (.t 117) (.c (.int .i64 0))) 116 false [16,15],
 og 119 (.mv (.t 118)) 116 false [17,15,15],
 og 120 (.faddr 4 (.t 8)) 119 true [18],
 og 121 (.load none (.t 120)) 119 true [19,18],
 og 122 (.mv (.t 9)) 119 true [18],
 og 123 (.iaddr 1 (.t 121) (.t 122)) 119 true [20,21,18],
 og 124 (.load none (.t 123)) 119 true [22,18],
 og 125 (.faddr 4 (.t 8)) 119 true [18],
 og 126 (.load none (.t 125)) 119 true [24,18],
 og 127 (.mv (.t 9)) 119 true [18],
 og 128 (.bin .sub (.t 127) (.c (.int .i64 1))) 119 true [26,18],
 og 129 (.iaddr 1 (.t 126) (.t 128)) 119 true [25,27,18],
 og 130 (.load none (.t 129)) 119 true [28,18],
 og 131 (.bin .leq (.t 124) (.t 130)) 119 true [23,29,18],
 og 132 (.pick (.t 119) (.t 131) (.c (.bool false))) 116 false [18,30,15],
 oo 133 (.pick (.t 116) (.c (.bool true)) (.t 132)) [15,31]]
abbrev r5_22:List AOper:=[
 oo 2 (.mv (.c (.bool false))) []]
abbrev r5_23:List AOper:=[
 oo 134 (.mv (.t 6)) [],
 oo 135 (.faddr 4 (.t 8)) [],
 oo 136 (.load none (.t 135)) [1],
 oo 137 (.mv (.t 9)) [],
 oo 138 (.iaddr 1 (.t 136) (.t 137)) [2,3],
 oo 139 (.load none (.t 138)) [4],
 oo 140 (.iaddr 1 (.t 134) (.t 139)) [0,5],
 oo 141 (.load none (.t 140)) [6],
 oo 142 (.bin .add (.t 141) (.c (.int .i64 1))) [7],
 oo 143 (.iaddr 1 (.t 134) (.t 139)) [0,5,0,1,2,3,4,5,6,7,8],
 on (.store 1 (.t 143) (.t 142)) [9,8,0,1,2,3,4,5,6,7,8]]
abbrev r5_20:List AOper:=[
 oo 99 (.mv (.t 9)) [],
 oo 100 (.bin .add (.t 99) (.c (.int .i64 1))) [0],
 oo 9 (.mv (.t 100)) [1,0,1]]
def l5_0:ACode:=
 .seq (
 .seq (
 .region false r5_19 [0,3,5,6,7,8,9,98]) (
 .cond (.t 98) (
  .skip) (
  .exit 2))) (
 .seq (
 .block 3 (
  .seq (
  .seq (
  .region true r5_21 [0,3,5,6,7,8,9,133]) (
  .cond (.t 133) (
   .seq (
   .region false r5_22 [2]) (
   .ret)) (
   .skip))) (
  .region false r5_23 [0,3,5,6,7,8,9]))) (
 .region false r5_20 [0,3,5,6,7,8,9]))
abbrev r5_24:List AOper:=[
 oo 144 (.faddr 0 (.t 8)) [],
 oo 145 (.load none (.t 144)) [0],
 oo 146 (.bin .eql (.t 145) (.c (.int .i64 21))) [1],
 oo 147 (.mv (.t 146)) [2],
 og 148 (.faddr 4 (.t 8)) 147 true [3],
 og 149 (.load none (.t 148)) 147 true [4,3],
 og 150 (.len 1 (.t 149)) 147 true [5,3],
 og 151 (.faddr 2 (.t 8)) 147 true [3],
 og 152 (.load none (.t 151)) 147 true [7,3],
 og 153 (.bin .add (.t 152) (.c (.int .i64 2))) 147 true [8,3],
 og 154 (.bin .neq (.t 150) (.t 153)) 147 true [6,9,3],
 og 155 (.mv (.t 154)) 147 true [10,3,3],
 og 156 (.faddr 0 (.t 3)) 155 false [11],
 og 157 (.load none (.t 156)) 155 false [12,11],
 og 158 (.faddr 4 (.t 8)) 155 false [11],
 og 159 (.load none (.t 158)) 155 false [14,11],
 og 160 (.faddr 2 (.t 8)) 155 false [11],
 og 161 (.load none (.t 160)) 155 false [16,11],
 og 162 (.iaddr 1 (.t 159) (.t 161)) 155 false [15,17,11],
 og 163 (.load none (.t 162)) 155 false [18,11],
 og 164 (.iaddr 6 (.t 157) (.t 163)) 155 false [13,19,11],
 og 165 (.faddr 0 (.t 164)) 155 false [20,11],
 og 166 (.load none (.t 165)) 155 false [21,11],
 og 167 (.bin .neq (.t 166) (.c (.int .i64 22))) 155 false [22,11],
 og 168 (.pick (.t 155) (.c (.bool true)) (.t 167)) 147 true [11,23,3],
 og 169 (.mv (.t 168)) 147 true [24,11,3],
 og 170 (.faddr 0 (.t 3)) 169 false [25],
 og 171 (.load none (.t 170)) 169 false [26,25],
 og 172 (.faddr 4 (.t 8)) 169 false [25],
 og 173 (.load none (.t 172)) 169 false [28,25],
 og 174 (.faddr 2 (.t 8)) 169 false [25],
 og 175 (.load none (.t 174)) 169 false [30,25],
 og 176 (.bin .add (.t 175) (.c (.int .i64 1))) 169 false [31,25],
 og 177 (.iaddr 1 (.t 173) (.t 176)) 169 false [29,32,25],
 og 178 (.load none (.t 177)) 169 false [33,25],
 og 179 (.iaddr 6 (.t 171) (.t 178)) 169 false [27,34,25],
 og 180 (.faddr 0 (.t 179)) 169 false [35,25],
 og 181 (.load none (.t 180)) 169 false [36,25],
 og 182 (.bin .neq (.t 181) (.c (.int .i64 19))) 169 false [37,25],
 og 183 (.pick (.t 169) (.c (.bool true)) (.t 182)) 147 true [25,38,3],
 oo 184 (.pick (.t 147) (.t 183) (.c (.bool false))) [3,39]]
abbrev r5_25:List AOper:=[
 oo 2 (.mv (.c (.bool false))) []]
abbrev r5_14:List AOper:=[
 oo 77 (.mv (.t 7)) [],
 oo 78 (.bin .add (.t 77) (.c (.int .i64 1))) [0],
 oo 7 (.mv (.t 78)) [1,0,1]]
def l5_1:ACode:=
 .seq (
 .seq (
 .region false r5_13 [0,3,5,6,7,76]) (
 .cond (.t 76) (
  .skip) (
  .exit 0))) (
 .seq (
 .block 1 (
  .seq (
  .region false r5_15 [0,3,5,6,7,8]) (
  .seq (
  .seq (
  .region false r5_16 [0,3,5,6,7,8,93]) (
  .cond (.t 93) (
   .seq (
   .region false r5_17 [2]) (
   .ret)) (
   .skip))) (
  .seq (
  .seq (
  .region false r5_18 [0,3,5,6,7,8,9]) (
  .block 2 (
   .loop l5_0))) (
  .seq (
  .region true r5_24 [0,3,5,6,7,184]) (
  .cond (.t 184) (
   .seq (
   .region false r5_25 [2]) (
   .ret)) (
   .skip))))))) (
 .region false r5_14 [0,3,5,6,7]))
abbrev r5_26:List AOper:=[
 oo 10 (.mv (.c (.int .i64 0))) []]
abbrev r5_27:List AOper:=[
 oo 185 (.mv (.t 10)) [],
 oo 186 (.mv (.t 5)) [],
 oo 187 (.bin .sub (.t 186) (.c (.int .i64 1))) [1],
 oo 188 (.bin .lss (.t 185) (.t 187)) [0,2]]
abbrev r5_29:List AOper:=[
 oo 191 (.mv (.t 6)) [],
 oo 192 (.mv (.t 10)) [],
 oo 193 (.iaddr 1 (.t 191) (.t 192)) [0,1],
 oo 194 (.load none (.t 193)) [2],
 oo 195 (.bin .neq (.t 194) (.c (.int .i64 1))) [3]]
abbrev r5_30:List AOper:=[
 oo 2 (.mv (.c (.bool false))) []]
abbrev r5_28:List AOper:=[
 oo 189 (.mv (.t 10)) [],
 oo 190 (.bin .add (.t 189) (.c (.int .i64 1))) [0],
 oo 10 (.mv (.t 190)) [1,0,1]]
def l5_2:ACode:=
 .seq (
 .seq (
 .region false r5_27 [5,6,10,188]) (
 .cond (.t 188) (
  .skip) (
  .exit 4))) (
 .seq (
 .block 5 (
  .seq (
  .region false r5_29 [5,6,10,195]) (
  .cond (.t 195) (
   .seq (
   .region false r5_30 [2]) (
   .ret)) (
   .skip)))) (
 .region false r5_28 [5,6,10]))
abbrev r5_31:List AOper:=[
 oo 196 (.mv (.t 6)) [],
 oo 197 (.mv (.t 5)) [],
 oo 198 (.bin .sub (.t 197) (.c (.int .i64 1))) [1],
 oo 199 (.iaddr 1 (.t 196) (.t 198)) [0,2],
 oo 200 (.load none (.t 199)) [3],
 oo 201 (.bin .eql (.t 200) (.c (.int .i64 0))) [4],
 oo 2 (.mv (.t 201)) [5,0,1,2,3,4,5]]
def m5_21:List Nat:=[0,1,0,7,15,31,63,127,255,127,1023,2047,127,8191,16383,32767,65535,131071,262143,524287,1048575,524287,4194303,8388607,524287,17301503,524287,67633151,252182527,520617983,1073741823,2147483647,4294967295]
theorem d5_21:okDraw r5_21 m5_21=true:=by kernel_rfl
def m5_24:List Nat:=[0,1,3,7,15,31,63,15,143,399,1023,2047,4095,8191,4095,20479,4095,69631,249855,511999,1048575,2097151,4194303,8388607,16777215,33554431,67108863,134217727,67108863,335544319,67108863,1140850687,3288334335,8388607999,16978542591,34359738367,68719476735,137438953471,274877906943,549755813887,1099511627775]
theorem d5_24:okDraw r5_24 m5_24=true:=by kernel_rfl
def k5:List (List Nat):=[[0],[0,12],[2],[0,15],[2],[0,3,4],[0,3,4,23],[2],[0,3,5],[0,3,5,71],[2],[0,3,5,6],[0,3,5,6,7],[0,3,5,6,7,76],[0,3,5,6,7],[0,3,5,6,7,8],[0,3,5,6,7,8,93],[2],[0,3,5,6,7,8,9],[0,3,5,6,7,8,9,98],[0,3,5,6,7,8,9],[0,3,5,6,7,8,9,133],[2],[0,3,5,6,7,8,9],[0,3,5,6,7,184],[2],[5,6,10],[5,6,10,188],[5,6,10],[5,6,10,195],[2],[2]]
def f5:AFunc:={ ntmps:=202,results:=[.tmp 2],body:=(
 .seq (
 .region false r5_0 [0]) (
 .seq (
 .seq (
 .region false r5_1 [0,12]) (
 .cond (.t 12) (
  .seq (
  .region false r5_2 [2]) (
  .ret)) (
  .skip))) (
 .seq (
 .seq (
 .region false r5_3 [0,15]) (
 .cond (.t 15) (
  .seq (
  .region false r5_4 [2]) (
  .ret)) (
  .skip))) (
 .seq (
 .region false r5_5 [0,3,4]) (
 .seq (
 .seq (
 .region false r5_6 [0,3,4,23]) (
 .cond (.t 23) (
  .seq (
  .region false r5_7 [2]) (
  .ret)) (
  .skip))) (
 .seq (
 .region false r5_8 [0,3,5]) (
 .seq (
 .seq (
 .region false r5_9 [0,3,5,71]) (
 .cond (.t 71) (
  .seq (
  .region false r5_10 [2]) (
  .ret)) (
  .skip))) (
 .seq (
 .region false r5_11 [0,3,5,6]) (
 .seq (
 .seq (
 .region false r5_12 [0,3,5,6,7]) (
 .block 0 (
  .loop l5_1))) (
 .seq (
 .seq (
 .region false r5_26 [5,6,10]) (
 .block 4 (
  .loop l5_2))) (
 .seq (
 .region false r5_31 [2]) (
 .ret)))))))))))) }
theorem c5:cfunc Tryd.prog (kof k5) Tryd.f5=some f5:=by kernel_rfl
end Go.Am.Rl
namespace Go.Am.Rl
open Go.Proofs
structure TInv (H1 H:AHeap) (b3 c:Nat) (x:AVal) (root n:Nat) (l:List Nat):Prop where
 g:Gro H1 H
 n3:H1.next≤b3
 lt:b3 < c
 h3:H.get b3=some (.cells 34 [x,.int .i64 (root:Nat)])
 hc:H.get c=some (.cells 3 (intsC (cnts n l)))
theorem TInv.push {H1 H:AHeap} {b3 c:Nat} {x:AVal} {root n:Nat} {l:List Nat} (h:TInv H1 H b3 c x root n l) {H':AHeap} {b:Nat} (hb:c < b) (hf:∀ j,j < b→H'.get j=H.get j) (hn:H.next≤H'.next):TInv H1 H' b3 c x root n l:=
 ⟨⟨Nat.le_trans h.g.1 hn,fun j hj=>(hf j (by have:=h.n3; have:=h.lt; omega)).trans (h.g.2 j hj)⟩,h.n3,h.lt,(hf _ (by have:=h.lt; omega)).trans h.h3,(hf _ hb).trans h.hc⟩
section
variable {H1:AHeap} {b3 c n root:Nat} {x w:AVal} {nodes:List ND} {s:ByteArray} {i:Nat} {m:ND} {k' k0:List AItem} {Q:AEnd→List ADef→Env→AHeap→Prop}
theorem RowI.at_ {H:AHeap} {l:List Nat} (h:RowI H w l) {k a:Nat} (ha:l[k]? = some a):∃ id,(∀ H',aiaddr H' 1 w (.int .i64 (k:Nat))=some (.ptr id k))∧∀ {H'},Gro H H'→aload H' none (.ptr id k)=some (.int .i64 (a:Nat)):=by
 have hl:=(List.getElem?_eq_some_iff.mp ha).1
 rcases h with ⟨rfl,rfl⟩ | ⟨id,c,rfl,h⟩
 ·cases ha
 ·refine ⟨id,fun H'=> ?_,fun g=>load_cell (g.get h) (by unfold intsC; rw [List.getElem?_map,ha]; rfl)⟩
  simp only [aiaddr]
  rw [if_pos (by omega)]; simp
theorem ints_at {H:AHeap} {l:List Nat} {co:Option Nat} (h:H.get c=some (.cells 3 (intsC l))) (hl:l.length=n) {k a:Nat} (ha:l[k]? = some a):(∀ H',aiaddr H' 1 (.sl c 0 n co) (.int .i64 (k:Nat))=some (.ptr c k))∧aload H none (.ptr c k)=some (.int .i64 (a:Nat)):=by
 have hk:=(List.getElem?_eq_some_iff.mp ha).1
 refine ⟨fun H'=> ?_,load_cell h (by unfold intsC; rw [List.getElem?_map,ha]; rfl)⟩
 simp only [aiaddr]
 rw [if_pos (by omega)]; simp
theorem gtr64 (p q:Int):abin .gtr (.int .i64 p) (.int .i64 q)=some (.bool (decide (p > q))):=rfl
theorem lss64 (p q:Int):abin .lss (.int .i64 p) (.int .i64 q)=some (.bool (decide (p < q))):=rfl
theorem geq64 (p q:Int):abin .geq (.int .i64 p) (.int .i64 q)=some (.bool (decide (p ≥ q))):=rfl
theorem leq64 (p q:Int):abin .leq (.int .i64 p) (.int .i64 q)=some (.bool (decide (p≤q))):=rfl
theorem eql64 (p q:Int):abin .eql (.int .i64 p) (.int .i64 q)=some (.bool (p==q)):=rfl
theorem neq64 (p q:Int):abin .neq (.int .i64 p) (.int .i64 q)=some (.bool (p != q)):=rfl
theorem add64 {p q:Nat} (h:p+q < 1000000):abin .add (.int .i64 (p:Nat)) (.int .i64 (q:Nat))=some (.int .i64 ((p+q:Nat):Int)):=by
 rw [abin_addI,← Int.natCast_add,wrap64 (by omega)]
theorem sub64 {p:Nat} (h:p+1 < 1000000):abin .sub (.int .i64 ((p+1:Nat):Int)) (.int .i64 1)=some (.int .i64 (p:Nat)):=by
 have e:abin .sub (.int .i64 ((p+1:Nat):Int)) (.int .i64 1)=some (.int .i64 (IntKind.i64.wrap (((p+1:Nat):Int) - 1))):=rfl
 rw [e,show (((p+1:Nat):Int) - 1)=(p:Int) by omega,wrap64 (by omega)]
theorem dlt {p q:Nat} (h:p < q):decide ((p:Int) < (q:Int))=true:=decide_eq_true (by omega)
theorem dge {p q:Nat} (h:q≤p):decide ((p:Int) < (q:Int))=false:=decide_eq_false (by omega)
theorem loop5i (hk:aexitTo 2 k0=some k') (ht:TreeR H1 x nodes) (ok:TreeOk (s.size:Nat) nodes root) (hn:nodes.length=n) (hle:n≤16384) (hm:nodes[i]? = some m) (hw:RowI H1 w m.l) {b8:Nat} (hb8:c < b8)
  (hend:∀ H,TInv H1 H b3 c x root n (met nodes i m m.l.length)→H.get b8=some (.cells 42 (ndC w m))→DRX Tryd.prog (kof k5) 202 k' [] [(0,.str s),(3,.ptr b3 0),(5,.int .i64 (n:Nat)),(6,.sl c 0 n (some n)),(7,.int .i64 (i:Nat)),(8,.ptr b8 0)] H Q) :
  ∀ (d k:Nat) (H:AHeap),m.l.length - k≤d→k≤m.l.length→TInv H1 H b3 c x root n (met nodes i m k)→H.get b8=some (.cells 42 (ndC w m))→
   DRX Tryd.prog (kof k5) 202 (.code l5_0::.inLoop l5_0::k0) [] [(0,.str s),(3,.ptr b3 0),(5,.int .i64 (n:Nat)),(6,.sl c 0 n (some n)),(7,.int .i64 (i:Nat)),(8,.ptr b8 0),(9,.int .i64 (k:Nat))] H Q:=by
 have hno:=ok.ok i m hm
 have hi:i < n:=by rw [← hn]; exact (List.getElem?_eq_some_iff.mp hm).1
 have hroot:=ok.rt
 have hlen:m.l.length≤n:=by
  have:=(show m.l.Nodup from hno.so.imp (fun h=>Nat.ne_of_lt h)).length_le_of_subset (l₂:=List.range n) (fun y hy=>List.mem_range.mpr (by have:=(hno.lo y hy).2; omega))
  simpa using this
 have hwl:∀ H',alenT H' 1 w=some m.l.length:=fun H'=>hw.alen
 intro d
 induction d with
 | zero=>
  intro k H hd hkl inv h8
  have hkk:k=m.l.length:=by omega
  subst hkk
  have lw:=load_cell h8 (o:=4) (v:=w) rfl
  refine DRX.go rfl ?_
  simp -dsimp only [XZ,SZ,EZ,astep,aun,AVal.cells,reduceIte,Nat.reduceEqDiff,Nat.reduceAdd,Nat.reduceLeDiff,lw,hwl,lss64,dge (Nat.le_refl m.l.length)]
  refine DRX.ne rfl rfl ?_
  refine DRX.exit (k':=k') (by simpa [aexitTo] using hk) ?_
  exact DRX.only [0,3,5,6,7,8] (hend H inv h8)
 | succ d ih=>
  intro k H hd hkl inv h8
  have lw:=load_cell h8 (o:=4) (v:=w) rfl
  rcases Nat.lt_or_ge k m.l.length with hlt | hge
  ·obtain ⟨a,ha⟩:∃ a,m.l[k]? = some a:=⟨_,List.getElem?_eq_getElem hlt⟩
   have hai:=(hno.lo a (List.mem_of_getElem? ha)).2
   obtain ⟨idw,wix,wld⟩:=hw.at_ ha
   have wld:=wld inv.g
   refine DRX.go rfl ?_
   simp -dsimp only [XZ,SZ,EZ,astep,aun,AVal.cells,reduceIte,Nat.reduceEqDiff,Nat.reduceAdd,Nat.reduceLeDiff,lw,hwl,lss64,dlt hlt]
   refine DRX.ye rfl rfl ?_
   have l0:decide (((a:Nat):Int) < 0)=false:=decide_eq_false (by omega)
   have l1:decide (((a:Nat):Int) ≥ (i:Nat))=false:=decide_eq_false (by omega)
   have can:(cnts n (met nodes i m k))[a]? = some ((met nodes i m k).count a):=cnts_at _ (by omega)
   obtain ⟨cix,cld⟩:=ints_at (co:=some n) inv.hc cnts_len can
   have hcount:(met nodes i m k).count a≤1:=by
    have:=met_le (k:=k) (x:=a) hm
    rw [ok.cnt] at this
    split at this <;> omega
   have hadd:abin .add (.int .i64 ((met nodes i m k).count a:Nat)) (.int .i64 1)=some (.int .i64 (((met nodes i m k).count a+1:Nat):Int)):=add64 (q:=1) (by omega)
   have hadk:abin .add (.int .i64 (k:Nat)) (.int .i64 1)=some (.int .i64 ((k+1:Nat):Int)):=add64 (q:=1) (by omega)
   have hst:=store_cell inv.hc (o:=a) (v:=.int .i64 (((met nodes i m k).count a+1:Nat):Int)) (by unfold intsC; rw [List.length_map,cnts_len]; omega) rfl rfl
   obtain ⟨H2,hH2,g2,n2,f2⟩:=upd inv.hc (.cells 3 (aput (intsC (cnts n (met nodes i m k))) a [.int .i64 (((met nodes i m k).count a+1:Nat):Int)]))
   have hnew:aput (intsC (cnts n (met nodes i m k))) a [.int .i64 (((met nodes i m k).count a+1:Nat):Int)]=intsC (cnts n (met nodes i m (k+1))):=by
    rw [aput_one (by unfold intsC; rw [List.length_map,cnts_len]; omega),met_step ha,cnts_step]
    unfold intsC
    rw [List.map_set]
   have inv2:TInv H1 H2 b3 c x root n (met nodes i m (k+1)):=
    ⟨⟨by rw [n2]; exact inv.g.1,fun j hj=>(f2 j (by have:=inv.n3; have:=inv.lt; omega)).trans (inv.g.2 j hj)⟩,inv.n3,inv.lt,(f2 _ (by have:=inv.lt; omega)).trans inv.h3,by rw [g2,hnew]⟩
   have h82:H2.get b8=some (.cells 42 (ndC w m)):=(f2 _ (by omega)).trans h8
   have go:DRX Tryd.prog (kof k5) 202 (.code (.region false r5_23 [0,3,5,6,7,8,9])::.inBlock 3::.code (.region false r5_20 [0,3,5,6,7,8,9])::.inLoop l5_0::k0) [] [(0,.str s),(3,.ptr b3 0),(5,.int .i64 (n:Nat)),(6,.sl c 0 n (some n)),(7,.int .i64 (i:Nat)),(8,.ptr b8 0),(9,.int .i64 (k:Nat))] H Q:=by
    refine DRX.go rfl ?_
    simp -dsimp only [XZ,SZ,EZ,astep,aun,AVal.cells,reduceIte,Nat.reduceEqDiff,Nat.reduceAdd,Nat.reduceLeDiff,lw,wix,wld,cix,cld,hadd,hst,← hH2]
    refine DRX.go rfl ?_
    simp -dsimp only [XZ,SZ,EZ,astep,aun,AVal.cells,reduceIte,Nat.reduceEqDiff,Nat.reduceAdd,Nat.reduceLeDiff,hadk]
    refine DRX.nm rfl ?_
    refine DRX.inLoop ?_
    exact ih (k+1) H2 (by omega) (by omega) inv2 h82
   rcases Nat.eq_zero_or_pos k with hz | hz
   ·have l2:decide (((k:Nat):Int) > 0)=false:=decide_eq_false (by omega)
    refine DRX.nm rfl ?_
    refine DRX.draw (by kernel_rfl) d5_21 ?_
    simp -dsimp only [m5_21,YZ,XZ,SZ,EZ,astep,aun,AVal.cells,reduceIte,Nat.reduceEqDiff,Nat.reduceAdd,Nat.reduceLeDiff,DS_nil,DS_cons,seesAll,staysAll,abit,List.getD_cons_zero,List.getD_cons_succ,AOp.quiet,AOp.reads,true_and,and_true,Nat.reducePow,Nat.reduceDiv,Nat.reduceMod,decide_true,decide_false,Nat.reduceEqDiff,reduceCtorEq,and_self,Nat.reduceBEq,lw,wix,wld,lss64,l0,geq64,l1,gtr64,l2]
    refine DRX.ne rfl rfl ?_
    exact DRX.skip (DRX.only [0,3,5,6,7,8,9] go)
   ·obtain ⟨q,rfl⟩:∃ q,k=q+1:=⟨k - 1,by omega⟩
    have l2:decide (((q+1:Nat):Int) > 0)=true:=decide_eq_true (by omega)
    obtain ⟨b,hb⟩:∃ b,m.l[q]? = some b:=⟨_,List.getElem?_eq_getElem (by omega)⟩
    obtain ⟨idv,vix,vld⟩:=hw.at_ hb
    have vld:=vld inv.g
    have hba:b < a:=by
     obtain ⟨h1,e1⟩:=List.getElem?_eq_some_iff.mp hb
     obtain ⟨h2,e2⟩:=List.getElem?_eq_some_iff.mp ha
     rw [← e1,← e2]
     exact List.pairwise_iff_getElem.mp hno.so q (q+1) h1 h2 (by omega)
    have l3:decide (((a:Nat):Int)≤(b:Nat))=false:=decide_eq_false (by omega)
    refine DRX.nm rfl ?_
    refine DRX.draw (by kernel_rfl) d5_21 ?_
    simp -dsimp only [m5_21,YZ,XZ,SZ,EZ,astep,aun,AVal.cells,reduceIte,Nat.reduceEqDiff,Nat.reduceAdd,Nat.reduceLeDiff,DS_nil,DS_cons,seesAll,staysAll,abit,List.getD_cons_zero,List.getD_cons_succ,AOp.quiet,AOp.reads,true_and,and_true,Nat.reducePow,Nat.reduceDiv,Nat.reduceMod,decide_true,decide_false,Nat.reduceEqDiff,reduceCtorEq,and_self,Nat.reduceBEq,lw,wix,wld,lss64,l0,geq64,l1,gtr64,l2,sub64 (p:=q) (by omega),vix,vld,leq64,l3]
    refine DRX.ne rfl rfl ?_
    exact DRX.skip (DRX.only [0,3,5,6,7,8,9] go)
  ·have hkk:k=m.l.length:=by omega
   subst hkk
   refine DRX.go rfl ?_
   simp -dsimp only [XZ,SZ,EZ,astep,aun,AVal.cells,reduceIte,Nat.reduceEqDiff,Nat.reduceAdd,Nat.reduceLeDiff,lw,hwl,lss64,dge (Nat.le_refl m.l.length)]
   refine DRX.ne rfl rfl ?_
   refine DRX.exit (k':=k') (by simpa [aexitTo] using hk) ?_
   exact DRX.only [0,3,5,6,7,8] (hend H inv h8)
theorem loop5o (hk:aexitTo 0 k0=some k') (ht:TreeR H1 x nodes) (ok:TreeOk (s.size:Nat) nodes root) (hn:nodes.length=n) (hle:n≤16384)
  (hend:∀ H,TInv H1 H b3 c x root n (nodes.flatMap (·.l))→DRX Tryd.prog (kof k5) 202 k' [] [(5,.int .i64 (n:Nat)),(6,.sl c 0 n (some n))] H Q) :
  ∀ (d i:Nat) (H:AHeap),n - i≤d→i≤n→TInv H1 H b3 c x root n ((nodes.take i).flatMap (·.l))→
   DRX Tryd.prog (kof k5) 202 (.code l5_1::.inLoop l5_1::k0) [] [(0,.str s),(3,.ptr b3 0),(5,.int .i64 (n:Nat)),(6,.sl c 0 n (some n)),(7,.int .i64 (i:Nat))] H Q:=by
 intro d
 induction d with
 | zero=>
  intro i H hd hin inv
  have hkk:i=n:=by omega
  subst hkk
  refine DRX.go rfl ?_
  simp -dsimp only [XZ,SZ,EZ,astep,aun,AVal.cells,reduceIte,Nat.reduceEqDiff,Nat.reduceAdd,Nat.reduceLeDiff,lss64,dge (Nat.le_refl i)]
  refine DRX.ne rfl rfl ?_
  refine DRX.exit (k':=k') (by simpa [aexitTo] using hk) ?_
  rw [List.take_of_length_le (by omega)] at inv
  exact DRX.only [5,6] (hend H inv)
 | succ d ih=>
  intro i H hd hin inv
  rcases Nat.lt_or_ge i n with hlt | hge
  ·obtain ⟨m,hm⟩:∃ m,nodes[i]? = some m:=⟨_,List.getElem?_eq_getElem (by omega)⟩
   have hno:=ok.ok i m hm
   obtain ⟨idr,o,w,ixr,hw,ldr⟩:=ht.node hm
   obtain ⟨lall,_⟩:=ldr inv.g
   have lx:=load_cell inv.h3 (o:=0) (v:=x) rfl
   refine DRX.go rfl ?_
   simp -dsimp only [XZ,SZ,EZ,astep,aun,AVal.cells,reduceIte,Nat.reduceEqDiff,Nat.reduceAdd,Nat.reduceLeDiff,lss64,dlt hlt]
   refine DRX.ye rfl rfl ?_
   obtain ⟨H2,hH2,g2,n2,f2⟩:=psh H (.cells 42 [.int .i64 0,.str ⟨#[]⟩,.int .i64 0,.flt .f64 0,.nils,.int .i64 0])
   have hone:ones (ndC w m)=true:=by
    rcases hw with ⟨rfl,_⟩ | ⟨id,cc,rfl,_⟩ <;> rfl
   have hst:=store_all (n:=6) g2 (new:=ndC w m) rfl hone rfl
   obtain ⟨H3,hH3,g3,n3,f3⟩:=upd g2 (.cells 42 (ndC w m))
   have hcl:c < H.next:=AHeap.get_lt inv.hc
   have inv3:TInv H1 H3 b3 c x root n (met nodes i m 0):=by
    rw [met_zero]
    exact inv.push hcl (fun j hj=>by rw [f3 j (by omega),f2 j hj]) (by omega)
   refine DRX.go rfl ?_
   simp -dsimp only [XZ,SZ,EZ,astep,aun,AVal.cells,reduceIte,Nat.reduceEqDiff,Nat.reduceAdd,Nat.reduceLeDiff,lx,ixr,lall,← hH2,hst,← hH3]
   have lp:=load_cell g3 (o:=5) (v:=.int .i64 m.p) rfl
   have hls:∀ H',alenT H' 0 (.str s)=some s.size:=fun _=>rfl
   have p0:decide (m.p < 0)=false:=decide_eq_false (by have:=hno.p.1; omega)
   have p1:decide (m.p > (s.size:Nat))=false:=decide_eq_false (by have:=hno.p.2; omega)
   refine DRX.go rfl ?_
   simp -dsimp only [XZ,SZ,EZ,astep,aun,AVal.cells,reduceIte,Nat.reduceEqDiff,Nat.reduceAdd,Nat.reduceLeDiff,lp,lss64,p0,hls,gtr64,p1]
   refine DRX.ne rfl rfl ?_
   refine DRX.go rfl ?_
   simp -dsimp only [XZ,SZ,EZ,astep,aun,AVal.cells,reduceIte,Nat.reduceEqDiff,Nat.reduceAdd,Nat.reduceLeDiff]
   refine DRX.nm rfl ?_
   refine DRX.loop ?_
   refine loop5i rfl ht ok hn hle hm hw hcl ?_ _ 0 H3 (Nat.le_refl _) (Nat.zero_le _) inv3 g3
   intro H4 inv4 g4
   have lk:=load_cell g4 (o:=0) (v:=.int .i64 m.k) rfl
   have ln:=load_cell g4 (o:=2) (v:=.int .i64 m.n) rfl
   have lw:=load_cell g4 (o:=4) (v:=w) rfl
   have lx4:=load_cell inv4.h3 (o:=0) (v:=x) rfl
   have hwl:∀ H',alenT H' 1 w=some m.l.length:=fun H'=>hw.alen
   have hadi:abin .add (.int .i64 (i:Nat)) (.int .i64 1)=some (.int .i64 ((i+1:Nat):Int)):=add64 (q:=1) (by omega)
   have go:∀ T',Env.keep T' [0,3,5,6,7]=[(0,.str s),(3,.ptr b3 0),(5,.int .i64 (n:Nat)),(6,.sl c 0 n (some n)),(7,.int .i64 (i:Nat))]→DRX Tryd.prog (kof k5) 202 (.inBlock 1::.code (.region false r5_14 [0,3,5,6,7])::.inLoop l5_1::k0) [] T' H4 Q:=by
    intro T' hT
    refine DRX.only [0,3,5,6,7] ?_
    rw [hT]
    refine DRX.go rfl ?_
    simp -dsimp only [XZ,SZ,EZ,astep,aun,AVal.cells,reduceIte,Nat.reduceEqDiff,Nat.reduceAdd,Nat.reduceLeDiff,hadi]
    refine DRX.nm rfl ?_
    refine DRX.inLoop ?_
    exact ih (i+1) H4 (by omega) (by omega) (by rw [met_end hm]; exact inv4)
   by_cases h21:m.k=21
   ·obtain ⟨gg,bb,h0,h1,h2,h3,⟨xg,hg,hgk⟩,xb,hb,hbk⟩:=hno.cl h21
    obtain ⟨q,hq⟩:∃ q:Nat,m.n=(q:Nat):=⟨m.n.toNat,by omega⟩
    have hq':m.n.toNat=q:=by omega
    rw [hq'] at h1 h2 h3
    have hlen:m.l.length≤n:=by
     have:=(show m.l.Nodup from hno.so.imp (fun h=>Nat.ne_of_lt h)).length_le_of_subset (l₂:=List.range n) (fun y hy=>List.mem_range.mpr (by have:=(hno.lo y hy).2; omega))
     simpa using this
    obtain ⟨id1,ix1,ld1⟩:=hw.at_ h2
    obtain ⟨id2,ix2,ld2⟩:=hw.at_ h3
    have ld1:=ld1 inv4.g
    have ld2:=ld2 inv4.g
    obtain ⟨ig,og,wg,ixg,_,ldg⟩:=ht.node hg
    obtain ⟨ib,ob,wb,ixb,_,ldb⟩:=ht.node hb
    obtain ⟨_,dg,dg',_⟩:=ldg inv4.g
    obtain ⟨_,db,db',_⟩:=ldb inv4.g
    rw [hgk] at dg dg'
    rw [hbk] at db db'
    rw [h21] at lk
    rw [hq] at ln
    have a2:abin .add (.int .i64 (q:Nat)) (.int .i64 2)=some (.int .i64 ((q+2:Nat):Int)):=add64 (q:=2) (by omega)
    have a1:abin .add (.int .i64 (q:Nat)) (.int .i64 1)=some (.int .i64 ((q+1:Nat):Int)):=add64 (q:=1) (by omega)
    rw [h1] at hwl
    have e1:((21:Int)==21)=true:=rfl
    have e2:(((q+2:Nat):Int) != ((q+2:Nat):Int))=false:=bne_self_eq_false _
    have e3:((22:Int) != 22)=false:=rfl
    have e4:((19:Int) != 19)=false:=rfl
    refine DRX.nm rfl ?_
    refine DRX.draw (by kernel_rfl) d5_24 ?_
    simp -dsimp only [m5_24,YZ,XZ,SZ,EZ,astep,aun,AVal.cells,reduceIte,Nat.reduceEqDiff,Nat.reduceAdd,Nat.reduceLeDiff,DS_nil,DS_cons,seesAll,staysAll,abit,List.getD_cons_zero,List.getD_cons_succ,AOp.quiet,AOp.reads,true_and,and_true,Nat.reducePow,Nat.reduceDiv,Nat.reduceMod,decide_true,decide_false,Nat.reduceEqDiff,reduceCtorEq,and_self,Nat.reduceBEq,lk,ln,lw,lx4,hwl,a2,a1,eql64,neq64,e1,e2,e3,e4,ix1,ix2,ld1,ld2,ixg,ixb,dg,dg',db,db']
    refine DRX.ne rfl rfl ?_
    refine DRX.skip (go _ ?_)
    rfl
   ·have e1:(m.k==21)=false:=by simpa using h21
    refine DRX.nm rfl ?_
    refine DRX.draw (by kernel_rfl) d5_24 ?_
    simp -dsimp only [m5_24,YZ,XZ,SZ,EZ,astep,aun,AVal.cells,reduceIte,Nat.reduceEqDiff,Nat.reduceAdd,Nat.reduceLeDiff,DS_nil,DS_cons,seesAll,staysAll,abit,List.getD_cons_zero,List.getD_cons_succ,AOp.quiet,AOp.reads,true_and,and_true,Nat.reducePow,Nat.reduceDiv,Nat.reduceMod,decide_true,decide_false,Nat.reduceEqDiff,reduceCtorEq,and_self,Nat.reduceBEq,lk,eql64,e1]
    refine DRX.ne rfl rfl ?_
    refine DRX.skip (go _ ?_)
    rfl
  ·have hkk:i=n:=by omega
   subst hkk
   refine DRX.go rfl ?_
   simp -dsimp only [XZ,SZ,EZ,astep,aun,AVal.cells,reduceIte,Nat.reduceEqDiff,Nat.reduceAdd,Nat.reduceLeDiff,lss64,dge (Nat.le_refl i)]
   refine DRX.ne rfl rfl ?_
   refine DRX.exit (k':=k') (by simpa [aexitTo] using hk) ?_
   rw [List.take_of_length_le (by omega)] at inv
   exact DRX.only [5,6] (hend H inv)
theorem loop5c (hk:aexitTo 4 k0=some k') (ok:TreeOk (s.size:Nat) nodes root) (hn:root+1=n) (hle:n≤16384) {H:AHeap} (hc:H.get c=some (.cells 3 (intsC (cnts n (nodes.flatMap (·.l))))))
  (hend:DRX Tryd.prog (kof k5) 202 k' [] [(5,.int .i64 (n:Nat)),(6,.sl c 0 n (some n))] H Q) :
  ∀ (d j:Nat),root - j≤d→j≤root→DRX Tryd.prog (kof k5) 202 (.code l5_2::.inLoop l5_2::k0) [] [(5,.int .i64 (n:Nat)),(6,.sl c 0 n (some n)),(10,.int .i64 (j:Nat))] H Q:=by
 subst hn
 have hsub:=sub64 (p:=root) (by omega)
 have fin:DRX Tryd.prog (kof k5) 202 (.code l5_2::.inLoop l5_2::k0) [] [(5,.int .i64 ((root+1:Nat):Int)),(6,.sl c 0 (root+1) (some (root+1))),(10,.int .i64 (root:Nat))] H Q:=by
  refine DRX.go rfl ?_
  simp -dsimp only [XZ,SZ,EZ,astep,aun,AVal.cells,reduceIte,Nat.reduceEqDiff,Nat.reduceAdd,Nat.reduceLeDiff,lss64,hsub,dge (Nat.le_refl root)]
  refine DRX.ne rfl rfl ?_
  refine DRX.exit (k':=k') (by simpa [aexitTo] using hk) ?_
  exact DRX.only [5,6] hend
 intro d
 induction d with
 | zero=>
  intro j hd hj
  have:j=root:=by omega
  subst this
  exact fin
 | succ d ih=>
  intro j hd hj
  rcases Nat.lt_or_ge j root with hlt | hge
  ·have hcj:(cnts (root+1) (nodes.flatMap (·.l)))[j]? = some 1:=by rw [cnts_at _ (by omega),ok.cnt,if_pos hlt]
   obtain ⟨ix,ld⟩:=ints_at (co:=some (root+1)) hc cnts_len hcj
   have hadj:abin .add (.int .i64 (j:Nat)) (.int .i64 1)=some (.int .i64 ((j+1:Nat):Int)):=add64 (q:=1) (by omega)
   have e1:(((1:Nat):Int) != 1)=false:=rfl
   refine DRX.go rfl ?_
   simp -dsimp only [XZ,SZ,EZ,astep,aun,AVal.cells,reduceIte,Nat.reduceEqDiff,Nat.reduceAdd,Nat.reduceLeDiff,lss64,hsub,dlt hlt]
   refine DRX.ye rfl rfl ?_
   refine DRX.go rfl ?_
   simp -dsimp only [XZ,SZ,EZ,astep,aun,AVal.cells,reduceIte,Nat.reduceEqDiff,Nat.reduceAdd,Nat.reduceLeDiff,ix,ld,neq64,e1]
   refine DRX.ne rfl rfl ?_
   refine DRX.go rfl ?_
   simp -dsimp only [XZ,SZ,EZ,astep,aun,AVal.cells,reduceIte,Nat.reduceEqDiff,Nat.reduceAdd,Nat.reduceLeDiff,hadj]
   refine DRX.nm rfl ?_
   refine DRX.inLoop ?_
   exact ih (j+1) (by omega) (by omega)
  ·have:j=root:=by omega
   subst this
   exact fin
end
theorem g5 (H:AHeap) (s:ByteArray):DCallX Tryd.prog 5 [.str s] H fun o H'=>o = .ret (.bool true):=by
 refine DCallX.of_body (fn:=Tryd.f5) (by kernel_rfl) c5 (by kernel_rfl) (by simp [f5]) ?_
 unfold f5
 simp only []
 refine DRX.go rfl ?_
 simp -dsimp only [XZ,SZ,EZ,astep,aun,AVal.cells,reduceIte,Nat.reduceEqDiff,Nat.reduceAdd,Nat.reduceLeDiff]
 refine DRX.go rfl ?_
 simp -dsimp only [XZ,SZ,EZ,astep,aun,AVal.cells,reduceIte,Nat.reduceEqDiff,Nat.reduceAdd,Nat.reduceLeDiff]
 refine (g8 H).mono ?_
 rintro o H0 ⟨rfl,k0⟩
 simp -dsimp only [XZ,SZ,EZ,astep,aun,AVal.cells,reduceIte,Nat.reduceEqDiff,Nat.reduceAdd,Nat.reduceLeDiff,Bool.not_true]
 refine DRX.ne rfl rfl ?_
 have hls:∀ H',alenT H' 0 (.str s)=some s.size:=fun _=>rfl
 by_cases hbig:((s.size:Nat):Int) > 16384
 ·have hb:decide (((s.size:Nat):Int) > 16384)=true:=decide_eq_true hbig
  refine DRX.go rfl ?_
  simp -dsimp only [XZ,SZ,EZ,astep,aun,AVal.cells,reduceIte,Nat.reduceEqDiff,Nat.reduceAdd,Nat.reduceLeDiff,hls,gtr64,hb]
  refine DRX.ye rfl rfl ?_
  refine DRX.go rfl ?_
  simp -dsimp only [XZ,SZ,EZ,astep,aun,AVal.cells,reduceIte,Nat.reduceEqDiff,Nat.reduceAdd,Nat.reduceLeDiff]
  refine DRX.nm rfl ?_
  exact DRX.retv ⟨_,by simp [aresult,ares,Env.get] <;> rfl,rfl⟩
 ·have hb:decide (((s.size:Nat):Int) > 16384)=false:=decide_eq_false hbig
  refine DRX.go rfl ?_
  simp -dsimp only [XZ,SZ,EZ,astep,aun,AVal.cells,reduceIte,Nat.reduceEqDiff,Nat.reduceAdd,Nat.reduceLeDiff,hls,gtr64,hb]
  refine DRX.ne rfl rfl ?_
  refine DRX.go rfl ?_
  simp -dsimp only [XZ,SZ,EZ,astep,aun,AVal.cells,reduceIte,Nat.reduceEqDiff,Nat.reduceAdd,Nat.reduceLeDiff]
  refine (g10 (s:=s) (by omega)).mono ?_
  rintro o H1 ⟨r,x,hp,rfl,ht,k1⟩
  have ix0:∀ a b:AVal,([a,b]:List AVal)[0]? = some a:=fun _ _=>rfl
  have ix1:∀ a b:AVal,([a,b]:List AVal)[1]? = some b:=fun _ _=>rfl
  obtain ⟨H2,H3,H4,H5,e2,e3,e4,e5,k5',g51,g52,n2⟩:=pair34 (H1:=H1) (x:=x) (i:=r.root) (e:=r.e) (p:=r.p) (ht.one.2 r.root)
  simp -dsimp only [XZ,SZ,EZ,astep,aun,AVal.cells,reduceIte,Nat.reduceEqDiff,Nat.reduceAdd,Nat.reduceLeDiff,ix0,ix1,e2,e3,e4,e5]
  have lB:=load_all (n:=2) g52 rfl
  have l0:=load_cell g51 (o:=0) (v:=x) rfl
  have l1:=load_cell g51 (o:=1) (v:=.int .i64 (r.root:Nat)) rfl
  have m0:=load_cell g52 (o:=0) (v:=.int .i64 r.e) rfl
  have m1:=load_cell g52 (o:=1) (v:=.int .i64 r.p) rfl
  have hz:afill [.int .i64 0,.int .i64 0] []=some [.int .i64 0,.int .i64 0]:=rfl
  have hlen:=fun H'=>ht.len H'
  cases r with
  | flaw e p=>
   obtain ⟨he,hp0,hp1⟩:=hp.flaw_ok
   simp only [Parsed.nodes,Parsed.root,Parsed.e,Parsed.p] at lB l0 l1 m0 m1 hlen
   have he1:(e==0)=false:=by simpa using he
   have he2:(e != 0)=true:=by simpa using he
   have hq1:aeqs [1,1] [.int .i64 e,.int .i64 p] [.int .i64 0,.int .i64 0]=some false:=by simp [aeqs,he]
   have x1:(true ^^ false)=true:=rfl
   have hl0:∀ H',alenT H' 1 x=some 0:=hlen
   have q0:(((0:Nat):Int)==0)=true:=rfl
   have p0:decide (p ≥ 0)=true:=decide_eq_true hp0
   have p1:decide (p≤(s.size:Nat))=true:=decide_eq_true hp1
   refine DRX.go rfl ?_
   simp -dsimp only [XZ,SZ,EZ,astep,aun,AVal.cells,reduceIte,Nat.reduceEqDiff,Nat.reduceAdd,Nat.reduceLeDiff,lB,Env.parts,hz,hq1,x1]
   refine DRX.ye rfl rfl ?_
   refine DRX.go rfl ?_
   simp -dsimp only [XZ,SZ,EZ,astep,aun,AVal.cells,reduceIte,Nat.reduceEqDiff,Nat.reduceAdd,Nat.reduceLeDiff,l0,l1,m0,m1,hl0,eql64,neq64,geq64,leq64,q0,he2,p0,p1,hls]
   refine DRX.nm rfl ?_
   exact DRX.retv ⟨_,by simp [aresult,ares,Env.get] <;> rfl,rfl⟩
  | tree nodes root=>
   have ok:=hp.tree_ok
   have hle:=hp.tree_le
   have hroot:=ok.rt
   obtain ⟨xr,hxr,hxk⟩:=ok.mod
   simp only [Parsed.nodes,Parsed.root,Parsed.e,Parsed.p] at lB l0 l1 m0 m1 hlen ht g51
   have hq1:aeqs [1,1] [.int .i64 0,.int .i64 0] [.int .i64 0,.int .i64 0]=some true:=rfl
   have x1:(true ^^ true)=false:=rfl
   rw [← hroot] at hlen
   obtain ⟨ir,orr,wr,ixr,_,ldr⟩:=ht.node hxr
   obtain ⟨_,dr,dr',_⟩:=ldr k5'
   rw [hxk] at dr dr'
   have q0:(((root+1:Nat):Int)==0)=false:=by simp; omega
   have q1:(((root:Nat):Int) != ((root:Nat):Int))=false:=bne_self_eq_false _
   have q2:((24:Int) != 24)=false:=rfl
   refine DRX.go rfl ?_
   simp -dsimp only [XZ,SZ,EZ,astep,aun,AVal.cells,reduceIte,Nat.reduceEqDiff,Nat.reduceAdd,Nat.reduceLeDiff,lB,Env.parts,hz,hq1,x1]
   refine DRX.ne rfl rfl ?_
   refine DRX.go rfl ?_
   simp -dsimp only [XZ,SZ,EZ,astep,aun,AVal.cells,reduceIte,Nat.reduceEqDiff,Nat.reduceAdd,Nat.reduceLeDiff,l0,hlen]
   refine DRX.go rfl ?_
   simp -dsimp only [XZ,SZ,EZ,astep,aun,AVal.cells,reduceIte,Nat.reduceEqDiff,Nat.reduceAdd,Nat.reduceLeDiff,l0,l1,eql64,neq64,q0,sub64 (p:=root) (by omega),q1,ixr,dr,dr',q2]
   refine DRX.ne rfl rfl ?_
   obtain ⟨H6,hH6,g6,n6,f6⟩:=psh H5 (.cells 3 (intsC (cnts (root+1) [])))
   have hmk:0≤((root+1:Nat):Int)∧((root+1:Nat):Int)≤((root+1:Nat):Int)∧(8:Nat) * ((root+1:Nat):Int)≤140737488355328∧((root+1:Nat):Int) < 9223372036854775808∧([AVal.int .i64 0]:List AVal).length≠0:=by
    refine ⟨by omega,by omega,by omega,by omega,by simp⟩
   have hcell:(List.replicate (root+1) [AVal.int .i64 0]).flatten=intsC (cnts (root+1) []):=by
    rw [cnts_nil]; unfold intsC; rw [List.map_replicate,← List.flatMap_id]; simp
   have hton:Int.toNat ((root+1:Nat):Int)=root+1:=Int.toNat_natCast _
   refine DRX.go rfl ?_
   simp -dsimp only [XZ,SZ,EZ,astep,aun,AVal.cells,reduceIte,Nat.reduceEqDiff,Nat.reduceAdd,Nat.reduceLeDiff,hmk,hton,hcell,← hH6]
   refine DRX.go rfl ?_
   simp -dsimp only [XZ,SZ,EZ,astep,aun,AVal.cells,reduceIte,Nat.reduceEqDiff,Nat.reduceAdd,Nat.reduceLeDiff]
   have lt5:H1.next < H5.next:=AHeap.get_lt g51
   have inv:TInv H1 H6 H1.next H5.next x root (root+1) ((nodes.take 0).flatMap (·.l)):=by
    refine ⟨k5'.trans ⟨by omega,fun j hj=>f6 j hj⟩,Nat.le_refl _,lt5,(f6 _ lt5).trans g51,by rw [g6]; simp⟩
   refine DRX.nm rfl ?_
   refine DRX.loop ?_
   refine loop5o rfl ht ok hroot.symm (by omega) ?_ _ 0 H6 (Nat.le_refl _) (Nat.zero_le _) inv
   intro H7 inv7
   refine DRX.go rfl ?_
   simp -dsimp only [XZ,SZ,EZ,astep,aun,AVal.cells,reduceIte,Nat.reduceEqDiff,Nat.reduceAdd,Nat.reduceLeDiff]
   refine DRX.nm rfl ?_
   refine DRX.loop ?_
   refine loop5c rfl ok rfl (by omega) inv7.hc ?_ _ 0 (Nat.le_refl _) (Nat.zero_le _)
   have hcr:(cnts (root+1) (nodes.flatMap (·.l)))[root]? = some 0:=by rw [cnts_at _ (by omega),ok.cnt,if_neg (by omega)]
   obtain ⟨ix,ld⟩:=ints_at (co:=some (root+1)) inv7.hc cnts_len hcr
   have z0:(((0:Nat):Int)==0)=true:=rfl
   refine DRX.go rfl ?_
   simp -dsimp only [XZ,SZ,EZ,astep,aun,AVal.cells,reduceIte,Nat.reduceEqDiff,Nat.reduceAdd,Nat.reduceLeDiff,sub64 (p:=root) (by omega),ix,ld,eql64,z0]
   refine DRX.nm rfl ?_
   exact DRX.retv ⟨_,by simp [aresult,ares,Env.get] <;> rfl,rfl⟩
end Go.Am.Rl
namespace Go.Am
theorem DCallX.call {P:Program} {f:FuncId} {args:List AVal} {H:AHeap} {Q:AVal→AHeap→Prop} (h:DCallX P f args H fun o H'=>∃ v,o = .ret v∧Q v H'):CallEv P f args H Q:=by
 obtain ⟨o,H1,⟨v,rfl,hq⟩,hc,hd⟩:=h
 intro w ro μ argv hg ha
 refine (hd w ro μ argv hg ha).mono fun e w' ⟨o,H',ro',μ',⟨e1,e2⟩,ho,hg',hout⟩=> ?_
 subst e1; subst e2
 obtain ⟨v',h1,h2⟩:=ho
 exact ⟨v',v,_,ro',μ',h1,hq,h2,hg',hout⟩
end Go.Am
