/- The functions, in the abstract machine's form (written by gen.py). -/
import Derived.Test.YtmiomdldmoejgaaGreatDoorFn
import Derived.Test.YtmiomdldmoejgaaGreatDoorProg
set_option linter.unusedVariables false
namespace Go.Am.Rl
open Go.Proofs
set_option maxRecDepth 20000
abbrev r5_0:LA:=[oo 2 (.mv (.c (.bool false))) []]
abbrev r5_1:LA:=[zm 4 0 [],zL 5 1 4 [0],oo 6 (.bin .gtr (.t 5) (.c (.int .i64 5))) [1],zm 7 6 [2],ym 8 0 7 false [3],og 9 (.build [.int .i64 0,.int .i64 0,.flt .f64 0,.str ⟨#[]⟩,.nils] [(4,1,(.t 8))]) 7 false [4,3],og 10 (.callF 12 [(.t 9),(.c (.int .i64 150000)),(.c (.int .i64 500))]) 7 false [5,3,3],og 11 (.bin .lss (.t 10) (.c (.int .i64 0))) 7 false [6,3],zo 12 7 11 [3,7]]
abbrev r5_2:LA:=[oo 2 (.mv (.c (.bool false))) []]
abbrev r5_3:LA:=[zi 3 0 []]
abbrev r5_4:LA:=[zm 13 3 [],zm 14 0 [],zL 15 1 14 [1],oo 16 (.bin .lss (.t 13) (.t 15)) [0,2]]
abbrev r5_6:LA:=[zm 19 0 [],zm 20 3 [],zd 21 5 19 20 [0,1],zr 22 5 21 [2],zk 23 13 22 [3],oo 24 (.un .not (.t 23)) [4]]
abbrev r5_7:LA:=[oo 2 (.mv (.c (.bool false))) []]
abbrev r5_5:LA:=[zm 17 3 [],za 18 17 1 [0],zm 3 18 [1,0,1]]
def l5_0:ACode:=.seq (.seq (.g r5_4 [0,3,16]) (.cond (.t 16) (.skip) (.exit 0))) (.seq (.block 1 (.seq (.g r5_6 [0,3,24]) (.cond (.t 24) (.seq (.g r5_7 [2]) (.ret)) (.skip)))) (.g r5_5 [0,3]))
abbrev r5_8:LA:=[oo 2 (.mv (.c (.bool true))) []]
def k5:List (List Nat):=[[0],[0,12],[2],[0,3],[0,3,16],[0,3],[0,3,24],[2],[2]]
def f5:AFunc:=⟨25,[.tmp 2],(.seq (.g r5_0 [0]) (.seq (.seq (.g r5_1 [0,12]) (.cond (.t 12) (.seq (.g r5_2 [2]) (.ret)) (.skip))) (.seq (.seq (.g r5_3 [0,3]) (.block 0 (.loop l5_0))) (.seq (.g r5_8 [2]) (.ret)))))⟩
theorem c5:cfunc Tryz.prog (kof k5) Tryz.f5=some f5:=by kernel_rfl
abbrev r12_0:LA:=[oo 3 (.box 27 (.t 0)) [],zi 6 0 []]
abbrev r12_1:LA:=[zm 8 1 [],oo 9 (.bin .lss (.t 8) (.c (.int .i64 0))) [0],zm 10 9 [1],ym 11 2 10 false [2],og 12 (.bin .lss (.t 11) (.c (.int .i64 0))) 10 false [3,2],zo 13 10 12 [2,4]]
abbrev r12_2:LA:=[oo 6 (.mv (.c (.int .i64 (-1)))) []]
abbrev r12_3:LA:=[zm 14 1 [],oo 15 (.bin .sub (.t 14) (.c (.int .i64 1))) [0],zm 1 15 [1,0,1]]
abbrev r12_4:LA:=[zi 7 0 []]
abbrev r12_5:LA:=[zm 16 7 [],zf 17 4 3 [],zl 18 17 [1],zL 19 1 18 [2],oo 20 (.bin .lss (.t 16) (.t 19)) [0,3],zm 21 20 [4],ym 22 1 21 true [5],og 23 (.bin .geq (.t 22) (.c (.int .i64 0))) 21 true [6,5],zp 24 21 23 [5,7]]
abbrev r12_7:LA:=[zf 27 4 3 [],zl 28 27 [0],zm 29 7 [],zd 30 5 28 29 [1,2],zr 31 5 30 [3],zm 32 1 [],zm 33 2 [],oo 34 (.bin .sub (.t 33) (.c (.int .i64 1))) [6],oo 35 (.callF 12 [(.t 31),(.t 32),(.t 34)]) [4,5,7],zm 1 35 [8,8,0,1,2,3,4,5,6,7,8]]
abbrev r12_6:LA:=[zm 25 7 [],za 26 25 1 [0],zm 7 26 [1,0,1]]
def l12_0:ACode:=.seq (.seq (.g r12_5 [1,2,3,7,24]) (.cond (.t 24) (.skip) (.exit 0))) (.seq (.block 1 (.g r12_7 [1,2,3,7])) (.g r12_6 [1,2,3,7]))
abbrev r12_8:LA:=[zm 36 1 [],zm 6 36 [0,0]]
def k12:List (List Nat):=[[1,2,3],[1,2,3,13],[6],[1,2,3],[1,2,3,7],[1,2,3,7,24],[1,2,3,7],[1,2,3,7],[6]]
def f12:AFunc:=⟨37,[.tmp 6],(.seq (.g r12_0 [1,2,3]) (.seq (.seq (.g r12_1 [1,2,3,13]) (.cond (.t 13) (.seq (.g r12_2 [6]) (.ret)) (.skip))) (.seq (.g r12_3 [1,2,3]) (.seq (.seq (.g r12_4 [1,2,3,7]) (.block 0 (.loop l12_0))) (.seq (.g r12_8 [6]) (.ret))))))⟩
theorem c12:cfunc Tryz.prog (kof k12) Tryz.f12=some f12:=by kernel_rfl
abbrev r13_0:LA:=[oo 1 (.box 27 (.t 0)) [],oo 2 (.mv (.c (.bool false))) []]
abbrev r13_1:LA:=[zr 3 5 1 [],zk 4 29 3 [0],ze 5 4 0 [1],zm 2 5 [2,1,0,1,2]]
def k13:List (List Nat):=[[1],[2]]
def f13:AFunc:=⟨6,[.tmp 2],(.seq (.g r13_0 [1]) (.seq (.g r13_1 [2]) (.ret)))⟩
theorem c13:cfunc Tryz.prog (kof k13) Tryz.f13=some f13:=by kernel_rfl
abbrev r29_0:LA:=[oo 1 (.box 27 (.t 0)) [],zi 2 0 []]
abbrev r29_1:LA:=[zr 3 5 1 [],oo 4 (.callF 69 [(.t 3),(.c (.int .i64 200)),(.c (.int .i64 65536))]) [0],oo 5 (.bin .lss (.t 4) (.c (.int .i64 0))) [1]]
abbrev r29_2:LA:=[zi 2 12 []]
abbrev r29_3:LA:=[zr 6 5 1 [],zk 7 70 6 [0],oo 8 (.un .not (.t 7)) [1]]
abbrev r29_4:LA:=[zi 2 4 []]
abbrev r29_5:LA:=[zi 2 0 []]
def k29:List (List Nat):=[[1],[1,5],[2],[8],[2],[2]]
def f29:AFunc:=⟨9,[.tmp 2],(.seq (.g r29_0 [1]) (.seq (.seq (.g r29_1 [1,5]) (.cond (.t 5) (.seq (.g r29_2 [2]) (.ret)) (.skip))) (.seq (.seq (.g r29_3 [8]) (.cond (.t 8) (.seq (.g r29_4 [2]) (.ret)) (.skip))) (.seq (.g r29_5 [2]) (.ret)))))⟩
theorem c29:cfunc Tryz.prog (kof k29) Tryz.f29=some f29:=by kernel_rfl
abbrev r69_0:LA:=[oo 3 (.box 27 (.t 0)) [],zi 6 0 []]
abbrev r69_1:LA:=[zm 10 1 [],oo 11 (.bin .lss (.t 10) (.c (.int .i64 1))) [0],zm 12 11 [1],og 13 (.load (some 5) (.t 3)) 12 false [2],og 14 (.callF 109 [(.t 13)]) 12 false [3,2,2],ym 15 2 12 false [2],og 16 (.bin .gtr (.t 14) (.t 15)) 12 false [4,5,2],zo 17 12 16 [2,6]]
abbrev r69_2:LA:=[oo 6 (.mv (.c (.int .i64 (-1)))) []]
abbrev r69_3:LA:=[zr 18 5 3 [],zk 19 109 18 [0],zm 7 19 [1,1,0,1]]
abbrev r69_4:LA:=[zi 8 0 []]
abbrev r69_5:LA:=[zm 20 8 [],zf 21 4 3 [],zl 22 21 [1],zL 23 1 22 [2],oo 24 (.bin .lss (.t 20) (.t 23)) [0,3]]
abbrev r69_7:LA:=[zf 27 4 3 [],zl 28 27 [0],zm 29 8 [],zd 30 5 28 29 [1,2],zr 31 5 30 [3],zm 32 1 [],oo 33 (.bin .sub (.t 32) (.c (.int .i64 1))) [5],zm 34 2 [],zm 35 7 [],oo 36 (.bin .sub (.t 34) (.t 35)) [7,8],oo 37 (.callF 69 [(.t 31),(.t 33),(.t 36)]) [4,6,9],zm 9 37 [10,10,0,1,2,3,4,5,6,7,8,9,10]]
abbrev r69_8:LA:=[zm 38 9 [],oo 39 (.bin .lss (.t 38) (.c (.int .i64 0))) [0]]
abbrev r69_9:LA:=[oo 6 (.mv (.c (.int .i64 (-1)))) []]
abbrev r69_10:LA:=[zm 40 7 [],zm 41 9 [],oo 42 (.bin .add (.t 40) (.t 41)) [0,1],zm 7 42 [2,0,1,2]]
abbrev r69_6:LA:=[zm 25 8 [],za 26 25 1 [0],zm 8 26 [1,0,1]]
def l69_0:ACode:=.seq (.seq (.g r69_5 [1,2,3,7,8,24]) (.cond (.t 24) (.skip) (.exit 0))) (.seq (.block 1 (.seq (.g r69_7 [1,2,3,7,8,9]) (.seq (.seq (.g r69_8 [1,2,3,7,8,9,39]) (.cond (.t 39) (.seq (.g r69_9 [6]) (.ret)) (.skip))) (.g r69_10 [1,2,3,7,8])))) (.g r69_6 [1,2,3,7,8]))
abbrev r69_11:LA:=[zm 43 7 [],zm 6 43 [0,0]]
def k69:List (List Nat):=[[1,2,3],[1,2,3,17],[6],[1,2,3,7],[1,2,3,7,8],[1,2,3,7,8,24],[1,2,3,7,8],[1,2,3,7,8,9],[1,2,3,7,8,9,39],[6],[1,2,3,7,8],[6]]
def f69:AFunc:=⟨44,[.tmp 6],(.seq (.g r69_0 [1,2,3]) (.seq (.seq (.g r69_1 [1,2,3,17]) (.cond (.t 17) (.seq (.g r69_2 [6]) (.ret)) (.skip))) (.seq (.g r69_3 [1,2,3,7]) (.seq (.seq (.g r69_4 [1,2,3,7,8]) (.block 0 (.loop l69_0))) (.seq (.g r69_11 [6]) (.ret))))))⟩
theorem c69:cfunc Tryz.prog (kof k69) Tryz.f69=some f69:=by kernel_rfl
abbrev r70_0:LA:=[oo 1 (.box 27 (.t 0)) [],oo 2 (.mv (.c (.bool false))) []]
abbrev r70_1:LA:=[zr 4 5 1 [],zk 5 110 4 [0],oo 6 (.un .not (.t 5)) [1]]
abbrev r70_2:LA:=[oo 2 (.mv (.c (.bool false))) []]
abbrev r70_3:LA:=[zi 3 0 []]
abbrev r70_4:LA:=[zm 7 3 [],zf 8 4 1 [],zl 9 8 [1],zL 10 1 9 [2],oo 11 (.bin .lss (.t 7) (.t 10)) [0,3]]
abbrev r70_6:LA:=[zf 14 4 1 [],zl 15 14 [0],zm 16 3 [],zd 17 5 15 16 [1,2],zr 18 5 17 [3],zk 19 70 18 [4],oo 20 (.un .not (.t 19)) [5]]
abbrev r70_7:LA:=[oo 2 (.mv (.c (.bool false))) []]
abbrev r70_5:LA:=[zm 12 3 [],za 13 12 1 [0],zm 3 13 [1,0,1]]
def l70_0:ACode:=.seq (.seq (.g r70_4 [1,3,11]) (.cond (.t 11) (.skip) (.exit 0))) (.seq (.block 1 (.seq (.g r70_6 [1,3,20]) (.cond (.t 20) (.seq (.g r70_7 [2]) (.ret)) (.skip)))) (.g r70_5 [1,3]))
abbrev r70_8:LA:=[oo 2 (.mv (.c (.bool true))) []]
def k70:List (List Nat):=[[1],[1,6],[2],[1,3],[1,3,11],[1,3],[1,3,20],[2],[2]]
def f70:AFunc:=⟨21,[.tmp 2],(.seq (.g r70_0 [1]) (.seq (.seq (.g r70_1 [1,6]) (.cond (.t 6) (.seq (.g r70_2 [2]) (.ret)) (.skip))) (.seq (.seq (.g r70_3 [1,3]) (.block 0 (.loop l70_0))) (.seq (.g r70_8 [2]) (.ret)))))⟩
theorem c70:cfunc Tryz.prog (kof k70) Tryz.f70=some f70:=by kernel_rfl
abbrev r109_0:LA:=[oo 1 (.box 27 (.t 0)) [],zi 2 0 []]
abbrev r109_1:LA:=[zf 3 0 1 [],zl 4 3 [0]]
abbrev r109_2:LA:=[ze 6 4 1 [],zm 5 6 [0]]
abbrev r109_3:LA:=[ze 7 4 3 [],zm 5 7 [0]]
abbrev r109_4:LA:=[ze 8 4 6 [],zm 5 8 [0]]
abbrev r109_5:LA:=[zi 2 0 []]
abbrev r109_6:LA:=[ze 10 4 2 [],zm 9 10 [0]]
abbrev r109_7:LA:=[ze 11 4 4 [],zm 9 11 [0]]
abbrev r109_8:LA:=[zi 2 2 []]
abbrev r109_9:LA:=[ze 13 4 8 [],zm 12 13 [0]]
abbrev r109_10:LA:=[zf 14 4 1 [],zl 15 14 [0],zL 16 1 15 [1],oo 17 (.bin .mul (.c (.int .i64 2)) (.t 16)) [2],zm 2 17 [3,0,1,2,3]]
abbrev r109_11:LA:=[ze 19 4 5 [],zm 18 19 [0]]
abbrev r109_12:LA:=[zf 20 4 1 [],zl 21 20 [0],zL 22 1 21 [1],oo 23 (.bin .add (.c (.int .i64 2)) (.t 22)) [2],zm 2 23 [3,0,1,2,3]]
abbrev r109_13:LA:=[zf 24 4 1 [],zl 25 24 [0],zL 26 1 25 [1],oo 27 (.bin .add (.c (.int .i64 1)) (.t 26)) [2],zm 2 27 [3,0,1,2,3]]
def k109:List (List Nat):=[[1],[1,4],[1,4,5],[1,4,5],[1,4,5],[2],[1,4,9],[1,4,9],[2],[1,4,12],[2],[1,18],[2],[2]]
def f109:AFunc:=⟨28,[.tmp 2],(.seq (.g r109_0 [1]) (.seq (.seq (.g r109_1 [1,4]) (.block 0 (.seq (.seq (.g r109_2 [1,4,5]) (.cond (.t 5) (.skip) (.seq (.g r109_3 [1,4,5]) (.cond (.t 5) (.skip) (.g r109_4 [1,4,5]))))) (.cond (.t 5) (.seq (.g r109_5 [2]) (.ret)) (.seq (.seq (.g r109_6 [1,4,9]) (.cond (.t 9) (.skip) (.g r109_7 [1,4,9]))) (.cond (.t 9) (.seq (.g r109_8 [2]) (.ret)) (.seq (.g r109_9 [1,4,12]) (.cond (.t 12) (.seq (.g r109_10 [2]) (.ret)) (.seq (.g r109_11 [1,18]) (.cond (.t 18) (.seq (.g r109_12 [2]) (.ret)) (.skip))))))))))) (.seq (.g r109_13 [2]) (.ret))))⟩
theorem c109:cfunc Tryz.prog (kof k109) Tryz.f109=some f109:=by kernel_rfl
abbrev r110_0:LA:=[oo 1 (.box 27 (.t 0)) [],oo 2 (.mv (.c (.bool false))) []]
abbrev r110_1:LA:=[zf 3 0 1 [],zl 4 3 [0]]
abbrev r110_2:LA:=[ze 6 4 1 [],zm 5 6 [0]]
abbrev r110_3:LA:=[ze 7 4 2 [],zm 5 7 [0]]
abbrev r110_4:LA:=[zr 8 5 1 [],zk 9 54 8 [0],zm 2 9 [1,1,0,1]]
abbrev r110_5:LA:=[ze 11 4 3 [],zm 10 11 [0]]
abbrev r110_6:LA:=[zf 12 3 1 [],zl 13 12 [0],zL 14 0 13 [1],oo 15 (.bin .leq (.t 14) (.c (.int .i64 64))) [2],zm 16 15 [3],yf 17 1 1 16 true [4],yl 18 17 16 true [5,4],og 19 (.bin .eql (.t 18) (.c (.int .i64 0))) 16 true [6,4],zp 20 16 19 [4,7],zm 21 20 [8,4],yf 22 2 1 21 true [9],yl 23 22 21 true [10,9],og 24 (.callF 86 [(.t 23)]) 21 true [11,9,9],zp 25 21 24 [9,12],zm 26 25 [13,12],yf 27 4 1 26 true [14],yl 28 27 26 true [15,14],og 29 (.len 1 (.t 28)) 26 true [16,14],og 30 (.bin .eql (.t 29) (.c (.int .i64 0))) 26 true [17,14],zp 31 26 30 [14,18],zm 2 31 [19,14,0,1,2,3,4,5,6,7,8,9,10,11,12,13,14,15,16,17,18,19]]
abbrev r110_7:LA:=[ze 33 4 4 [],zm 32 33 [0]]
abbrev r110_8:LA:=[ze 34 4 6 [],zm 32 34 [0]]
abbrev r110_9:LA:=[zf 35 1 1 [],zl 36 35 [0],oo 37 (.bin .geq (.t 36) (.c (.int .i64 0))) [1],zm 38 37 [2],yf 39 1 1 38 true [3],yl 40 39 38 true [4,3],og 41 (.bin .leq (.t 40) (.c (.int .i64 1099511627776))) 38 true [5,3],zp 42 38 41 [3,6],zm 43 42 [7,3],yf 44 3 1 43 true [8],yl 45 44 43 true [9,8],og 46 (.bin .eql (.t 45) (.c (.str ⟨#[]⟩))) 43 true [10,8],zp 47 43 46 [8,11],zm 48 47 [12,8],yf 49 2 1 48 true [13],yl 50 49 48 true [14,13],og 51 (.callF 86 [(.t 50)]) 48 true [15,13,13],zp 52 48 51 [13,16],zm 53 52 [17,16],yf 54 4 1 53 true [18],yl 55 54 53 true [19,18],og 56 (.len 1 (.t 55)) 53 true [20,18],og 57 (.bin .eql (.t 56) (.c (.int .i64 0))) 53 true [21,18],zp 58 53 57 [18,22],zm 2 58 [23,18,0,1,2,3,4,5,6,7,8,9,10,11,12,13,14,15,16,17,18,19,20,21,22,23]]
abbrev r110_10:LA:=[ze 60 4 5 [],zm 59 60 [0]]
abbrev r110_11:LA:=[zf 61 1 1 [],zl 62 61 [0],oo 63 (.bin .geq (.t 62) (.c (.int .i64 0))) [1],zm 64 63 [2],yf 65 1 1 64 true [3],yl 66 65 64 true [4,3],og 67 (.bin .leq (.t 66) (.c (.int .i64 16384))) 64 true [5,3],zp 68 64 67 [3,6],zm 69 68 [7,3],yf 70 3 1 69 true [8],yl 71 70 69 true [9,8],og 72 (.bin .eql (.t 71) (.c (.str ⟨#[]⟩))) 69 true [10,8],zp 73 69 72 [8,11],zm 74 73 [12,8],yf 75 2 1 74 true [13],yl 76 75 74 true [14,13],og 77 (.callF 86 [(.t 76)]) 74 true [15,13,13],zp 78 74 77 [13,16],zm 2 78 [17,16,0,1,2,3,4,5,6,7,8,9,10,11,12,13,14,15,16,17]]
abbrev r110_12:LA:=[ze 80 4 7 [],zm 79 80 [0]]
abbrev r110_13:LA:=[ze 81 4 8 [],zm 79 81 [0]]
abbrev r110_14:LA:=[zf 82 1 1 [],zl 83 82 [0],ze 84 83 0 [1],zm 85 84 [2],yf 86 3 1 85 true [3],yl 87 86 85 true [4,3],og 88 (.bin .eql (.t 87) (.c (.str ⟨#[]⟩))) 85 true [5,3],zp 89 85 88 [3,6],zm 90 89 [7,3],yf 91 2 1 90 true [8],yl 92 91 90 true [9,8],og 93 (.callF 86 [(.t 92)]) 90 true [10,8,8],zp 94 90 93 [8,11],zm 2 94 [12,11,0,1,2,3,4,5,6,7,8,9,10,11,12]]
abbrev r110_15:LA:=[oo 2 (.mv (.c (.bool false))) []]
def k110:List (List Nat):=[[1],[1,4],[1,4,5],[1,4,5],[2],[1,4,10],[2],[1,4,32],[1,4,32],[2],[1,4,59],[2],[1,4,79],[1,79],[2],[2]]
def f110:AFunc:=⟨95,[.tmp 2],(.seq (.g r110_0 [1]) (.seq (.seq (.g r110_1 [1,4]) (.block 0 (.seq (.seq (.g r110_2 [1,4,5]) (.cond (.t 5) (.skip) (.g r110_3 [1,4,5]))) (.cond (.t 5) (.seq (.g r110_4 [2]) (.ret)) (.seq (.g r110_5 [1,4,10]) (.cond (.t 10) (.seq (.g r110_6 [2]) (.ret)) (.seq (.seq (.g r110_7 [1,4,32]) (.cond (.t 32) (.skip) (.g r110_8 [1,4,32]))) (.cond (.t 32) (.seq (.g r110_9 [2]) (.ret)) (.seq (.g r110_10 [1,4,59]) (.cond (.t 59) (.seq (.g r110_11 [2]) (.ret)) (.seq (.seq (.g r110_12 [1,4,79]) (.cond (.t 79) (.skip) (.g r110_13 [1,79]))) (.cond (.t 79) (.seq (.g r110_14 [2]) (.ret)) (.skip))))))))))))) (.seq (.g r110_15 [2]) (.ret))))⟩
theorem c110:cfunc Tryz.prog (kof k110) Tryz.f110=some f110:=by kernel_rfl
abbrev r54_0:LA:=[oo 1 (.box 27 (.t 0)) [],oo 2 (.mv (.c (.bool false))) []]
abbrev r54_1:LA:=[zf 3 3 1 [],zl 4 3 [0],oo 5 (.bin .neq (.t 4) (.c (.str ⟨#[]⟩))) [1],zm 6 5 [2],yf 7 4 1 6 false [3],yl 8 7 6 false [4,3],og 9 (.len 1 (.t 8)) 6 false [5,3],og 10 (.bin .neq (.t 9) (.c (.int .i64 0))) 6 false [6,3],zo 11 6 10 [3,7]]
abbrev r54_2:LA:=[oo 2 (.mv (.c (.bool false))) []]
abbrev r54_3:LA:=[zf 12 0 1 [],zl 13 12 [0],ze 14 13 1 [1]]
abbrev r54_4:LA:=[zf 15 1 1 [],zl 16 15 [0],oo 17 (.bin .geq (.t 16) (.c (.int .i64 (-576460752303423488)))) [1],zm 18 17 [2],yf 19 1 1 18 true [3],yl 20 19 18 true [4,3],og 21 (.bin .leq (.t 20) (.c (.int .i64 576460752303423487))) 18 true [5,3],zp 22 18 21 [3,6],zm 23 22 [7,3],yf 24 2 1 23 true [8],yl 25 24 23 true [9,8],og 26 (.callF 86 [(.t 25)]) 23 true [10,8,8],zp 27 23 26 [8,11],zm 2 27 [12,11,0,1,2,3,4,5,6,7,8,9,10,11,12]]
abbrev r54_5:LA:=[zf 28 0 1 [],zl 29 28 [0],ze 30 29 2 [1],zm 31 30 [2],yf 32 1 1 31 true [3],yl 33 32 31 true [4,3],og 34 (.bin .eql (.t 33) (.c (.int .i64 0))) 31 true [5,3],zp 35 31 34 [3,6],zm 36 35 [7,3],yf 37 2 1 36 true [8],yl 38 37 36 true [9,8],og 39 (.callF 87 [(.t 38)]) 36 true [10,8,8],zp 40 36 39 [8,11],zm 2 40 [12,11,0,1,2,3,4,5,6,7,8,9,10,11,12]]
def k54:List (List Nat):=[[1],[1,11],[2],[1,14],[2],[2]]
def f54:AFunc:=⟨41,[.tmp 2],(.seq (.g r54_0 [1]) (.seq (.seq (.g r54_1 [1,11]) (.cond (.t 11) (.seq (.g r54_2 [2]) (.ret)) (.skip))) (.seq (.seq (.g r54_3 [1,14]) (.cond (.t 14) (.seq (.g r54_4 [2]) (.ret)) (.skip))) (.seq (.g r54_5 [2]) (.ret)))))⟩
theorem c54:cfunc Tryz.prog (kof k54) Tryz.f54=some f54:=by kernel_rfl
abbrev r86_0:LA:=[oo 2 (.mv (.c (.bool false))) []]
abbrev r86_1:LA:=[zm 3 0 [],oo 4 (.ext 0 [(.t 3)]) [0],oo 5 (.bin .eql (.t 4) (.c (.int .u64 0))) [1],zm 2 5 [2,1,0,1,2]]
def k86:List (List Nat):=[[0],[2]]
def f86:AFunc:=⟨6,[.tmp 2],(.seq (.g r86_0 [0]) (.seq (.g r86_1 [2]) (.ret)))⟩
theorem c86:cfunc Tryz.prog (kof k86) Tryz.f86=some f86:=by kernel_rfl
abbrev r87_0:LA:=[oo 2 (.mv (.c (.bool false))) []]
abbrev r87_1:LA:=[zm 3 0 [],zm 4 0 [],oo 5 (.bin .sub (.t 3) (.t 4)) [0,1],oo 6 (.bin .eql (.t 5) (.c (.flt .f64 0))) [2],zm 2 6 [3,0,1,2,3]]
def k87:List (List Nat):=[[0],[2]]
def f87:AFunc:=⟨7,[.tmp 2],(.seq (.g r87_0 [0]) (.seq (.g r87_1 [2]) (.ret)))⟩
theorem c87:cfunc Tryz.prog (kof k87) Tryz.f87=some f87:=by kernel_rfl
end Go.Am.Rl
