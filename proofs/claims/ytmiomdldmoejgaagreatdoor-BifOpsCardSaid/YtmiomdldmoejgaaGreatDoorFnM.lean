/- The functions, in the abstract machine's form (written by gen.py). -/
import Derived.Test.YtmiomdldmoejgaaGreatDoorFnO
import Derived.Test.YtmiomdldmoejgaaGreatDoorProg
set_option linter.unusedVariables false
namespace Go.Am.Rl
open Go.Proofs
set_option maxRecDepth 20000
abbrev r39_0:LA:=[oo 4 (.box 27 (.t 1)) [],oo 5 (.box 27 (.t 2)) [],zA 6 27 [],zi 7 0 []]
abbrev r39_1:LA:=[zm 14 0 []]
abbrev r39_3:LA:=[oo 17 (.bin .eql (.t 14) (.c (.str ⟨#[43]⟩))) [],zm 16 17 [0]]
abbrev r39_4:LA:=[oo 18 (.bin .eql (.t 14) (.c (.str ⟨#[45]⟩))) [],zm 16 18 [0]]
abbrev r39_5:LA:=[oo 19 (.bin .eql (.t 14) (.c (.str ⟨#[42]⟩))) [],zm 16 19 [0]]
abbrev r39_6:LA:=[oo 20 (.bin .eql (.t 14) (.c (.str ⟨#[47]⟩))) [],zm 16 20 [0]]
abbrev r39_7:LA:=[oo 21 (.bin .eql (.t 14) (.c (.str ⟨#[100,105,118]⟩))) [],zm 16 21 [0]]
abbrev r39_8:LA:=[oo 22 (.bin .eql (.t 14) (.c (.str ⟨#[114,101,109]⟩))) [],zm 16 22 [0]]
abbrev r39_2:LA:=[zB 15 [] [],zs 5 6 15 [0,0],zi 7 13 [1,0,1]]
abbrev r39_9:LA:=[zr 24 5 4 [],zk 25 75 24 [0],zm 23 25 [1],zx 26 23 0 [2],zx 27 23 1 [2],oo 8 (.alloc 83 (.agg [.int .i64 0,.int .i64 0,.int .u64 0])) [],zs 3 8 26 [5,3,1,0,1,2,3,5],zm 9 27 [4,6,0,1,2,3,4,5,6]]
abbrev r39_10:LA:=[zr 29 5 5 [],zk 30 75 29 [0],zm 28 30 [1],zx 31 28 0 [2],zx 32 28 1 [2],oo 10 (.alloc 83 (.agg [.int .i64 0,.int .i64 0,.int .u64 0])) [],zs 3 10 31 [5,3,1,0,1,2,3,5],zm 11 32 [4,6,0,1,2,3,4,5,6]]
abbrev r39_11:LA:=[zr 33 3 8 [],zk 34 76 33 [0],zm 35 34 [1,1],og 36 (.load (some 3) (.t 10)) 35 true [2],og 37 (.callF 76 [(.t 36)]) 35 true [3,2,2],zp 38 35 37 [2,4],zm 12 38 [5,4,0,1,2,3,4,5]]
abbrev r39_12:LA:=[zm 39 0 [],oo 40 (.bin .eql (.t 39) (.c (.str ⟨#[100,105,118]⟩))) [0],zm 41 40 [1],ym 42 0 41 false [2],og 43 (.bin .eql (.t 42) (.c (.str ⟨#[114,101,109]⟩))) 41 false [3,2],zo 44 41 43 [2,4],zm 13 44 [5,2,0,1,2,3,4,5]]
abbrev r39_13:LA:=[zm 46 9 [],oo 47 (.un .not (.t 46)) [0],zm 48 47 [1],ym 49 11 48 false [2],og 50 (.un .not (.t 49)) 48 false [3,2],zo 51 48 50 [2,4],zm 52 51 [5,2],ym 53 13 52 false [6],ym 54 53 52 false [7,6,6],ym 55 12 54 true [8],og 56 (.un .not (.t 55)) 54 true [9,8],og 57 (.pick (.t 54) (.t 56) (.c (.bool false))) 52 false [8,10,6],zo 58 52 57 [6,11],zm 45 58 [12,8]]
abbrev r39_14:LA:=[zB 59 [] [],zs 5 6 59 [0,0],zi 7 11 [1,0,1]]
abbrev r39_15:LA:=[zm 61 13 [],zm 60 61 [0]]
abbrev r39_16:LA:=[zm 62 0 [],zf 63 1 8 [],zl 64 63 [1],zf 65 1 10 [],zl 66 65 [3],oo 67 (.callF 77 [(.t 62),(.t 64),(.t 66)]) [0,2,4],zx 68 67 0 [5],zx 69 67 1 [5],zs 5 6 68 [6,5,0,1,2,3,4,5,6,7],zm 7 69 [7,8,0,1,2,3,4,5,6,7,8]]
abbrev r39_17:LA:=[zm 71 12 [],zm 72 71 [0],ym 73 0 72 true [1],og 74 (.bin .neq (.t 73) (.c (.str ⟨#[47]⟩))) 72 true [2,1],zp 75 72 74 [1,3],zm 70 75 [4,1]]
abbrev r39_18:LA:=[zm 76 0 [],zf 77 1 8 [],zl 78 77 [1],zf 79 1 10 [],zl 80 79 [3],oo 81 (.callF 78 [(.t 76),(.t 78),(.t 80)]) [0,2,4],zx 82 81 0 [5],zx 83 81 1 [5],zs 5 6 82 [6,5,0,1,2,3,4,5,6,7],zm 7 83 [7,8,0,1,2,3,4,5,6,7,8]]
abbrev r39_19:LA:=[zm 84 0 [],zr 85 3 8 [],zk 86 80 85 [1],zr 87 3 10 [],zk 88 80 87 [3,2],oo 89 (.callF 79 [(.t 84),(.t 86),(.t 88)]) [0,2,4,4],zx 90 89 0 [5],zx 91 89 1 [5],zs 5 6 90 [6,5,0,1,2,3,4,5,6,7],zm 7 91 [7,8,0,1,2,3,4,5,6,7,8]]
def m39_19:List Nat:=[0,0,2,0,14,31,63,63,255,511]
theorem d39_19:okDraw r39_19 m39_19=true:=by kernel_rfl
def k39:List (List Nat):=[[0,4,5,6],[0,4,5,6,14],[6,7],[0,4,5,6,14,16],[0,4,5,6,14,16],[0,4,5,6,14,16],[0,4,5,6,14,16],[0,4,5,6,14,16],[0,4,5,6,16],[0,5,6,8,9],[0,6,8,9,10,11],[0,6,8,9,10,11,12],[0,6,8,9,10,11,12,13],[0,6,8,10,12,13,45],[6,7],[0,6,8,10,12,60],[6,7],[0,6,8,10,70],[6,7],[6,7]]
def f39:AFunc:=⟨92,[.cell 6 (some 5),.tmp 7],(.seq (.g r39_0 [0,4,5,6]) (.seq (.seq (.g r39_1 [0,4,5,6,14]) (.block 0 (.seq (.seq (.g r39_3 [0,4,5,6,14,16]) (.cond (.t 16) (.skip) (.seq (.g r39_4 [0,4,5,6,14,16]) (.cond (.t 16) (.skip) (.seq (.g r39_5 [0,4,5,6,14,16]) (.cond (.t 16) (.skip) (.seq (.g r39_6 [0,4,5,6,14,16]) (.cond (.t 16) (.skip) (.seq (.g r39_7 [0,4,5,6,14,16]) (.cond (.t 16) (.skip) (.g r39_8 [0,4,5,6,16]))))))))))) (.cond (.t 16) (.skip) (.seq (.g r39_2 [6,7]) (.ret)))))) (.seq (.g r39_9 [0,5,6,8,9]) (.seq (.g r39_10 [0,6,8,9,10,11]) (.seq (.g r39_11 [0,6,8,9,10,11,12]) (.seq (.g r39_12 [0,6,8,9,10,11,12,13]) (.seq (.block 1 (.seq (.g r39_13 [0,6,8,10,12,13,45]) (.cond (.t 45) (.seq (.g r39_14 [6,7]) (.ret)) (.seq (.g r39_15 [0,6,8,10,12,60]) (.cond (.t 60) (.seq (.g r39_16 [6,7]) (.ret)) (.seq (.g r39_17 [0,6,8,10,70]) (.cond (.t 70) (.seq (.g r39_18 [6,7]) (.ret)) (.skip)))))))) (.seq (.region true r39_19 [6,7]) (.ret)))))))))⟩
theorem c39:cfunc Tryz.prog (kof k39) Tryz.f39=some f39:=by kernel_rfl
abbrev r48_0:LA:=[oo 1 (.box 27 (.t 0)) [],zA 2 27 [],zi 3 0 []]
abbrev r48_1:LA:=[zr 7 5 1 [],zk 8 75 7 [0],zm 6 8 [1],zx 9 6 0 [2],zx 10 6 1 [2],oo 4 (.alloc 83 (.agg [.int .i64 0,.int .i64 0,.int .u64 0])) [],zs 3 4 9 [5,3,1,0,1,2,3,5],zm 5 10 [4,6,0,1,2,3,4,5,6]]
abbrev r48_2:LA:=[zm 12 5 [],oo 13 (.un .not (.t 12)) [0],zm 11 13 [1]]
abbrev r48_3:LA:=[zB 14 [] [],zs 5 2 14 [0,0],zi 3 11 [1,0,1]]
abbrev r48_4:LA:=[zr 16 3 4 [],zk 17 76 16 [0],zm 15 17 [1,1]]
abbrev r48_5:LA:=[zf 18 1 4 [],zl 19 18 [0],oo 20 (.un .neg (.t 19)) [1],zk 21 83 20 [2],zx 22 21 0 [3],zx 23 21 1 [3],zs 5 2 22 [4,3,0,1,2,3,4,5],zm 3 23 [5,6,0,1,2,3,4,5,6]]
abbrev r48_6:LA:=[zr 24 3 4 [],zk 25 80 24 [0],oo 26 (.un .neg (.t 25)) [1],zk 27 84 26 [2,1],zx 28 27 0 [3],zx 29 27 1 [3],zs 5 2 28 [4,3,0,1,2,3,4,5],zm 3 29 [5,6,0,1,2,3,4,5,6]]
def k48:List (List Nat):=[[1,2],[2,4,5],[2,4,11],[2,3],[2,4,15],[2,3],[2,3]]
def f48:AFunc:=⟨30,[.cell 2 (some 5),.tmp 3],(.seq (.g r48_0 [1,2]) (.seq (.g r48_1 [2,4,5]) (.seq (.block 0 (.seq (.g r48_2 [2,4,11]) (.cond (.t 11) (.seq (.g r48_3 [2,3]) (.ret)) (.seq (.g r48_4 [2,4,15]) (.cond (.t 15) (.seq (.g r48_5 [2,3]) (.ret)) (.skip)))))) (.seq (.g r48_6 [2,3]) (.ret)))))⟩
theorem c48:cfunc Tryz.prog (kof k48) Tryz.f48=some f48:=by kernel_rfl
abbrev r76_0:LA:=[oo 1 (.box 83 (.t 0)) [],oo 2 (.mv (.c (.bool false))) []]
abbrev r76_1:LA:=[zf 3 0 1 [],zl 4 3 [0],ze 5 4 1 [1],zm 2 5 [2,0,1,2]]
def k76:List (List Nat):=[[1],[2]]
def f76:AFunc:=⟨6,[.tmp 2],(.seq (.g r76_0 [1]) (.seq (.g r76_1 [2]) (.ret)))⟩
theorem c76:cfunc Tryz.prog (kof k76) Tryz.f76=some f76:=by kernel_rfl
abbrev r77_0:LA:=[zA 6 27 [],zi 7 0 []]
abbrev r77_1:LA:=[zm 8 2 [],ze 9 8 0 [0]]
abbrev r77_2:LA:=[zB 10 [] [],zs 5 6 10 [0,0],zi 7 11 [1,0,1]]
abbrev r77_3:LA:=[zm 11 0 [],oo 12 (.bin .eql (.t 11) (.c (.str ⟨#[100,105,118]⟩))) [0]]
abbrev r77_4:LA:=[zm 13 1 [],zm 14 2 [],oo 15 (.bin .quo (.t 13) (.t 14)) [0,1],zk 16 83 15 [2],zx 17 16 0 [3],zx 18 16 1 [3],zs 5 6 17 [4,3,0,1,2,3,4,5],zm 7 18 [5,6,0,1,2,3,4,5,6]]
abbrev r77_5:LA:=[zm 19 1 [],zm 20 2 [],oo 21 (.bin .rem (.t 19) (.t 20)) [0,1],zk 22 83 21 [2],zx 23 22 0 [3],zx 24 22 1 [3],zs 5 6 23 [4,3,0,1,2,3,4,5],zm 7 24 [5,6,0,1,2,3,4,5,6]]
def k77:List (List Nat):=[[0,1,2,6],[0,1,2,6,9],[6,7],[1,2,6,12],[6,7],[6,7]]
def f77:AFunc:=⟨25,[.cell 6 (some 5),.tmp 7],(.seq (.g r77_0 [0,1,2,6]) (.seq (.seq (.g r77_1 [0,1,2,6,9]) (.cond (.t 9) (.seq (.g r77_2 [6,7]) (.ret)) (.skip))) (.seq (.seq (.g r77_3 [1,2,6,12]) (.cond (.t 12) (.seq (.g r77_4 [6,7]) (.ret)) (.skip))) (.seq (.g r77_5 [6,7]) (.ret)))))⟩
theorem c77:cfunc Tryz.prog (kof k77) Tryz.f77=some f77:=by kernel_rfl
abbrev r78_0:LA:=[zA 6 27 [],zi 7 0 []]
abbrev r78_1:LA:=[zm 8 0 []]
abbrev r78_2:LA:=[oo 10 (.bin .eql (.t 8) (.c (.str ⟨#[43]⟩))) [],zm 9 10 [0]]
abbrev r78_3:LA:=[zm 11 1 [],zm 12 2 [],oo 13 (.bin .add (.t 11) (.t 12)) [0,1],zk 14 83 13 [2],zx 15 14 0 [3],zx 16 14 1 [3],zs 5 6 15 [4,3,0,1,2,3,4,5],zm 7 16 [5,6,0,1,2,3,4,5,6]]
abbrev r78_4:LA:=[oo 18 (.bin .eql (.t 8) (.c (.str ⟨#[45]⟩))) [],zm 17 18 [0]]
abbrev r78_5:LA:=[zm 19 1 [],zm 20 2 [],oo 21 (.bin .sub (.t 19) (.t 20)) [0,1],zk 22 83 21 [2],zx 23 22 0 [3],zx 24 22 1 [3],zs 5 6 23 [4,3,0,1,2,3,4,5],zm 7 24 [5,6,0,1,2,3,4,5,6]]
abbrev r78_6:LA:=[zm 25 1 [],zm 26 2 [],zq 27 121 25 26 [0,1],zx 28 27 0 [2],zx 29 27 1 [2],zs 5 6 28 [3,2,0,1,2,3,4],zm 7 29 [4,5,0,1,2,3,4,5]]
def k78:List (List Nat):=[[0,1,2,6],[1,2,6,8],[1,2,6,8,9],[6,7],[1,2,6,17],[6,7],[6,7]]
def f78:AFunc:=⟨30,[.cell 6 (some 5),.tmp 7],(.seq (.g r78_0 [0,1,2,6]) (.seq (.seq (.g r78_1 [1,2,6,8]) (.block 0 (.seq (.g r78_2 [1,2,6,8,9]) (.cond (.t 9) (.seq (.g r78_3 [6,7]) (.ret)) (.seq (.g r78_4 [1,2,6,17]) (.cond (.t 17) (.seq (.g r78_5 [6,7]) (.ret)) (.skip))))))) (.seq (.g r78_6 [6,7]) (.ret))))⟩
theorem c78:cfunc Tryz.prog (kof k78) Tryz.f78=some f78:=by kernel_rfl
abbrev r79_0:LA:=[zA 6 27 [],zi 7 0 []]
abbrev r79_1:LA:=[zm 8 0 []]
abbrev r79_2:LA:=[oo 10 (.bin .eql (.t 8) (.c (.str ⟨#[43]⟩))) [],zm 9 10 [0]]
abbrev r79_3:LA:=[zm 11 1 [],zm 12 2 [],oo 13 (.bin .add (.t 11) (.t 12)) [0,1],zk 14 84 13 [2],zx 15 14 0 [3],zx 16 14 1 [3],zs 5 6 15 [4,3,0,1,2,3,4,5],zm 7 16 [5,6,0,1,2,3,4,5,6]]
abbrev r79_4:LA:=[oo 18 (.bin .eql (.t 8) (.c (.str ⟨#[45]⟩))) [],zm 17 18 [0]]
abbrev r79_5:LA:=[zm 19 1 [],zm 20 2 [],oo 21 (.bin .sub (.t 19) (.t 20)) [0,1],zk 22 84 21 [2],zx 23 22 0 [3],zx 24 22 1 [3],zs 5 6 23 [4,3,0,1,2,3,4,5],zm 7 24 [5,6,0,1,2,3,4,5,6]]
abbrev r79_6:LA:=[oo 26 (.bin .eql (.t 8) (.c (.str ⟨#[42]⟩))) [],zm 25 26 [0]]
abbrev r79_7:LA:=[zm 27 1 [],zm 28 2 [],oo 29 (.bin .mul (.t 27) (.t 28)) [0,1],zk 30 84 29 [2],zx 31 30 0 [3],zx 32 30 1 [3],zs 5 6 31 [4,3,0,1,2,3,4,5],zm 7 32 [5,6,0,1,2,3,4,5,6]]
abbrev r79_8:LA:=[zm 33 2 [],oo 34 (.bin .eql (.t 33) (.c (.flt .f64 0))) [0]]
abbrev r79_9:LA:=[zB 35 [] [],zs 5 6 35 [0,0],zi 7 11 [1,0,1]]
abbrev r79_10:LA:=[zm 36 1 [],zm 37 2 [],oo 38 (.bin .quo (.t 36) (.t 37)) [0,1],zk 39 84 38 [2],zx 40 39 0 [3],zx 41 39 1 [3],zs 5 6 40 [4,3,0,1,2,3,4,5],zm 7 41 [5,6,0,1,2,3,4,5,6]]
def k79:List (List Nat):=[[0,1,2,6],[1,2,6,8],[1,2,6,8,9],[6,7],[1,2,6,8,17],[6,7],[1,2,6,25],[6,7],[1,2,6,34],[6,7],[6,7]]
def f79:AFunc:=⟨42,[.cell 6 (some 5),.tmp 7],(.seq (.g r79_0 [0,1,2,6]) (.seq (.seq (.g r79_1 [1,2,6,8]) (.block 0 (.seq (.g r79_2 [1,2,6,8,9]) (.cond (.t 9) (.seq (.g r79_3 [6,7]) (.ret)) (.seq (.g r79_4 [1,2,6,8,17]) (.cond (.t 17) (.seq (.g r79_5 [6,7]) (.ret)) (.seq (.g r79_6 [1,2,6,25]) (.cond (.t 25) (.seq (.g r79_7 [6,7]) (.ret)) (.skip))))))))) (.seq (.seq (.g r79_8 [1,2,6,34]) (.cond (.t 34) (.seq (.g r79_9 [6,7]) (.ret)) (.skip))) (.seq (.g r79_10 [6,7]) (.ret)))))⟩
theorem c79:cfunc Tryz.prog (kof k79) Tryz.f79=some f79:=by kernel_rfl
abbrev r121_0:LA:=[zA 4 27 [],zi 5 0 []]
abbrev r121_1:LA:=[zm 9 0 [],zk 10 164 9 [0],zm 11 1 [],zk 12 164 11 [2,1],zq 13 163 10 12 [1,3,3],zm 8 13 [4],zx 14 8 0 [5],zx 15 8 1 [5],zm 6 14 [6,4,0,1,2,3,4,5,6],zm 7 15 [7,8,0,1,2,3,4,5,6,7,8]]
abbrev r121_2:LA:=[zm 16 6 [],oo 17 (.bin .gtr (.t 16) (.c (.int .u64 0))) [0],zm 18 17 [1],ym 19 7 18 false [2],og 20 (.bin .gtr (.t 19) (.c (.int .u64 4611686018427387904))) 18 false [3,2],zo 21 18 20 [2,4]]
abbrev r121_3:LA:=[zB 22 [] [],zs 5 4 22 [0,0],zi 5 12 [1,0,1]]
abbrev r121_4:LA:=[zm 23 0 [],oo 24 (.bin .lss (.t 23) (.c (.int .i64 0))) [0],zm 25 1 [],oo 26 (.bin .lss (.t 25) (.c (.int .i64 0))) [2],oo 27 (.eqB true (.t 24) (.t 26)) [1,3]]
abbrev r121_5:LA:=[zm 28 7 [],oo 29 (.conv (.toInt .i64) (.t 28)) [0],oo 30 (.un .neg (.t 29)) [1],zk 31 83 30 [2],zx 32 31 0 [3],zx 33 31 1 [3],zs 5 4 32 [4,3,0,1,2,3,4,5],zm 5 33 [5,6,0,1,2,3,4,5,6]]
abbrev r121_6:LA:=[zm 34 7 [],oo 35 (.conv (.toInt .i64) (.t 34)) [0],zk 36 83 35 [1],zx 37 36 0 [2],zx 38 36 1 [2],zs 5 4 37 [3,2,0,1,2,3,4],zm 5 38 [4,5,0,1,2,3,4,5]]
def k121:List (List Nat):=[[0,1,4],[0,1,4,6,7],[0,1,4,7,21],[4,5],[4,7,27],[4,5],[4,5]]
def f121:AFunc:=⟨39,[.cell 4 (some 5),.tmp 5],(.seq (.g r121_0 [0,1,4]) (.seq (.g r121_1 [0,1,4,6,7]) (.seq (.seq (.g r121_2 [0,1,4,7,21]) (.cond (.t 21) (.seq (.g r121_3 [4,5]) (.ret)) (.skip))) (.seq (.seq (.g r121_4 [4,7,27]) (.cond (.t 27) (.seq (.g r121_5 [4,5]) (.ret)) (.skip))) (.seq (.g r121_6 [4,5]) (.ret))))))⟩
theorem c121:cfunc Tryz.prog (kof k121) Tryz.f121=some f121:=by kernel_rfl
abbrev r163_0:LA:=[oo 4 (.mv (.c (.int .u64 0))) [],oo 5 (.mv (.c (.int .u64 0))) [0]]
abbrev r163_1:LA:=[zm 14 0 [],oo 15 (.bin .and (.t 14) (.c (.int .u64 4294967295))) [0],zm 6 15 [1,0,1]]
abbrev r163_2:LA:=[zm 16 0 [],oo 17 (.bin .shr (.t 16) (.c (.int .u64 32))) [0],zm 7 17 [1,0,1]]
abbrev r163_3:LA:=[zm 18 1 [],oo 19 (.bin .and (.t 18) (.c (.int .u64 4294967295))) [0],zm 8 19 [1,0,1]]
abbrev r163_4:LA:=[zm 20 1 [],oo 21 (.bin .shr (.t 20) (.c (.int .u64 32))) [0],zm 9 21 [1,0,1]]
abbrev r163_5:LA:=[zm 22 6 [],zm 23 8 [],oo 24 (.bin .mul (.t 22) (.t 23)) [0,1],zm 10 24 [2,0,1,2]]
abbrev r163_6:LA:=[zm 25 7 [],zm 26 8 [],oo 27 (.bin .mul (.t 25) (.t 26)) [0,1],zm 28 10 [],oo 29 (.bin .shr (.t 28) (.c (.int .u64 32))) [3],oo 30 (.bin .add (.t 27) (.t 29)) [2,4],zm 11 30 [5,0,1,2,3,4,5]]
abbrev r163_7:LA:=[zm 31 11 [],oo 32 (.bin .and (.t 31) (.c (.int .u64 4294967295))) [0],zm 12 32 [1,0,1]]
abbrev r163_8:LA:=[zm 33 11 [],oo 34 (.bin .shr (.t 33) (.c (.int .u64 32))) [0],zm 13 34 [1,0,1]]
abbrev r163_9:LA:=[zm 35 12 [],zm 36 6 [],zm 37 9 [],oo 38 (.bin .mul (.t 36) (.t 37)) [1,2],oo 39 (.bin .add (.t 35) (.t 38)) [0,3],zm 12 39 [4,0,1,2,3,4]]
abbrev r163_10:LA:=[zm 40 7 [],zm 41 9 [],oo 42 (.bin .mul (.t 40) (.t 41)) [0,1],zm 43 13 [],oo 44 (.bin .add (.t 42) (.t 43)) [2,3],zm 45 12 [],oo 46 (.bin .shr (.t 45) (.c (.int .u64 32))) [5],oo 47 (.bin .add (.t 44) (.t 46)) [4,6],zm 4 47 [7,0,1,2,3,4,5,6,7]]
abbrev r163_11:LA:=[zm 48 0 [],zm 49 1 [],oo 50 (.bin .mul (.t 48) (.t 49)) [0,1],zm 5 50 [2,0,1,2]]
def k163:List (List Nat):=[[0,1],[0,1,6],[0,1,6,7],[0,1,6,7,8],[0,1,6,7,8,9],[0,1,6,7,8,9,10],[0,1,6,7,9,11],[0,1,6,7,9,11,12],[0,1,6,7,9,12,13],[0,1,7,9,12,13],[0,1,4],[4,5]]
def f163:AFunc:=⟨51,[.tmp 4,.tmp 5],(.seq (.g r163_0 [0,1]) (.seq (.g r163_1 [0,1,6]) (.seq (.g r163_2 [0,1,6,7]) (.seq (.g r163_3 [0,1,6,7,8]) (.seq (.g r163_4 [0,1,6,7,8,9]) (.seq (.g r163_5 [0,1,6,7,8,9,10]) (.seq (.g r163_6 [0,1,6,7,9,11]) (.seq (.g r163_7 [0,1,6,7,9,11,12]) (.seq (.g r163_8 [0,1,6,7,9,12,13]) (.seq (.g r163_9 [0,1,7,9,12,13]) (.seq (.g r163_10 [0,1,4]) (.seq (.g r163_11 [4,5]) (.ret)))))))))))))⟩
theorem c163:cfunc Tryz.prog (kof k163) Tryz.f163=some f163:=by kernel_rfl
abbrev r164_0:LA:=[oo 2 (.mv (.c (.int .u64 0))) []]
abbrev r164_1:LA:=[zm 3 0 [],oo 4 (.bin .lss (.t 3) (.c (.int .i64 0))) [0]]
abbrev r164_2:LA:=[zm 5 0 [],oo 6 (.un .neg (.t 5)) [0],oo 7 (.conv (.toInt .u64) (.t 6)) [1],zm 2 7 [2,0,1,2]]
abbrev r164_3:LA:=[zm 8 0 [],oo 9 (.conv (.toInt .u64) (.t 8)) [0],zm 2 9 [1,0,1]]
def k164:List (List Nat):=[[0],[0,4],[2],[2]]
def f164:AFunc:=⟨10,[.tmp 2],(.seq (.g r164_0 [0]) (.seq (.seq (.g r164_1 [0,4]) (.cond (.t 4) (.seq (.g r164_2 [2]) (.ret)) (.skip))) (.seq (.g r164_3 [2]) (.ret))))⟩
theorem c164:cfunc Tryz.prog (kof k164) Tryz.f164=some f164:=by kernel_rfl
abbrev r37_0:LA:=[zA 3 27 []]
abbrev r37_1:LA:=[zl 4 1 [],zm 5 0 [],zn 6 5 [1],zf 7 0 6 [2],zl 8 7 [3],oo 9 (.iaddr 5 (.t 8) (.c (.int .i64 0))) [4],zr 10 5 9 [5],zm 11 0 [],zn 12 11 [7],zf 13 0 12 [8],zl 14 13 [9],oo 15 (.iaddr 5 (.t 14) (.c (.int .i64 1))) [10],zr 16 5 15 [11],oo 17 (.callF 39 [(.t 4),(.t 10),(.t 16)]) [0,6,12],zx 18 17 0 [13],zx 19 17 1 [13],zq 20 38 18 19 [14,15,13],zs 5 3 20 [16,16,0,1,2,3,4,5,6,7,8,9,10,11,12,13,14,15,16]]
def m37_1:List Nat:=[0,0,2,6,14,30,62,0,128,384,896,1920,3968,8191,16383,16383,65535,131071]
theorem d37_1:okDraw r37_1 m37_1=true:=by kernel_rfl
def k37:List (List Nat):=[[0,1,3],[3]]
def f37:AFunc:=⟨21,[.cell 3 (some 5)],(.seq (.g r37_0 [0,1,3]) (.seq (.region true r37_1 [3]) (.ret)))⟩
theorem c37:cfunc Tryz.prog (kof k37) Tryz.f37=some f37:=by kernel_rfl
abbrev r47_0:LA:=[zA 2 27 []]
abbrev r47_1:LA:=[zm 3 0 [],zn 4 3 [0],zf 5 0 4 [1],zl 6 5 [2],oo 7 (.iaddr 5 (.t 6) (.c (.int .i64 0))) [3],zr 8 5 7 [4],zk 9 48 8 [5],zx 10 9 0 [6],zx 11 9 1 [6],zq 12 38 10 11 [7,8,6],zs 5 2 12 [9,9,0,1,2,3,4,5,6,7,8,9]]
def k47:List (List Nat):=[[0,2],[2]]
def f47:AFunc:=⟨13,[.cell 2 (some 5)],(.seq (.g r47_0 [0,2]) (.seq (.g r47_1 [2]) (.ret)))⟩
theorem c47:cfunc Tryz.prog (kof k47) Tryz.f47=some f47:=by kernel_rfl
abbrev r15_0:LA:=[oo 2 (.mv (.c (.nilf))) []]
abbrev r15_1:LA:=[zm 3 0 []]
abbrev r15_2:LA:=[oo 5 (.bin .eql (.t 3) (.c (.str ⟨#[45]⟩))) [],zm 4 5 [0]]
abbrev r15_3:LA:=[oo 2 (.mv (.c (.fn (.func 47) [] []))) []]
abbrev r15_4:LA:=[oo 7 (.bin .eql (.t 3) (.c (.str ⟨#[110,111,116]⟩))) [],zm 6 7 [0]]
abbrev r15_5:LA:=[oo 2 (.mv (.c (.fn (.func 49) [] []))) []]
abbrev r15_6:LA:=[oo 2 (.mv (.c (.nilf))) []]
def k15:List (List Nat):=[[0],[3],[3,4],[2],[6],[2],[2]]
def f15:AFunc:=⟨8,[.tmp 2],(.seq (.g r15_0 [0]) (.seq (.seq (.g r15_1 [3]) (.block 0 (.seq (.g r15_2 [3,4]) (.cond (.t 4) (.seq (.g r15_3 [2]) (.ret)) (.seq (.g r15_4 [6]) (.cond (.t 6) (.seq (.g r15_5 [2]) (.ret)) (.skip))))))) (.seq (.g r15_6 [2]) (.ret))))⟩
theorem c15:cfunc Tryz.prog (kof k15) Tryz.f15=some f15:=by kernel_rfl
end Go.Am.Rl
