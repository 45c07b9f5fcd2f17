/- The functions, in the abstract machine's form (written by gen.py). -/
import Derived.Test.YtmoimchdhgoeeaaDoorFn
import Derived.Test.YtmoimchdhgoeeaaDoorProg
set_option linter.unusedVariables false
namespace Go.Am.Rl
open Go.Proofs
set_option maxRecDepth 20000
abbrev r46_0:LA:=[oo 3 (.box 44 (.t 0)) [],zi 6 0 []]
abbrev r46_1:LA:=[zm 10 1 [],oo 11 (.bin .lss (.t 10) (.c (.int .i64 1))) [0],zm 12 11 [1],og 13 (.load (some 5) (.t 3)) 12 false [2],og 14 (.callF 61 [(.t 13)]) 12 false [3,2,2],ym 15 2 12 false [2],og 16 (.bin .gtr (.t 14) (.t 15)) 12 false [4,5,2],zo 17 12 16 [2,6]]
abbrev r46_2:LA:=[oo 6 (.mv (.c (.int .i64 (-1)))) []]
abbrev r46_3:LA:=[zr 18 5 3 [],zk 19 61 18 [0],zm 7 19 [1,1,0,1]]
abbrev r46_4:LA:=[zi 8 0 []]
abbrev r46_5:LA:=[zm 20 8 [],zf 21 4 3 [],zl 22 21 [1],zL 23 1 22 [2],oo 24 (.bin .lss (.t 20) (.t 23)) [0,3]]
abbrev r46_7:LA:=[zf 27 4 3 [],zl 28 27 [0],zm 29 8 [],zd 30 5 28 29 [1,2],zr 31 5 30 [3],zm 32 1 [],oo 33 (.bin .sub (.t 32) (.c (.int .i64 1))) [5],zm 34 2 [],zm 35 7 [],oo 36 (.bin .sub (.t 34) (.t 35)) [7,8],oo 37 (.callF 46 [(.t 31),(.t 33),(.t 36)]) [4,6,9],zm 9 37 [10,10,0,1,2,3,4,5,6,7,8,9,10]]
abbrev r46_8:LA:=[zm 38 9 [],oo 39 (.bin .lss (.t 38) (.c (.int .i64 0))) [0]]
abbrev r46_9:LA:=[oo 6 (.mv (.c (.int .i64 (-1)))) []]
abbrev r46_10:LA:=[zm 40 7 [],zm 41 9 [],oo 42 (.bin .add (.t 40) (.t 41)) [0,1],zm 7 42 [2,0,1,2]]
abbrev r46_6:LA:=[zm 25 8 [],za 26 25 1 [0],zm 8 26 [1,0,1]]
def l46_0:ACode:=.seq (.seq (.g r46_5 [1,2,3,7,8,24]) (.cond (.t 24) (.skip) (.exit 0))) (.seq (.block 1 (.seq (.g r46_7 [1,2,3,7,8,9]) (.seq (.seq (.g r46_8 [1,2,3,7,8,9,39]) (.cond (.t 39) (.seq (.g r46_9 [6]) (.ret)) (.skip))) (.g r46_10 [1,2,3,7,8])))) (.g r46_6 [1,2,3,7,8]))
abbrev r46_11:LA:=[zm 43 7 [],zm 6 43 [0,0]]
def k46:List (List Nat):=[[1,2,3],[1,2,3,17],[6],[1,2,3,7],[1,2,3,7,8],[1,2,3,7,8,24],[1,2,3,7,8],[1,2,3,7,8,9],[1,2,3,7,8,9,39],[6],[1,2,3,7,8],[6]]
def f46:AFunc:=⟨44,[.tmp 6],(.seq (.g r46_0 [1,2,3]) (.seq (.seq (.g r46_1 [1,2,3,17]) (.cond (.t 17) (.seq (.g r46_2 [6]) (.ret)) (.skip))) (.seq (.g r46_3 [1,2,3,7]) (.seq (.seq (.g r46_4 [1,2,3,7,8]) (.block 0 (.loop l46_0))) (.seq (.g r46_11 [6]) (.ret))))))⟩
theorem c46:cfunc Tryd.prog (kof k46) Tryd.f46=some f46:=by kernel_rfl
abbrev r47_0:LA:=[oo 1 (.box 44 (.t 0)) [],oo 2 (.mv (.c (.bool false))) []]
abbrev r47_1:LA:=[zr 4 5 1 [],zk 5 62 4 [0],oo 6 (.un .not (.t 5)) [1]]
abbrev r47_2:LA:=[oo 2 (.mv (.c (.bool false))) []]
abbrev r47_3:LA:=[zi 3 0 []]
abbrev r47_4:LA:=[zm 7 3 [],zf 8 4 1 [],zl 9 8 [1],zL 10 1 9 [2],oo 11 (.bin .lss (.t 7) (.t 10)) [0,3]]
abbrev r47_6:LA:=[zf 14 4 1 [],zl 15 14 [0],zm 16 3 [],zd 17 5 15 16 [1,2],zr 18 5 17 [3],zk 19 47 18 [4],oo 20 (.un .not (.t 19)) [5]]
abbrev r47_7:LA:=[oo 2 (.mv (.c (.bool false))) []]
abbrev r47_5:LA:=[zm 12 3 [],za 13 12 1 [0],zm 3 13 [1,0,1]]
def l47_0:ACode:=.seq (.seq (.g r47_4 [1,3,11]) (.cond (.t 11) (.skip) (.exit 0))) (.seq (.block 1 (.seq (.g r47_6 [1,3,20]) (.cond (.t 20) (.seq (.g r47_7 [2]) (.ret)) (.skip)))) (.g r47_5 [1,3]))
abbrev r47_8:LA:=[oo 2 (.mv (.c (.bool true))) []]
def k47:List (List Nat):=[[1],[1,6],[2],[1,3],[1,3,11],[1,3],[1,3,20],[2],[2]]
def f47:AFunc:=⟨21,[.tmp 2],(.seq (.g r47_0 [1]) (.seq (.seq (.g r47_1 [1,6]) (.cond (.t 6) (.seq (.g r47_2 [2]) (.ret)) (.skip))) (.seq (.seq (.g r47_3 [1,3]) (.block 0 (.loop l47_0))) (.seq (.g r47_8 [2]) (.ret)))))⟩
theorem c47:cfunc Tryd.prog (kof k47) Tryd.f47=some f47:=by kernel_rfl
abbrev r48_0:LA:=[oo 2 (.mv (.c (.str ⟨#[]⟩))) []]
abbrev r48_1:LA:=[oo 3 (.mv (.c (.nils))) []]
abbrev r48_2:LA:=[zi 4 0 []]
abbrev r48_3:LA:=[zm 6 4 [],oo 7 (.bin .lss (.t 6) (.c (.int .i64 16))) [0]]
abbrev r48_5:LA:=[zm 10 0 [],zm 11 4 [],oo 12 (.bin .mul (.c (.int .i64 4)) (.t 11)) [1],oo 13 (.bin .sub (.c (.int .i64 60)) (.t 12)) [2],oo 14 (.conv (.toInt .u64) (.t 13)) [3],oo 15 (.bin .shr (.t 10) (.t 14)) [0,4],oo 16 (.bin .and (.t 15) (.c (.int .u64 15))) [5],oo 17 (.conv (.toInt .u8) (.t 16)) [6],zm 5 17 [7,0,1,2,3,4,5,6,7]]
abbrev r48_6:LA:=[zm 18 5 [],oo 19 (.bin .lss (.t 18) (.c (.int .u8 10))) [0]]
abbrev r48_7:LA:=[zm 20 3 [],zm 21 5 [],oo 22 (.bin .add (.c (.int .u8 48)) (.t 21)) [1],oo 23 (.bslice 5 1 [.int .u8 0] [(0,1,(.t 22))]) [2],oo 24 (.app 5 1 1 (.t 20) (.t 23)) [0,3],zm 3 24 [4,4,0,1,2,3,4]]
abbrev r48_8:LA:=[zm 25 3 [],zm 26 5 [],oo 27 (.bin .add (.c (.int .u8 97)) (.t 26)) [1],oo 28 (.bin .sub (.t 27) (.c (.int .u8 10))) [2],oo 29 (.bslice 5 1 [.int .u8 0] [(0,1,(.t 28))]) [3],oo 30 (.app 5 1 1 (.t 25) (.t 29)) [0,4],zm 3 30 [5,5,0,1,2,3,4,5]]
abbrev r48_4:LA:=[zm 8 4 [],za 9 8 1 [0],zm 4 9 [1,0,1]]
def l48_0:ACode:=.seq (.seq (.g r48_3 [0,3,4,7]) (.cond (.t 7) (.skip) (.exit 0))) (.seq (.block 1 (.seq (.g r48_5 [0,3,4,5]) (.seq (.g r48_6 [0,3,4,5,19]) (.cond (.t 19) (.g r48_7 [0,3,4]) (.g r48_8 [0,3,4]))))) (.g r48_4 [0,3,4]))
abbrev r48_9:LA:=[zm 31 3 [],oo 32 (.conv .bytesStr (.t 31)) [0],zm 2 32 [1,0,1]]
def k48:List (List Nat):=[[0],[0,3],[0,3,4],[0,3,4,7],[0,3,4],[0,3,4,5],[0,3,4,5,19],[0,3,4],[0,3,4],[2]]
def f48:AFunc:=⟨33,[.tmp 2],(.seq (.g r48_0 [0]) (.seq (.g r48_1 [0,3]) (.seq (.seq (.g r48_2 [0,3,4]) (.block 0 (.loop l48_0))) (.seq (.g r48_9 [2]) (.ret)))))⟩
theorem c48:cfunc Tryd.prog (kof k48) Tryd.f48=some f48:=by kernel_rfl
abbrev r49_0:LA:=[oo 2 (.mv (.c (.bool false))) []]
abbrev r49_1:LA:=[zm 4 0 [],oo 5 (.bin .eql (.t 4) (.c (.str ⟨#[]⟩))) [0],zm 6 5 [1],ym 7 0 6 false [2],og 8 (.idxS (.t 7) (.c (.int .i64 0))) 6 false [3,2],og 9 (.bin .lss (.t 8) (.c (.int .u8 97))) 6 false [4,2],zo 10 6 9 [2,5],zm 11 10 [6,2],ym 12 0 11 false [7],og 13 (.idxS (.t 12) (.c (.int .i64 0))) 11 false [8,7],og 14 (.bin .gtr (.t 13) (.c (.int .u8 122))) 11 false [9,7],zo 15 11 14 [7,10],zm 16 15 [11,7],ym 17 0 16 false [12],og 18 (.callF 26 [(.t 17)]) 16 false [13,12,12],zo 19 16 18 [12,14]]
abbrev r49_2:LA:=[oo 2 (.mv (.c (.bool false))) []]
abbrev r49_3:LA:=[zi 3 0 []]
abbrev r49_4:LA:=[zm 20 3 [],zm 21 0 [],zL 22 0 21 [1],oo 23 (.bin .lss (.t 20) (.t 22)) [0,2]]
abbrev r49_6:LA:=[zm 26 0 [],zm 27 3 [],oo 28 (.idxS (.t 26) (.t 27)) [0,1],zk 29 57 28 [2],oo 30 (.un .not (.t 29)) [3]]
abbrev r49_7:LA:=[oo 2 (.mv (.c (.bool false))) []]
abbrev r49_5:LA:=[zm 24 3 [],za 25 24 1 [0],zm 3 25 [1,0,1]]
def l49_0:ACode:=.seq (.seq (.g r49_4 [0,3,23]) (.cond (.t 23) (.skip) (.exit 0))) (.seq (.block 1 (.seq (.g r49_6 [0,3,30]) (.cond (.t 30) (.seq (.g r49_7 [2]) (.ret)) (.skip)))) (.g r49_5 [0,3]))
abbrev r49_8:LA:=[oo 2 (.mv (.c (.bool true))) []]
def k49:List (List Nat):=[[0],[0,19],[2],[0,3],[0,3,23],[0,3],[0,3,30],[2],[2]]
def f49:AFunc:=⟨31,[.tmp 2],(.seq (.g r49_0 [0]) (.seq (.seq (.g r49_1 [0,19]) (.cond (.t 19) (.seq (.g r49_2 [2]) (.ret)) (.skip))) (.seq (.seq (.g r49_3 [0,3]) (.block 0 (.loop l49_0))) (.seq (.g r49_8 [2]) (.ret)))))⟩
theorem c49:cfunc Tryd.prog (kof k49) Tryd.f49=some f49:=by kernel_rfl
abbrev r50_0:LA:=[oo 2 (.mv (.c (.str ⟨#[]⟩))) []]
abbrev r50_1:LA:=[zm 3 0 [],oo 4 (.bin .lss (.t 3) (.c (.int .u8 10))) [0]]
abbrev r50_2:LA:=[zm 5 0 [],oo 6 (.bin .add (.c (.int .u8 48)) (.t 5)) [0],oo 7 (.bslice 5 1 [.int .u8 0] [(0,1,(.t 6))]) [1],oo 8 (.conv .bytesStr (.t 7)) [2],zm 2 8 [3,0,1,2,3]]
abbrev r50_3:LA:=[zm 9 0 [],oo 10 (.bin .add (.c (.int .u8 97)) (.t 9)) [0],oo 11 (.bin .sub (.t 10) (.c (.int .u8 10))) [1],oo 12 (.bslice 5 1 [.int .u8 0] [(0,1,(.t 11))]) [2],oo 13 (.conv .bytesStr (.t 12)) [3],zm 2 13 [4,0,1,2,3,4]]
def k50:List (List Nat):=[[0],[0,4],[2],[2]]
def f50:AFunc:=⟨14,[.tmp 2],(.seq (.g r50_0 [0]) (.seq (.seq (.g r50_1 [0,4]) (.cond (.t 4) (.seq (.g r50_2 [2]) (.ret)) (.skip))) (.seq (.g r50_3 [2]) (.ret))))⟩
theorem c50:cfunc Tryd.prog (kof k50) Tryd.f50=some f50:=by kernel_rfl
abbrev r52_0:LA:=[zi 2 0 []]
abbrev r52_1:LA:=[zm 3 0 [],oo 4 (.callF 63 [(.c (.str ⟨#[48,49,50,51,52,53,54,55,56,57,97,98,99,100,101,102]⟩)),(.t 3)]) [0],zm 2 4 [1,1,0,1]]
def k52:List (List Nat):=[[0],[2]]
def f52:AFunc:=⟨5,[.tmp 2],(.seq (.g r52_0 [0]) (.seq (.g r52_1 [2]) (.ret)))⟩
theorem c52:cfunc Tryd.prog (kof k52) Tryd.f52=some f52:=by kernel_rfl
abbrev r53_0:LA:=[zA 2 44 [],zi 3 0 []]
abbrev r53_1:LA:=[zm 4 0 [],oo 5 (.ext 1 [(.t 4)]) [0],zk 6 64 5 [1,1],zx 7 6 0 [2],zx 8 6 1 [2],zs 5 2 7 [3,2,0,1,2,3,4],zm 3 8 [4,5,0,1,2,3,4,5]]
def k53:List (List Nat):=[[0,2],[2,3]]
def f53:AFunc:=⟨9,[.cell 2 (some 5),.tmp 3],(.seq (.g r53_0 [0,2]) (.seq (.g r53_1 [2,3]) (.ret)))⟩
theorem c53:cfunc Tryd.prog (kof k53) Tryd.f53=some f53:=by kernel_rfl
abbrev r54_0:LA:=[oo 2 (.mv (.c (.int .u8 0))) [],zi 3 0 [0]]
abbrev r54_1:LA:=[zm 5 0 [],zL 6 0 5 [0],oo 7 (.bin .lss (.t 6) (.c (.int .i64 2))) [1]]
abbrev r54_2:LA:=[oo 2 (.mv (.c (.int .u8 0))) [],zi 3 0 [0,0]]
abbrev r54_3:LA:=[zm 8 0 [],oo 9 (.idxS (.t 8) (.c (.int .i64 1))) [0],zm 4 9 [1,0,1]]
abbrev r54_4:LA:=[zm 10 4 []]
abbrev r54_5:LA:=[oo 12 (.bin .eql (.t 10) (.c (.int .u8 92))) [],zm 11 12 [0]]
abbrev r54_6:LA:=[oo 13 (.bin .eql (.t 10) (.c (.int .u8 39))) [],zm 11 13 [0]]
abbrev r54_7:LA:=[oo 14 (.bin .eql (.t 10) (.c (.int .u8 34))) [],zm 11 14 [0]]
abbrev r54_8:LA:=[zm 15 4 [],zm 2 15 [0,0],zi 3 2 [1,0,1]]
abbrev r54_9:LA:=[oo 17 (.bin .eql (.t 10) (.c (.int .u8 110))) [],zm 16 17 [0]]
abbrev r54_10:LA:=[oo 2 (.mv (.c (.int .u8 10))) [],zi 3 2 [0,0]]
abbrev r54_11:LA:=[oo 19 (.bin .eql (.t 10) (.c (.int .u8 116))) [],zm 18 19 [0]]
abbrev r54_12:LA:=[oo 2 (.mv (.c (.int .u8 9))) [],zi 3 2 [0,0]]
abbrev r54_13:LA:=[oo 21 (.bin .eql (.t 10) (.c (.int .u8 120))) [],zm 20 21 [0]]
abbrev r54_14:LA:=[zm 22 0 [],zL 23 0 22 [0],oo 24 (.bin .gtr (.t 23) (.c (.int .i64 3))) [1],zm 25 24 [2],ym 26 0 25 true [3],og 27 (.idxS (.t 26) (.c (.int .i64 2))) 25 true [4,3],og 28 (.callF 52 [(.t 27)]) 25 true [5,3,3],og 29 (.bin .geq (.t 28) (.c (.int .i64 0))) 25 true [6,3],zp 30 25 29 [3,7],zm 31 30 [8,6],ym 32 0 31 true [9],og 33 (.idxS (.t 32) (.c (.int .i64 3))) 31 true [10,9],og 34 (.callF 52 [(.t 33)]) 31 true [11,9,9],og 35 (.bin .geq (.t 34) (.c (.int .i64 0))) 31 true [12,9],zp 36 31 35 [9,13]]
abbrev r54_15:LA:=[zm 37 0 [],oo 38 (.idxS (.t 37) (.c (.int .i64 2))) [0],zk 39 52 38 [1],oo 40 (.bin .mul (.c (.int .i64 16)) (.t 39)) [2],zm 41 0 [],oo 42 (.idxS (.t 41) (.c (.int .i64 3))) [4],zk 43 52 42 [5,2],oo 44 (.bin .add (.t 40) (.t 43)) [3,6],oo 45 (.conv (.toInt .u8) (.t 44)) [7],zm 2 45 [8,6,0,1,2,3,4,5,6,7,8],zi 3 4 [9,0,1,2,3,4,5,6,7,8,9]]
abbrev r54_16:LA:=[oo 2 (.mv (.c (.int .u8 0))) [],zi 3 0 [0,0]]
def m54_15:List Nat:=[0,1,3,7,0,16,55,127,255,511,1023]
theorem d54_15:okDraw r54_15 m54_15=true:=by kernel_rfl
def k54:List (List Nat):=[[0],[0,7],[2,3],[0,4],[0,4,10],[0,4,10,11],[0,4,10,11],[0,4,10,11],[2,3],[0,10,16],[2,3],[0,10,18],[2,3],[0,20],[0,36],[2,3],[2,3]]
def f54:AFunc:=⟨46,[.tmp 2,.tmp 3],(.seq (.g r54_0 [0]) (.seq (.seq (.g r54_1 [0,7]) (.cond (.t 7) (.seq (.g r54_2 [2,3]) (.ret)) (.skip))) (.seq (.seq (.g r54_3 [0,4]) (.seq (.g r54_4 [0,4,10]) (.block 0 (.seq (.seq (.g r54_5 [0,4,10,11]) (.cond (.t 11) (.skip) (.seq (.g r54_6 [0,4,10,11]) (.cond (.t 11) (.skip) (.g r54_7 [0,4,10,11]))))) (.cond (.t 11) (.seq (.g r54_8 [2,3]) (.ret)) (.seq (.g r54_9 [0,10,16]) (.cond (.t 16) (.seq (.g r54_10 [2,3]) (.ret)) (.seq (.g r54_11 [0,10,18]) (.cond (.t 18) (.seq (.g r54_12 [2,3]) (.ret)) (.seq (.g r54_13 [0,20]) (.cond (.t 20) (.seq (.g r54_14 [0,36]) (.cond (.t 36) (.seq (.region true r54_15 [2,3]) (.ret)) (.skip))) (.skip)))))))))))) (.seq (.g r54_16 [2,3]) (.ret)))))⟩
theorem c54:cfunc Tryd.prog (kof k54) Tryd.f54=some f54:=by kernel_rfl
abbrev r55_0:LA:=[oo 2 (.mv (.c (.nils))) []]
abbrev r55_1:LA:=[zi 3 0 []]
abbrev r55_2:LA:=[zi 4 1 []]
abbrev r55_3:LA:=[oo 5 (.mv (.c (.int .u8 0))) []]
abbrev r55_4:LA:=[zi 6 0 []]
abbrev r55_5:LA:=[zm 13 6 [],zm 14 0 [],zL 15 0 14 [1],oo 16 (.bin .lss (.t 13) (.t 15)) [0,2]]
abbrev r55_7:LA:=[zm 19 0 [],zm 20 6 [],oo 21 (.idxS (.t 19) (.t 20)) [0,1],zm 7 21 [2,0,1,2]]
abbrev r55_8:LA:=[zm 22 5 [],zm 23 7 [],oo 24 (.bin .or (.t 22) (.t 23)) [0,1],zm 5 24 [2,0,1,2]]
abbrev r55_9:LA:=[zm 25 7 [],oo 26 (.iaddrA 256 1 (gl 1) (.t 25)) [0],zl 27 26 [1],oo 28 (.conv (.toInt .i64) (.t 27)) [2],zm 8 28 [3,0,1,2,3]]
abbrev r55_10:LA:=[zm 29 3 [],zm 30 4 [],zm 31 8 [],oo 32 (.un .xor (.t 31)) [2],oo 33 (.bin .and (.t 30) (.t 32)) [1,3],oo 34 (.bin .add (.t 29) (.t 33)) [0,4],zm 3 34 [5,0,1,2,3,4,5]]
abbrev r55_11:LA:=[zm 35 8 [],zm 4 35 [0,0]]
abbrev r55_6:LA:=[zm 17 6 [],za 18 17 1 [0],zm 6 18 [1,0,1]]
def l55_0:ACode:=.seq (.seq (.g r55_5 [0,3,4,5,6,16]) (.cond (.t 16) (.skip) (.exit 0))) (.seq (.block 1 (.seq (.g r55_7 [0,3,4,5,6,7]) (.seq (.g r55_8 [0,3,4,5,6,7]) (.seq (.g r55_9 [0,3,4,5,6,8]) (.seq (.g r55_10 [0,3,5,6,8]) (.g r55_11 [0,3,4,5,6])))))) (.g r55_6 [0,3,4,5,6]))
abbrev r55_12:LA:=[zm 36 5 [],oo 37 (.bin .geq (.t 36) (.c (.int .u8 128))) [0]]
abbrev r55_13:LA:=[zm 38 0 [],oo 39 (.callF 65 [(.t 38),(.c (.fn (.func 66) [] []))]) [0],zm 2 39 [1,1,0,1]]
abbrev r55_14:LA:=[zm 40 3 [],oo 41 (.mkslice 9 [.str ⟨#[]⟩] 16 (.t 40) (.t 40)) [0,0],zm 9 41 [1,0,1]]
abbrev r55_15:LA:=[zi 10 0 []]
abbrev r55_16:LA:=[zi 11 0 []]
abbrev r55_17:LA:=[zi 12 0 []]
abbrev r55_18:LA:=[zm 42 12 [],zm 43 0 [],zL 44 0 43 [1],oo 45 (.bin .lss (.t 42) (.t 44)) [0,2],zm 46 45 [3],ym 47 0 46 true [4],ym 48 12 46 true [4],og 49 (.idxS (.t 47) (.t 48)) 46 true [5,6,4],og 50 (.iaddrA 256 1 (gl 1) (.t 49)) 46 true [7,4],yl 51 50 46 true [8,4],og 52 (.bin .neq (.t 51) (.c (.int .u8 0))) 46 true [9,4],zp 53 46 52 [4,10]]
abbrev r55_19:LA:=[zm 54 12 [],za 55 54 1 [0],zm 12 55 [1,0,1]]
def l55_1:ACode:=.seq (.seq (.g r55_18 [0,9,10,12,53]) (.cond (.t 53) (.skip) (.exit 2))) (.block 3 (.g r55_19 [0,9,10,12]))
abbrev r55_20:LA:=[zm 56 12 [],zm 11 56 [0,0]]
abbrev r55_21:LA:=[zm 57 12 [],zm 58 0 [],zL 59 0 58 [1],oo 60 (.bin .lss (.t 57) (.t 59)) [0,2]]
abbrev r55_22:LA:=[zm 61 0 [],zm 62 12 [],oo 63 (.idxS (.t 61) (.t 62)) [0,1],oo 64 (.iaddrA 256 1 (gl 1) (.t 63)) [2],zl 65 64 [3],oo 66 (.bin .eql (.t 65) (.c (.int .u8 0))) [4]]
abbrev r55_23:LA:=[zm 67 12 [],za 68 67 1 [0],zm 12 68 [1,0,1]]
abbrev r55_24:LA:=[zm 69 9 [],zm 70 10 [],zm 71 0 [],zm 72 11 [],zm 73 12 [],oo 74 (.slcS (.t 71) (some (.t 72)) (some (.t 73))) [2,3,4],zd 75 1 69 70 [0,1,0,1,2,3,4,5],zs 1 75 74 [6,5,0,1,2,3,4,5]]
abbrev r55_25:LA:=[zm 76 10 [],za 77 76 1 [0],zm 10 77 [1,0,1]]
abbrev r55_26:LA:=[zm 78 12 [],za 79 78 1 [0],zm 12 79 [1,0,1]]
abbrev r55_27:LA:=[zm 80 12 [],zm 81 0 [],zL 82 0 81 [1],oo 83 (.bin .lss (.t 80) (.t 82)) [0,2],zm 84 83 [3],ym 85 0 84 true [4],ym 86 12 84 true [4],og 87 (.idxS (.t 85) (.t 86)) 84 true [5,6,4],og 88 (.iaddrA 256 1 (gl 1) (.t 87)) 84 true [7,4],yl 89 88 84 true [8,4],og 90 (.bin .neq (.t 89) (.c (.int .u8 0))) 84 true [9,4],zp 91 84 90 [4,10]]
abbrev r55_28:LA:=[zm 92 12 [],za 93 92 1 [0],zm 12 93 [1,0,1]]
def l55_2:ACode:=.seq (.seq (.g r55_27 [0,9,10,12,91]) (.cond (.t 91) (.skip) (.exit 6))) (.block 7 (.g r55_28 [0,9,10,12]))
abbrev r55_29:LA:=[zm 94 12 [],zm 11 94 [0,0]]
def l55_3:ACode:=.seq (.seq (.g r55_21 [0,9,10,11,12,60]) (.cond (.t 60) (.skip) (.exit 4))) (.block 5 (.seq (.seq (.g r55_22 [0,9,10,11,12,66]) (.cond (.t 66) (.seq (.g r55_23 [0,9,10,11,12]) (.exit 5)) (.skip))) (.seq (.g r55_24 [0,9,10,12]) (.seq (.g r55_25 [0,9,10,12]) (.seq (.g r55_26 [0,9,10,12]) (.seq (.block 6 (.loop l55_2)) (.g r55_29 [0,9,10,11,12])))))))
abbrev r55_30:LA:=[zm 95 11 [],zm 96 0 [],zL 97 0 96 [1],oo 98 (.bin .lss (.t 95) (.t 97)) [0,2]]
abbrev r55_31:LA:=[zm 99 9 [],zm 100 10 [],zm 101 0 [],zm 102 11 [],oo 103 (.slcS (.t 101) (some (.t 102)) none) [2,3],zd 104 1 99 100 [0,1,0,1,2,3,4],zs 1 104 103 [5,4,0,1,2,3,4]]
abbrev r55_32:LA:=[zm 105 9 [],zm 2 105 [0,0]]
def k55:List (List Nat):=[[0],[0,3],[0,3,4],[0,3,4,5],[0,3,4,5,6],[0,3,4,5,6,16],[0,3,4,5,6],[0,3,4,5,6,7],[0,3,4,5,6,7],[0,3,4,5,6,8],[0,3,5,6,8],[0,3,4,5,6],[0,3,37],[2],[0,9],[0,9,10],[0,9,10],[0,9,10,12],[0,9,10,12,53],[0,9,10,12],[0,9,10,11,12],[0,9,10,11,12,60],[0,9,10,11,12,66],[0,9,10,11,12],[0,9,10,12],[0,9,10,12],[0,9,10,12],[0,9,10,12,91],[0,9,10,12],[0,9,10,11,12],[0,9,10,11,98],[9],[2]]
def f55:AFunc:=⟨106,[.tmp 2],(.seq (.g r55_0 [0]) (.seq (.g r55_1 [0,3]) (.seq (.g r55_2 [0,3,4]) (.seq (.g r55_3 [0,3,4,5]) (.seq (.seq (.g r55_4 [0,3,4,5,6]) (.block 0 (.loop l55_0))) (.seq (.seq (.g r55_12 [0,3,37]) (.cond (.t 37) (.seq (.g r55_13 [2]) (.ret)) (.skip))) (.seq (.g r55_14 [0,9]) (.seq (.g r55_15 [0,9,10]) (.seq (.g r55_16 [0,9,10]) (.seq (.g r55_17 [0,9,10,12]) (.seq (.block 2 (.loop l55_1)) (.seq (.g r55_20 [0,9,10,11,12]) (.seq (.block 4 (.loop l55_3)) (.seq (.seq (.g r55_30 [0,9,10,11,98]) (.cond (.t 98) (.g r55_31 [9]) (.skip))) (.seq (.g r55_32 [2]) (.ret))))))))))))))))⟩
theorem c55:cfunc Tryd.prog (kof k55) Tryd.f55=some f55:=by kernel_rfl
abbrev r56_0:LA:=[oo 4 (.mv (.c (.bool false))) []]
abbrev r56_1:LA:=[zm 5 0 [],zm 6 1 [],zq 7 67 5 6 [0,1],zm 4 7 [2,2,0,1,2]]
def k56:List (List Nat):=[[0,1],[4]]
def f56:AFunc:=⟨8,[.tmp 4],(.seq (.g r56_0 [0,1]) (.seq (.g r56_1 [4]) (.ret)))⟩
theorem c56:cfunc Tryd.prog (kof k56) Tryd.f56=some f56:=by kernel_rfl
abbrev r57_0:LA:=[oo 2 (.mv (.c (.bool false))) []]
abbrev r57_1:LA:=[zm 3 0 [],oo 4 (.bin .geq (.t 3) (.c (.int .u8 97))) [0],zm 5 4 [1],ym 6 0 5 true [2],og 7 (.bin .leq (.t 6) (.c (.int .u8 122))) 5 true [3,2],zp 8 5 7 [2,4],zm 9 8 [5,2],ym 10 0 9 false [6],og 11 (.bin .geq (.t 10) (.c (.int .u8 65))) 9 false [7,6],ym 12 11 9 false [8,6,6],ym 13 0 12 true [9],og 14 (.bin .leq (.t 13) (.c (.int .u8 90))) 12 true [10,9],og 15 (.pick (.t 12) (.t 14) (.c (.bool false))) 9 false [9,11,6],zo 16 9 15 [6,12],zm 17 16 [13,9],ym 18 0 17 false [14],og 19 (.bin .geq (.t 18) (.c (.int .u8 48))) 17 false [15,14],ym 20 19 17 false [16,14,14],ym 21 0 20 true [17],og 22 (.bin .leq (.t 21) (.c (.int .u8 57))) 20 true [18,17],og 23 (.pick (.t 20) (.t 22) (.c (.bool false))) 17 false [17,19,14],zo 24 17 23 [14,20],zm 25 24 [21,17],ym 26 0 25 false [22],og 27 (.bin .eql (.t 26) (.c (.int .u8 95))) 25 false [23,22],zo 28 25 27 [22,24],zm 29 28 [25,22],ym 30 0 29 false [26],og 31 (.bin .eql (.t 30) (.c (.int .u8 64))) 29 false [27,26],zo 32 29 31 [26,28],zm 2 32 [29,26,0,1,2,3,4,5,6,7,8,9,10,11,12,13,14,15,16,17,18,19,20,21,22,23,24,25,26,27,28,29]]
def k57:List (List Nat):=[[0],[2]]
def f57:AFunc:=⟨33,[.tmp 2],(.seq (.g r57_0 [0]) (.seq (.g r57_1 [2]) (.ret)))⟩
theorem c57:cfunc Tryd.prog (kof k57) Tryd.f57=some f57:=by kernel_rfl
abbrev r58_0:LA:=[zi 2 0 []]
abbrev r58_1:LA:=[zi 3 0 []]
abbrev r58_2:LA:=[zi 4 0 []]
abbrev r58_3:LA:=[zm 5 4 [],zm 6 0 [],zL 7 0 6 [1],oo 8 (.bin .lss (.t 5) (.t 7)) [0,2]]
abbrev r58_5:LA:=[zm 11 3 [],oo 12 (.bin .mul (.c (.int .i64 10)) (.t 11)) [0],zm 13 0 [],zm 14 4 [],oo 15 (.idxS (.t 13) (.t 14)) [2,3],oo 16 (.bin .sub (.t 15) (.c (.int .u8 48))) [4],oo 17 (.conv (.toInt .i64) (.t 16)) [5],oo 18 (.bin .add (.t 12) (.t 17)) [1,6],zm 3 18 [7,0,1,2,3,4,5,6,7]]
abbrev r58_4:LA:=[zm 9 4 [],za 10 9 1 [0],zm 4 10 [1,0,1]]
def l58_0:ACode:=.seq (.seq (.g r58_3 [0,3,4,8]) (.cond (.t 8) (.skip) (.exit 0))) (.seq (.block 1 (.g r58_5 [0,3,4])) (.g r58_4 [0,3,4]))
abbrev r58_6:LA:=[zm 19 3 [],zm 2 19 [0,0]]
def k58:List (List Nat):=[[0],[0,3],[0,3,4],[0,3,4,8],[0,3,4],[0,3,4],[2]]
def f58:AFunc:=⟨20,[.tmp 2],(.seq (.g r58_0 [0]) (.seq (.g r58_1 [0,3]) (.seq (.seq (.g r58_2 [0,3,4]) (.block 0 (.loop l58_0))) (.seq (.g r58_6 [2]) (.ret)))))⟩
theorem c58:cfunc Tryd.prog (kof k58) Tryd.f58=some f58:=by kernel_rfl
abbrev r59_0:LA:=[zi 2 0 []]
abbrev r59_1:LA:=[zm 3 0 [],zk 4 41 3 [0]]
abbrev r59_2:LA:=[zm 5 0 [],oo 6 (.bin .sub (.t 5) (.c (.int .u8 48))) [0],oo 7 (.conv (.toInt .i64) (.t 6)) [1],zm 2 7 [2,0,1,2]]
abbrev r59_3:LA:=[zm 8 0 [],oo 9 (.bin .geq (.t 8) (.c (.int .u8 97))) [0],zm 10 9 [1],ym 11 0 10 true [2],og 12 (.bin .leq (.t 11) (.c (.int .u8 102))) 10 true [3,2],zp 13 10 12 [2,4]]
abbrev r59_4:LA:=[zm 14 0 [],oo 15 (.bin .sub (.t 14) (.c (.int .u8 97))) [0],oo 16 (.conv (.toInt .i64) (.t 15)) [1],za 17 16 10 [2],zm 2 17 [3,0,1,2,3]]
abbrev r59_5:LA:=[oo 2 (.mv (.c (.int .i64 (-1)))) []]
def k59:List (List Nat):=[[0],[0,4],[2],[0,13],[2],[2]]
def f59:AFunc:=⟨18,[.tmp 2],(.seq (.g r59_0 [0]) (.seq (.seq (.g r59_1 [0,4]) (.cond (.t 4) (.seq (.g r59_2 [2]) (.ret)) (.skip))) (.seq (.seq (.g r59_3 [0,13]) (.cond (.t 13) (.seq (.g r59_4 [2]) (.ret)) (.skip))) (.seq (.g r59_5 [2]) (.ret)))))⟩
theorem c59:cfunc Tryd.prog (kof k59) Tryd.f59=some f59:=by kernel_rfl
abbrev r60_0:LA:=[oo 2 (.mv (.c (.bool false))) []]
abbrev r60_1:LA:=[zm 3 0 [],zm 4 0 [],oo 5 (.bin .sub (.t 3) (.t 4)) [0,1],oo 6 (.bin .eql (.t 5) (.c (.flt .f64 0))) [2],zm 2 6 [3,0,1,2,3]]
def k60:List (List Nat):=[[0],[2]]
def f60:AFunc:=⟨7,[.tmp 2],(.seq (.g r60_0 [0]) (.seq (.g r60_1 [2]) (.ret)))⟩
theorem c60:cfunc Tryd.prog (kof k60) Tryd.f60=some f60:=by kernel_rfl
abbrev r61_0:LA:=[oo 1 (.box 44 (.t 0)) [],zi 2 0 []]
abbrev r61_1:LA:=[zf 3 0 1 [],zl 4 3 [0]]
abbrev r61_2:LA:=[ze 6 4 1 [],zm 5 6 [0]]
abbrev r61_3:LA:=[ze 7 4 3 [],zm 5 7 [0]]
abbrev r61_4:LA:=[ze 8 4 6 [],zm 5 8 [0]]
abbrev r61_5:LA:=[zi 2 0 []]
abbrev r61_6:LA:=[ze 10 4 2 [],zm 9 10 [0]]
abbrev r61_7:LA:=[ze 11 4 4 [],zm 9 11 [0]]
abbrev r61_8:LA:=[zi 2 2 []]
abbrev r61_9:LA:=[ze 13 4 8 [],zm 12 13 [0]]
abbrev r61_10:LA:=[zf 14 4 1 [],zl 15 14 [0],zL 16 1 15 [1],oo 17 (.bin .mul (.c (.int .i64 2)) (.t 16)) [2],zm 2 17 [3,0,1,2,3]]
abbrev r61_11:LA:=[ze 19 4 5 [],zm 18 19 [0]]
abbrev r61_12:LA:=[zf 20 4 1 [],zl 21 20 [0],zL 22 1 21 [1],oo 23 (.bin .add (.c (.int .i64 2)) (.t 22)) [2],zm 2 23 [3,0,1,2,3]]
abbrev r61_13:LA:=[zf 24 4 1 [],zl 25 24 [0],zL 26 1 25 [1],oo 27 (.bin .add (.c (.int .i64 1)) (.t 26)) [2],zm 2 27 [3,0,1,2,3]]
def k61:List (List Nat):=[[1],[1,4],[1,4,5],[1,4,5],[1,4,5],[2],[1,4,9],[1,4,9],[2],[1,4,12],[2],[1,18],[2],[2]]
def f61:AFunc:=⟨28,[.tmp 2],(.seq (.g r61_0 [1]) (.seq (.seq (.g r61_1 [1,4]) (.block 0 (.seq (.seq (.g r61_2 [1,4,5]) (.cond (.t 5) (.skip) (.seq (.g r61_3 [1,4,5]) (.cond (.t 5) (.skip) (.g r61_4 [1,4,5]))))) (.cond (.t 5) (.seq (.g r61_5 [2]) (.ret)) (.seq (.seq (.g r61_6 [1,4,9]) (.cond (.t 9) (.skip) (.g r61_7 [1,4,9]))) (.cond (.t 9) (.seq (.g r61_8 [2]) (.ret)) (.seq (.g r61_9 [1,4,12]) (.cond (.t 12) (.seq (.g r61_10 [2]) (.ret)) (.seq (.g r61_11 [1,18]) (.cond (.t 18) (.seq (.g r61_12 [2]) (.ret)) (.skip))))))))))) (.seq (.g r61_13 [2]) (.ret))))⟩
theorem c61:cfunc Tryd.prog (kof k61) Tryd.f61=some f61:=by kernel_rfl
abbrev r62_0:LA:=[oo 1 (.box 44 (.t 0)) [],oo 2 (.mv (.c (.bool false))) []]
abbrev r62_1:LA:=[zf 3 0 1 [],zl 4 3 [0]]
abbrev r62_2:LA:=[ze 6 4 1 [],zm 5 6 [0]]
abbrev r62_3:LA:=[ze 7 4 2 [],zm 5 7 [0]]
abbrev r62_4:LA:=[zr 8 5 1 [],zk 9 68 8 [0],zm 2 9 [1,1,0,1]]
abbrev r62_5:LA:=[ze 11 4 3 [],zm 10 11 [0]]
abbrev r62_6:LA:=[zf 12 3 1 [],zl 13 12 [0],zL 14 0 13 [1],oo 15 (.bin .leq (.t 14) (.c (.int .i64 64))) [2],zm 16 15 [3],yf 17 1 1 16 true [4],yl 18 17 16 true [5,4],og 19 (.bin .eql (.t 18) (.c (.int .i64 0))) 16 true [6,4],zp 20 16 19 [4,7],zm 21 20 [8,4],yf 22 2 1 21 true [9],yl 23 22 21 true [10,9],og 24 (.callF 69 [(.t 23)]) 21 true [11,9,9],zp 25 21 24 [9,12],zm 26 25 [13,12],yf 27 4 1 26 true [14],yl 28 27 26 true [15,14],og 29 (.len 1 (.t 28)) 26 true [16,14],og 30 (.bin .eql (.t 29) (.c (.int .i64 0))) 26 true [17,14],zp 31 26 30 [14,18],zm 2 31 [19,14,0,1,2,3,4,5,6,7,8,9,10,11,12,13,14,15,16,17,18,19]]
abbrev r62_7:LA:=[ze 33 4 4 [],zm 32 33 [0]]
abbrev r62_8:LA:=[ze 34 4 6 [],zm 32 34 [0]]
abbrev r62_9:LA:=[zf 35 1 1 [],zl 36 35 [0],oo 37 (.bin .geq (.t 36) (.c (.int .i64 0))) [1],zm 38 37 [2],yf 39 1 1 38 true [3],yl 40 39 38 true [4,3],og 41 (.bin .leq (.t 40) (.c (.int .i64 1099511627776))) 38 true [5,3],zp 42 38 41 [3,6],zm 43 42 [7,3],yf 44 3 1 43 true [8],yl 45 44 43 true [9,8],og 46 (.bin .eql (.t 45) (.c (.str ⟨#[]⟩))) 43 true [10,8],zp 47 43 46 [8,11],zm 48 47 [12,8],yf 49 2 1 48 true [13],yl 50 49 48 true [14,13],og 51 (.callF 69 [(.t 50)]) 48 true [15,13,13],zp 52 48 51 [13,16],zm 53 52 [17,16],yf 54 4 1 53 true [18],yl 55 54 53 true [19,18],og 56 (.len 1 (.t 55)) 53 true [20,18],og 57 (.bin .eql (.t 56) (.c (.int .i64 0))) 53 true [21,18],zp 58 53 57 [18,22],zm 2 58 [23,18,0,1,2,3,4,5,6,7,8,9,10,11,12,13,14,15,16,17,18,19,20,21,22,23]]
abbrev r62_10:LA:=[ze 60 4 5 [],zm 59 60 [0]]
abbrev r62_11:LA:=[zf 61 1 1 [],zl 62 61 [0],oo 63 (.bin .geq (.t 62) (.c (.int .i64 0))) [1],zm 64 63 [2],yf 65 1 1 64 true [3],yl 66 65 64 true [4,3],og 67 (.bin .leq (.t 66) (.c (.int .i64 16384))) 64 true [5,3],zp 68 64 67 [3,6],zm 69 68 [7,3],yf 70 3 1 69 true [8],yl 71 70 69 true [9,8],og 72 (.bin .eql (.t 71) (.c (.str ⟨#[]⟩))) 69 true [10,8],zp 73 69 72 [8,11],zm 74 73 [12,8],yf 75 2 1 74 true [13],yl 76 75 74 true [14,13],og 77 (.callF 69 [(.t 76)]) 74 true [15,13,13],zp 78 74 77 [13,16],zm 2 78 [17,16,0,1,2,3,4,5,6,7,8,9,10,11,12,13,14,15,16,17]]
abbrev r62_12:LA:=[ze 80 4 7 [],zm 79 80 [0]]
abbrev r62_13:LA:=[ze 81 4 8 [],zm 79 81 [0]]
abbrev r62_14:LA:=[zf 82 1 1 [],zl 83 82 [0],ze 84 83 0 [1],zm 85 84 [2],yf 86 3 1 85 true [3],yl 87 86 85 true [4,3],og 88 (.bin .eql (.t 87) (.c (.str ⟨#[]⟩))) 85 true [5,3],zp 89 85 88 [3,6],zm 90 89 [7,3],yf 91 2 1 90 true [8],yl 92 91 90 true [9,8],og 93 (.callF 69 [(.t 92)]) 90 true [10,8,8],zp 94 90 93 [8,11],zm 2 94 [12,11,0,1,2,3,4,5,6,7,8,9,10,11,12]]
abbrev r62_15:LA:=[oo 2 (.mv (.c (.bool false))) []]
def k62:List (List Nat):=[[1],[1,4],[1,4,5],[1,4,5],[2],[1,4,10],[2],[1,4,32],[1,4,32],[2],[1,4,59],[2],[1,4,79],[1,79],[2],[2]]
def f62:AFunc:=⟨95,[.tmp 2],(.seq (.g r62_0 [1]) (.seq (.seq (.g r62_1 [1,4]) (.block 0 (.seq (.seq (.g r62_2 [1,4,5]) (.cond (.t 5) (.skip) (.g r62_3 [1,4,5]))) (.cond (.t 5) (.seq (.g r62_4 [2]) (.ret)) (.seq (.g r62_5 [1,4,10]) (.cond (.t 10) (.seq (.g r62_6 [2]) (.ret)) (.seq (.seq (.g r62_7 [1,4,32]) (.cond (.t 32) (.skip) (.g r62_8 [1,4,32]))) (.cond (.t 32) (.seq (.g r62_9 [2]) (.ret)) (.seq (.g r62_10 [1,4,59]) (.cond (.t 59) (.seq (.g r62_11 [2]) (.ret)) (.seq (.seq (.g r62_12 [1,4,79]) (.cond (.t 79) (.skip) (.g r62_13 [1,79]))) (.cond (.t 79) (.seq (.g r62_14 [2]) (.ret)) (.skip))))))))))))) (.seq (.g r62_15 [2]) (.ret))))⟩
theorem c62:cfunc Tryd.prog (kof k62) Tryd.f62=some f62:=by kernel_rfl
abbrev r63_0:LA:=[zi 4 0 []]
abbrev r63_1:LA:=[zm 5 0 [],zm 6 1 [],zq 7 70 5 6 [0,1],zm 4 7 [2,2,0,1,2]]
def k63:List (List Nat):=[[0,1],[4]]
def f63:AFunc:=⟨8,[.tmp 4],(.seq (.g r63_0 [0,1]) (.seq (.g r63_1 [4]) (.ret)))⟩
theorem c63:cfunc Tryd.prog (kof k63) Tryd.f63=some f63:=by kernel_rfl
abbrev r64_0:LA:=[zA 2 44 [],zi 3 0 []]
abbrev r64_1:LA:=[zm 4 0 [],zk 5 71 4 [0],zm 6 5 [1,1],ym 7 0 6 false [2],og 8 (.callF 72 [(.t 7),(.c (.int .i64 0))]) 6 false [3,2,2],zo 9 6 8 [2,4]]
abbrev r64_2:LA:=[zB 10 [] [],zs 5 2 10 [0,0],zi 3 11 [1,0,1]]
abbrev r64_3:LA:=[zm 11 0 [],zB 12 [(0,1,(.c (.int .i64 2))),(2,1,(.t 11))] [0],zs 5 2 12 [1,0,1],zi 3 0 [2,0,1,2]]
def k64:List (List Nat):=[[0,2],[0,2,9],[2,3],[2,3]]
def f64:AFunc:=⟨13,[.cell 2 (some 5),.tmp 3],(.seq (.g r64_0 [0,2]) (.seq (.seq (.g r64_1 [0,2,9]) (.cond (.t 9) (.seq (.g r64_2 [2,3]) (.ret)) (.skip))) (.seq (.g r64_3 [2,3]) (.ret))))⟩
theorem c64:cfunc Tryd.prog (kof k64) Tryd.f64=some f64:=by kernel_rfl
abbrev r65_0:LA:=[oo 4 (.mv (.c (.nils))) []]
abbrev r65_1:LA:=[oo 12 (.mkslice 88 [.int .i64 0,.int .i64 0] 16 (.c (.int .i64 0)) (.c (.int .i64 32))) [],zm 5 12 [0,0]]
abbrev r65_2:LA:=[oo 6 (.mv (.c (.int .i64 (-1)))) []]
abbrev r65_3:LA:=[zm 13 0 [],oo 14 (.rngS (.t 13)) [0]]
abbrev r65_4:LA:=[oo 15 (.nxtS (.t 14)) [],zx 16 15 0 [0]]
abbrev r65_5:LA:=[zx 17 15 1 [],zx 18 15 2 [],zm 7 17 [0,0],zm 8 18 [1,2,0,1,2]]
abbrev r65_6:LA:=[zm 19 1 [],zm 20 8 [],oo 21 (.callV (.t 19) [(.t 20)]) [0,1]]
abbrev r65_7:LA:=[zm 22 6 [],oo 23 (.bin .geq (.t 22) (.c (.int .i64 0))) [0]]
abbrev r65_8:LA:=[zm 24 5 [],zm 25 6 [],zm 26 7 [],oo 27 (.build [.int .i64 0,.int .i64 0] [(0,1,(.t 25)),(1,1,(.t 26))]) [1,2],oo 28 (.bslice 88 1 [.int .i64 0,.int .i64 0] [(0,2,(.t 27))]) [3],oo 29 (.app 88 2 16 (.t 24) (.t 28)) [0,4],zm 5 29 [5,5,0,1,2,3,4,5]]
abbrev r65_9:LA:=[zm 30 6 [],oo 31 (.un .xor (.t 30)) [0],zm 6 31 [1,0,1]]
abbrev r65_10:LA:=[zm 32 6 [],oo 33 (.bin .lss (.t 32) (.c (.int .i64 0))) [0]]
abbrev r65_11:LA:=[zm 34 7 [],zm 6 34 [0,0]]
def l65_0:ACode:=.seq (.g r65_4 [0,1,5,6,14,15,16]) (.seq (.cond (.t 16) (.skip) (.exit 0)) (.block 1 (.seq (.g r65_5 [0,1,5,6,7,8,14]) (.seq (.g r65_6 [0,1,5,6,7,14,21]) (.cond (.t 21) (.seq (.g r65_7 [0,1,5,6,7,14,23]) (.cond (.t 23) (.seq (.g r65_8 [0,1,5,6,14]) (.g r65_9 [0,1,5,6,14])) (.skip))) (.seq (.g r65_10 [0,1,5,6,7,14,33]) (.cond (.t 33) (.g r65_11 [0,1,5,6,14]) (.skip))))))))
abbrev r65_12:LA:=[zm 35 6 [],oo 36 (.bin .geq (.t 35) (.c (.int .i64 0))) [0]]
abbrev r65_13:LA:=[zm 37 5 [],zm 38 6 [],zm 39 0 [],zL 40 0 39 [2],oo 41 (.build [.int .i64 0,.int .i64 0] [(0,1,(.t 38)),(1,1,(.t 40))]) [1,3],oo 42 (.bslice 88 1 [.int .i64 0,.int .i64 0] [(0,2,(.t 41))]) [4],oo 43 (.app 88 2 16 (.t 37) (.t 42)) [0,5],zm 5 43 [6,6,0,1,2,3,4,5,6]]
abbrev r65_14:LA:=[zm 44 5 [],zL 45 1 44 [0],oo 46 (.mkslice 9 [.str ⟨#[]⟩] 16 (.t 45) (.t 45)) [1,1],zm 9 46 [2,0,1,2]]
abbrev r65_15:LA:=[zm 47 5 [],zL 48 1 47 [0],zi 49 0 []]
abbrev r65_16:LA:=[oo 50 (.bin .lss (.t 49) (.t 48)) []]
abbrev r65_17:LA:=[zm 51 49 [],zd 52 2 47 49 [],zr 53 2 52 [1],oo 11 (.alloc 88 (.agg [.int .i64 0,.int .i64 0])) [],zm 10 51 [0,0,1,2,3],zs 2 11 53 [3,2,4,0,1,2,3,4]]
abbrev r65_18:LA:=[zm 54 9 [],zm 55 10 [],zm 56 0 [],zf 57 0 11 [],zl 58 57 [3],zf 59 1 11 [],zl 60 59 [5],oo 61 (.slcS (.t 56) (some (.t 58)) (some (.t 60))) [2,4,6],zd 62 1 54 55 [0,1,0,1,2,3,4,5,6,7],zs 1 62 61 [8,7,0,1,2,3,4,5,6,7]]
abbrev r65_19:LA:=[za 63 49 1 [],zm 49 63 [0]]
def l65_1:ACode:=.seq (.g r65_16 [0,9,47,48,49,50]) (.seq (.cond (.t 50) (.skip) (.exit 2)) (.seq (.block 3 (.seq (.g r65_17 [0,9,10,11,47,48,49]) (.g r65_18 [0,9,47,48,49]))) (.g r65_19 [0,9,47,48,49])))
abbrev r65_20:LA:=[zm 64 9 [],zm 4 64 [0,0]]
def k65:List (List Nat):=[[0,1],[0,1,5],[0,1,5,6],[0,1,5,6,14],[0,1,5,6,14,15,16],[0,1,5,6,7,8,14],[0,1,5,6,7,14,21],[0,1,5,6,7,14,23],[0,1,5,6,14],[0,1,5,6,14],[0,1,5,6,7,14,33],[0,1,5,6,14],[0,5,6,36],[0,5],[0,5,9],[0,9,47,48,49],[0,9,47,48,49,50],[0,9,10,11,47,48,49],[0,9,47,48,49],[0,9,47,48,49],[4]]
def f65:AFunc:=⟨65,[.tmp 4],(.seq (.g r65_0 [0,1]) (.seq (.g r65_1 [0,1,5]) (.seq (.g r65_2 [0,1,5,6]) (.seq (.seq (.g r65_3 [0,1,5,6,14]) (.block 0 (.loop l65_0))) (.seq (.seq (.g r65_12 [0,5,6,36]) (.cond (.t 36) (.g r65_13 [0,5]) (.skip))) (.seq (.g r65_14 [0,5,9]) (.seq (.seq (.g r65_15 [0,9,47,48,49]) (.block 2 (.loop l65_1))) (.seq (.g r65_20 [4]) (.ret)))))))))⟩
theorem c65:cfunc Tryd.prog (kof k65) Tryd.f65=some f65:=by kernel_rfl
abbrev r66_0:LA:=[oo 2 (.mv (.c (.bool false))) []]
abbrev r66_1:LA:=[zm 3 0 [],oo 4 (.conv (.toInt .u32) (.t 3)) [0],oo 5 (.bin .leq (.t 4) (.c (.int .u32 255))) [1]]
abbrev r66_2:LA:=[zm 6 0 []]
abbrev r66_3:LA:=[oo 8 (.bin .eql (.t 6) (.c (.int .i32 9))) [],zm 7 8 [0]]
abbrev r66_4:LA:=[oo 9 (.bin .eql (.t 6) (.c (.int .i32 10))) [],zm 7 9 [0]]
abbrev r66_5:LA:=[oo 10 (.bin .eql (.t 6) (.c (.int .i32 11))) [],zm 7 10 [0]]
abbrev r66_6:LA:=[oo 11 (.bin .eql (.t 6) (.c (.int .i32 12))) [],zm 7 11 [0]]
abbrev r66_7:LA:=[oo 12 (.bin .eql (.t 6) (.c (.int .i32 13))) [],zm 7 12 [0]]
abbrev r66_8:LA:=[oo 13 (.bin .eql (.t 6) (.c (.int .i32 32))) [],zm 7 13 [0]]
abbrev r66_9:LA:=[oo 14 (.bin .eql (.t 6) (.c (.int .i32 133))) [],zm 7 14 [0]]
abbrev r66_10:LA:=[oo 15 (.bin .eql (.t 6) (.c (.int .i32 160))) [],zm 7 15 [0]]
abbrev r66_11:LA:=[oo 2 (.mv (.c (.bool true))) []]
abbrev r66_12:LA:=[oo 2 (.mv (.c (.bool false))) []]
abbrev r66_13:LA:=[oo 16 (.load none (gl 2)) [],zm 17 0 [],zq 18 73 16 17 [0,1],zm 2 18 [2,2,0,1,2]]
def k66:List (List Nat):=[[0],[0,5],[6],[6,7],[6,7],[6,7],[6,7],[6,7],[6,7],[6,7],[7],[2],[2],[2]]
def f66:AFunc:=⟨19,[.tmp 2],(.seq (.g r66_0 [0]) (.seq (.seq (.g r66_1 [0,5]) (.cond (.t 5) (.seq (.seq (.g r66_2 [6]) (.block 0 (.seq (.seq (.g r66_3 [6,7]) (.cond (.t 7) (.skip) (.seq (.g r66_4 [6,7]) (.cond (.t 7) (.skip) (.seq (.g r66_5 [6,7]) (.cond (.t 7) (.skip) (.seq (.g r66_6 [6,7]) (.cond (.t 7) (.skip) (.seq (.g r66_7 [6,7]) (.cond (.t 7) (.skip) (.seq (.g r66_8 [6,7]) (.cond (.t 7) (.skip) (.seq (.g r66_9 [6,7]) (.cond (.t 7) (.skip) (.g r66_10 [7]))))))))))))))) (.cond (.t 7) (.seq (.g r66_11 [2]) (.ret)) (.skip))))) (.seq (.g r66_12 [2]) (.ret))) (.skip))) (.seq (.g r66_13 [2]) (.ret))))⟩
theorem c66:cfunc Tryd.prog (kof k66) Tryd.f66=some f66:=by kernel_rfl
abbrev r67_0:LA:=[oo 4 (.mv (.c (.bool false))) []]
abbrev r67_1:LA:=[zm 5 0 [],zL 6 0 5 [0],zm 7 1 [],zL 8 0 7 [2],oo 9 (.bin .geq (.t 6) (.t 8)) [1,3],zm 10 9 [4],ym 11 0 10 true [5],ym 12 1 10 true [5],og 13 (.len 0 (.t 12)) 10 true [7,5],og 14 (.slcS (.t 11) none (some (.t 13))) 10 true [6,8,5],ym 15 1 10 true [5],og 16 (.bin .eql (.t 14) (.t 15)) 10 true [9,10,5],zp 17 10 16 [5,11],zm 4 17 [12,5,0,1,2,3,4,5,6,7,8,9,10,11,12]]
def k67:List (List Nat):=[[0,1],[4]]
def f67:AFunc:=⟨18,[.tmp 4],(.seq (.g r67_0 [0,1]) (.seq (.g r67_1 [4]) (.ret)))⟩
theorem c67:cfunc Tryd.prog (kof k67) Tryd.f67=some f67:=by kernel_rfl
abbrev r68_0:LA:=[oo 1 (.box 44 (.t 0)) [],oo 2 (.mv (.c (.bool false))) []]
abbrev r68_1:LA:=[zf 3 3 1 [],zl 4 3 [0],oo 5 (.bin .neq (.t 4) (.c (.str ⟨#[]⟩))) [1],zm 6 5 [2],yf 7 4 1 6 false [3],yl 8 7 6 false [4,3],og 9 (.len 1 (.t 8)) 6 false [5,3],og 10 (.bin .neq (.t 9) (.c (.int .i64 0))) 6 false [6,3],zo 11 6 10 [3,7]]
abbrev r68_2:LA:=[oo 2 (.mv (.c (.bool false))) []]
abbrev r68_3:LA:=[zf 12 0 1 [],zl 13 12 [0],ze 14 13 1 [1]]
abbrev r68_4:LA:=[zf 15 1 1 [],zl 16 15 [0],oo 17 (.bin .geq (.t 16) (.c (.int .i64 (-576460752303423488)))) [1],zm 18 17 [2],yf 19 1 1 18 true [3],yl 20 19 18 true [4,3],og 21 (.bin .leq (.t 20) (.c (.int .i64 576460752303423487))) 18 true [5,3],zp 22 18 21 [3,6],zm 23 22 [7,3],yf 24 2 1 23 true [8],yl 25 24 23 true [9,8],og 26 (.callF 69 [(.t 25)]) 23 true [10,8,8],zp 27 23 26 [8,11],zm 2 27 [12,11,0,1,2,3,4,5,6,7,8,9,10,11,12]]
abbrev r68_5:LA:=[zf 28 0 1 [],zl 29 28 [0],ze 30 29 2 [1],zm 31 30 [2],yf 32 1 1 31 true [3],yl 33 32 31 true [4,3],og 34 (.bin .eql (.t 33) (.c (.int .i64 0))) 31 true [5,3],zp 35 31 34 [3,6],zm 36 35 [7,3],yf 37 2 1 36 true [8],yl 38 37 36 true [9,8],og 39 (.callF 60 [(.t 38)]) 36 true [10,8,8],zp 40 36 39 [8,11],zm 2 40 [12,11,0,1,2,3,4,5,6,7,8,9,10,11,12]]
def k68:List (List Nat):=[[1],[1,11],[2],[1,14],[2],[2]]
def f68:AFunc:=⟨41,[.tmp 2],(.seq (.g r68_0 [1]) (.seq (.seq (.g r68_1 [1,11]) (.cond (.t 11) (.seq (.g r68_2 [2]) (.ret)) (.skip))) (.seq (.seq (.g r68_3 [1,14]) (.cond (.t 14) (.seq (.g r68_4 [2]) (.ret)) (.skip))) (.seq (.g r68_5 [2]) (.ret)))))⟩
theorem c68:cfunc Tryd.prog (kof k68) Tryd.f68=some f68:=by kernel_rfl
abbrev r69_0:LA:=[oo 2 (.mv (.c (.bool false))) []]
abbrev r69_1:LA:=[zm 3 0 [],oo 4 (.ext 0 [(.t 3)]) [0],oo 5 (.bin .eql (.t 4) (.c (.int .u64 0))) [1],zm 2 5 [2,1,0,1,2]]
def k69:List (List Nat):=[[0],[2]]
def f69:AFunc:=⟨6,[.tmp 2],(.seq (.g r69_0 [0]) (.seq (.g r69_1 [2]) (.ret)))⟩
theorem c69:cfunc Tryd.prog (kof k69) Tryd.f69=some f69:=by kernel_rfl
abbrev r70_0:LA:=[zi 4 0 []]
abbrev r70_1:LA:=[zm 5 0 [],zm 6 1 [],oo 7 (.ext 2 [(.t 5),(.t 6)]) [0,1],zm 4 7 [2,2,0,1,2]]
def k70:List (List Nat):=[[0,1],[4]]
def f70:AFunc:=⟨8,[.tmp 4],(.seq (.g r70_0 [0,1]) (.seq (.g r70_1 [4]) (.ret)))⟩
theorem c70:cfunc Tryd.prog (kof k70) Tryd.f70=some f70:=by kernel_rfl
abbrev r71_0:LA:=[oo 2 (.mv (.c (.bool false))) []]
abbrev r71_1:LA:=[zm 3 0 [],zm 4 0 [],oo 5 (.bin .neq (.t 3) (.t 4)) [0,1],zm 2 5 [2,0,1,2]]
def k71:List (List Nat):=[[0],[2]]
def f71:AFunc:=⟨6,[.tmp 2],(.seq (.g r71_0 [0]) (.seq (.g r71_1 [2]) (.ret)))⟩
theorem c71:cfunc Tryd.prog (kof k71) Tryd.f71=some f71:=by kernel_rfl
abbrev r72_0:LA:=[oo 4 (.mv (.c (.bool false))) []]
abbrev r72_1:LA:=[zm 5 1 [],ze 6 5 0 [0]]
abbrev r72_2:LA:=[zm 7 0 [],zk 8 75 7 [0],zm 0 8 [1,1,0,1]]
abbrev r72_3:LA:=[zm 9 1 [],oo 10 (.bin .lss (.t 9) (.c (.int .i64 0))) [0]]
abbrev r72_4:LA:=[zm 11 0 [],oo 12 (.un .neg (.t 11)) [0],zm 0 12 [1,0,1]]
abbrev r72_5:LA:=[zm 13 0 [],oo 14 (.bin .gtr (.t 13) (.c (.flt .f64 9218868437227405311))) [0],zm 4 14 [1,0,1]]
def k72:List (List Nat):=[[0,1],[0,1,6],[0],[0,10],[0],[4]]
def f72:AFunc:=⟨15,[.tmp 4],(.seq (.g r72_0 [0,1]) (.seq (.seq (.g r72_1 [0,1,6]) (.cond (.t 6) (.g r72_2 [0]) (.seq (.g r72_3 [0,10]) (.cond (.t 10) (.g r72_4 [0]) (.skip))))) (.seq (.g r72_5 [4]) (.ret))))⟩
theorem c72:cfunc Tryd.prog (kof k72) Tryd.f72=some f72:=by kernel_rfl
abbrev r73_0:LA:=[oo 4 (.mv (.c (.bool false))) []]
abbrev r73_1:LA:=[zm 8 0 [],zn 9 8 [0],zf 10 0 9 [1],zl 11 10 [2],zm 5 11 [3,0,1,2,3]]
abbrev r73_2:LA:=[zm 12 0 [],zn 13 12 [0],zf 14 2 13 [1],zl 15 14 [2],zm 6 15 [3,0,1,2,3]]
abbrev r73_3:LA:=[zm 16 5 [],zL 17 1 16 [0],zm 18 6 [],oo 19 (.bin .gtr (.t 17) (.t 18)) [1,2],zm 20 19 [3],ym 21 1 20 true [4],og 22 (.conv (.toInt .u32) (.t 21)) 20 true [5,4],ym 23 5 20 true [4],ym 24 5 20 true [4],og 25 (.len 1 (.t 24)) 20 true [8,4],og 26 (.bin .sub (.t 25) (.c (.int .i64 1))) 20 true [9,4],og 27 (.iaddr 3 (.t 23) (.t 26)) 20 true [7,10,4],yf 28 1 27 20 true [11,4],yl 29 28 20 true [12,4],og 30 (.conv (.toInt .u32) (.t 29)) 20 true [13,4],og 31 (.bin .leq (.t 22) (.t 30)) 20 true [6,14,4],zp 32 20 31 [4,15]]
abbrev r73_4:LA:=[zm 33 5 [],zm 34 6 [],oo 35 (.slc 99 3 (.t 33) (some (.t 34)) none none) [0,1],zm 36 1 [],oo 37 (.conv (.toInt .u16) (.t 36)) [3],zq 38 76 35 37 [2,4],zm 4 38 [5,5,0,1,2,3,4,5]]
abbrev r73_5:LA:=[zm 39 0 [],zn 40 39 [0],zf 41 1 40 [1],zl 42 41 [2],zm 7 42 [3,0,1,2,3]]
abbrev r73_6:LA:=[zm 43 7 [],zL 44 1 43 [0],oo 45 (.bin .gtr (.t 44) (.c (.int .i64 0))) [1],zm 46 45 [2],ym 47 1 46 true [3],ym 48 7 46 true [3],og 49 (.iaddr 3 (.t 48) (.c (.int .i64 0))) 46 true [5,3],yf 50 0 49 46 true [6,3],yl 51 50 46 true [7,3],og 52 (.conv (.toInt .i32) (.t 51)) 46 true [8,3],og 53 (.bin .geq (.t 47) (.t 52)) 46 true [4,9,3],zp 54 46 53 [3,10]]
abbrev r73_7:LA:=[zm 55 7 [],zm 56 1 [],oo 57 (.conv (.toInt .u32) (.t 56)) [1],zq 58 77 55 57 [0,2],zm 4 58 [3,3,0,1,2,3]]
abbrev r73_8:LA:=[oo 4 (.mv (.c (.bool false))) []]
def k73:List (List Nat):=[[0,1],[0,1,5],[0,1,5,6],[0,1,5,6,32],[4],[1,7],[1,7,54],[4],[4]]
def f73:AFunc:=⟨59,[.tmp 4],(.seq (.g r73_0 [0,1]) (.seq (.g r73_1 [0,1,5]) (.seq (.seq (.g r73_2 [0,1,5,6]) (.seq (.g r73_3 [0,1,5,6,32]) (.cond (.t 32) (.seq (.g r73_4 [4]) (.ret)) (.skip)))) (.seq (.g r73_5 [1,7]) (.seq (.seq (.g r73_6 [1,7,54]) (.cond (.t 54) (.seq (.g r73_7 [4]) (.ret)) (.skip))) (.seq (.g r73_8 [4]) (.ret)))))))⟩
theorem c73:cfunc Tryd.prog (kof k73) Tryd.f73=some f73:=by kernel_rfl
abbrev r75_0:LA:=[oo 2 (.mv (.c (.flt .f64 0))) []]
abbrev r75_1:LA:=[zm 3 0 [],oo 4 (.ext 0 [(.t 3)]) [0],oo 5 (.bin .andNot (.t 4) (.c (.int .u64 9223372036854775808))) [1],oo 6 (.ext 1 [(.t 5)]) [2,1],zm 2 6 [3,3,0,1,2,3]]
def k75:List (List Nat):=[[0],[2]]
def f75:AFunc:=⟨7,[.tmp 2],(.seq (.g r75_0 [0]) (.seq (.g r75_1 [2]) (.ret)))⟩
theorem c75:cfunc Tryd.prog (kof k75) Tryd.f75=some f75:=by kernel_rfl
abbrev r76_0:LA:=[oo 4 (.mv (.c (.bool false))) []]
abbrev r76_1:LA:=[zm 11 0 [],zL 12 1 11 [0],oo 13 (.bin .leq (.t 12) (.c (.int .i64 18))) [1],zm 14 13 [2],ym 15 1 14 false [3],og 16 (.bin .leq (.t 15) (.c (.int .u16 255))) 14 false [4,3],zo 17 14 16 [3,5]]
abbrev r76_2:LA:=[zm 18 0 [],zL 19 1 18 [0],zi 20 0 []]
abbrev r76_3:LA:=[oo 21 (.bin .lss (.t 20) (.t 19)) []]
abbrev r76_4:LA:=[zm 22 20 [],zm 5 22 [0,0]]
abbrev r76_5:LA:=[zm 23 0 [],zm 24 5 [],zd 25 3 23 24 [0,1],zm 6 25 [2,0,1,2]]
abbrev r76_6:LA:=[zm 26 1 [],zm 27 6 [],zn 28 27 [1],zf 29 0 28 [2],zl 30 29 [3],oo 31 (.bin .lss (.t 26) (.t 30)) [0,4]]
abbrev r76_7:LA:=[oo 4 (.mv (.c (.bool false))) []]
abbrev r76_8:LA:=[zm 32 1 [],zm 33 6 [],zn 34 33 [1],zf 35 1 34 [2],zl 36 35 [3],oo 37 (.bin .leq (.t 32) (.t 36)) [0,4]]
abbrev r76_9:LA:=[zm 38 6 [],zn 39 38 [0],zf 40 2 39 [1],zl 41 40 [2],oo 42 (.bin .eql (.t 41) (.c (.int .u16 1))) [3],zm 43 42 [4],ym 44 1 43 false [5],ym 45 6 43 false [5],yn 46 45 43 false [7,5],yf 47 0 46 43 false [8,5],yl 48 47 43 false [9,5],og 49 (.bin .sub (.t 44) (.t 48)) 43 false [6,10,5],ym 50 6 43 false [5],yn 51 50 43 false [12,5],yf 52 2 51 43 false [13,5],yl 53 52 43 false [14,5],og 54 (.bin .rem (.t 49) (.t 53)) 43 false [11,15,5],og 55 (.bin .eql (.t 54) (.c (.int .u16 0))) 43 false [16,5],zo 56 43 55 [5,17],zm 4 56 [18,5,0,1,2,3,4,5,6,7,8,9,10,11,12,13,14,15,16,17,18]]
abbrev r76_10:LA:=[za 57 20 1 [],zm 20 57 [0]]
def l76_0:ACode:=.seq (.g r76_3 [0,1,19,20,21]) (.seq (.cond (.t 21) (.skip) (.exit 0)) (.seq (.block 1 (.seq (.g r76_4 [0,1,5,19,20]) (.seq (.g r76_5 [0,1,6,19,20]) (.seq (.seq (.g r76_6 [0,1,6,19,20,31]) (.cond (.t 31) (.seq (.g r76_7 [4]) (.ret)) (.skip))) (.seq (.g r76_8 [0,1,6,19,20,37]) (.cond (.t 37) (.seq (.region true r76_9 [4]) (.ret)) (.skip))))))) (.g r76_10 [0,1,19,20])))
abbrev r76_11:LA:=[oo 4 (.mv (.c (.bool false))) []]
abbrev r76_12:LA:=[zi 7 0 []]
abbrev r76_13:LA:=[zm 58 0 [],zL 59 1 58 [0],zm 8 59 [1,0,1]]
abbrev r76_14:LA:=[zm 60 7 [],zm 61 8 [],oo 62 (.bin .lss (.t 60) (.t 61)) [0,1]]
abbrev r76_15:LA:=[zm 63 7 [],zm 64 8 [],oo 65 (.bin .add (.t 63) (.t 64)) [0,1],oo 66 (.conv (.toInt .u64) (.t 65)) [2],oo 67 (.bin .shr (.t 66) (.c (.int .u64 1))) [3],oo 68 (.conv (.toInt .i64) (.t 67)) [4],zm 9 68 [5,0,1,2,3,4,5]]
abbrev r76_16:LA:=[zm 69 0 [],zm 70 9 [],zd 71 3 69 70 [0,1],zm 10 71 [2,0,1,2]]
abbrev r76_17:LA:=[zm 72 10 [],zn 73 72 [0],zf 74 0 73 [1],zl 75 74 [2],zm 76 1 [],oo 77 (.bin .leq (.t 75) (.t 76)) [3,4],zm 78 77 [5],ym 79 1 78 true [6],ym 80 10 78 true [6],yn 81 80 78 true [8,6],yf 82 1 81 78 true [9,6],yl 83 82 78 true [10,6],og 84 (.bin .leq (.t 79) (.t 83)) 78 true [7,11,6],zp 85 78 84 [6,12]]
abbrev r76_18:LA:=[zm 86 10 [],zn 87 86 [0],zf 88 2 87 [1],zl 89 88 [2],oo 90 (.bin .eql (.t 89) (.c (.int .u16 1))) [3],zm 91 90 [4],ym 92 1 91 false [5],ym 93 10 91 false [5],yn 94 93 91 false [7,5],yf 95 0 94 91 false [8,5],yl 96 95 91 false [9,5],og 97 (.bin .sub (.t 92) (.t 96)) 91 false [6,10,5],ym 98 10 91 false [5],yn 99 98 91 false [12,5],yf 100 2 99 91 false [13,5],yl 101 100 91 false [14,5],og 102 (.bin .rem (.t 97) (.t 101)) 91 false [11,15,5],og 103 (.bin .eql (.t 102) (.c (.int .u16 0))) 91 false [16,5],zo 104 91 103 [5,17],zm 4 104 [18,5,0,1,2,3,4,5,6,7,8,9,10,11,12,13,14,15,16,17,18]]
abbrev r76_19:LA:=[zm 105 1 [],zm 106 10 [],zn 107 106 [1],zf 108 0 107 [2],zl 109 108 [3],oo 110 (.bin .lss (.t 105) (.t 109)) [0,4]]
abbrev r76_20:LA:=[zm 111 9 [],zm 8 111 [0,0]]
abbrev r76_21:LA:=[zm 112 9 [],za 113 112 1 [0],zm 7 113 [1,0,1]]
def l76_1:ACode:=.seq (.seq (.g r76_14 [0,1,7,8,62]) (.cond (.t 62) (.skip) (.exit 2))) (.block 3 (.seq (.g r76_15 [0,1,7,8,9]) (.seq (.g r76_16 [0,1,7,8,9,10]) (.seq (.seq (.g r76_17 [0,1,7,8,9,10,85]) (.cond (.t 85) (.seq (.region true r76_18 [4]) (.ret)) (.skip))) (.seq (.g r76_19 [0,1,7,8,9,110]) (.cond (.t 110) (.g r76_20 [0,1,7,8]) (.g r76_21 [0,1,7,8])))))))
abbrev r76_22:LA:=[oo 4 (.mv (.c (.bool false))) []]
def k76:List (List Nat):=[[0,1],[0,1,17],[0,1,19,20],[0,1,19,20,21],[0,1,5,19,20],[0,1,6,19,20],[0,1,6,19,20,31],[4],[0,1,6,19,20,37],[4],[0,1,19,20],[4],[0,1,7],[0,1,7,8],[0,1,7,8,62],[0,1,7,8,9],[0,1,7,8,9,10],[0,1,7,8,9,10,85],[4],[0,1,7,8,9,110],[0,1,7,8],[0,1,7,8],[4]]
def f76:AFunc:=⟨114,[.tmp 4],(.seq (.g r76_0 [0,1]) (.seq (.seq (.g r76_1 [0,1,17]) (.cond (.t 17) (.seq (.seq (.g r76_2 [0,1,19,20]) (.block 0 (.loop l76_0))) (.seq (.g r76_11 [4]) (.ret))) (.skip))) (.seq (.g r76_12 [0,1,7]) (.seq (.g r76_13 [0,1,7,8]) (.seq (.block 2 (.loop l76_1)) (.seq (.g r76_22 [4]) (.ret)))))))⟩
theorem c76:cfunc Tryd.prog (kof k76) Tryd.f76=some f76:=by kernel_rfl
abbrev r77_0:LA:=[oo 4 (.mv (.c (.bool false))) []]
abbrev r77_1:LA:=[zm 11 0 [],zL 12 1 11 [0],oo 13 (.bin .leq (.t 12) (.c (.int .i64 18))) [1]]
abbrev r77_2:LA:=[zm 14 0 [],zL 15 1 14 [0],zi 16 0 []]
abbrev r77_3:LA:=[oo 17 (.bin .lss (.t 16) (.t 15)) []]
abbrev r77_4:LA:=[zm 18 16 [],zm 5 18 [0,0]]
abbrev r77_5:LA:=[zm 19 0 [],zm 20 5 [],zd 21 3 19 20 [0,1],zm 6 21 [2,0,1,2]]
abbrev r77_6:LA:=[zm 22 1 [],zm 23 6 [],zn 24 23 [1],zf 25 0 24 [2],zl 26 25 [3],oo 27 (.bin .lss (.t 22) (.t 26)) [0,4]]
abbrev r77_7:LA:=[oo 4 (.mv (.c (.bool false))) []]
abbrev r77_8:LA:=[zm 28 1 [],zm 29 6 [],zn 30 29 [1],zf 31 1 30 [2],zl 32 31 [3],oo 33 (.bin .leq (.t 28) (.t 32)) [0,4]]
abbrev r77_9:LA:=[zm 34 6 [],zn 35 34 [0],zf 36 2 35 [1],zl 37 36 [2],oo 38 (.bin .eql (.t 37) (.c (.int .u32 1))) [3],zm 39 38 [4],ym 40 1 39 false [5],ym 41 6 39 false [5],yn 42 41 39 false [7,5],yf 43 0 42 39 false [8,5],yl 44 43 39 false [9,5],og 45 (.bin .sub (.t 40) (.t 44)) 39 false [6,10,5],ym 46 6 39 false [5],yn 47 46 39 false [12,5],yf 48 2 47 39 false [13,5],yl 49 48 39 false [14,5],og 50 (.bin .rem (.t 45) (.t 49)) 39 false [11,15,5],og 51 (.bin .eql (.t 50) (.c (.int .u32 0))) 39 false [16,5],zo 52 39 51 [5,17],zm 4 52 [18,5,0,1,2,3,4,5,6,7,8,9,10,11,12,13,14,15,16,17,18]]
abbrev r77_10:LA:=[za 53 16 1 [],zm 16 53 [0]]
def l77_0:ACode:=.seq (.g r77_3 [0,1,15,16,17]) (.seq (.cond (.t 17) (.skip) (.exit 0)) (.seq (.block 1 (.seq (.g r77_4 [0,1,5,15,16]) (.seq (.g r77_5 [0,1,6,15,16]) (.seq (.seq (.g r77_6 [0,1,6,15,16,27]) (.cond (.t 27) (.seq (.g r77_7 [4]) (.ret)) (.skip))) (.seq (.g r77_8 [0,1,6,15,16,33]) (.cond (.t 33) (.seq (.region true r77_9 [4]) (.ret)) (.skip))))))) (.g r77_10 [0,1,15,16])))
abbrev r77_11:LA:=[oo 4 (.mv (.c (.bool false))) []]
abbrev r77_12:LA:=[zi 7 0 []]
abbrev r77_13:LA:=[zm 54 0 [],zL 55 1 54 [0],zm 8 55 [1,0,1]]
abbrev r77_14:LA:=[zm 56 7 [],zm 57 8 [],oo 58 (.bin .lss (.t 56) (.t 57)) [0,1]]
abbrev r77_15:LA:=[zm 59 7 [],zm 60 8 [],oo 61 (.bin .add (.t 59) (.t 60)) [0,1],oo 62 (.conv (.toInt .u64) (.t 61)) [2],oo 63 (.bin .shr (.t 62) (.c (.int .u64 1))) [3],oo 64 (.conv (.toInt .i64) (.t 63)) [4],zm 9 64 [5,0,1,2,3,4,5]]
abbrev r77_16:LA:=[zm 65 0 [],zm 66 9 [],zd 67 3 65 66 [0,1],zr 68 3 67 [2],oo 10 (.alloc 102 (.agg [.int .u32 0,.int .u32 0,.int .u32 0])) [],zs 3 10 68 [4,3,0,1,2,3,4]]
abbrev r77_17:LA:=[zf 69 0 10 [],zl 70 69 [0],zm 71 1 [],oo 72 (.bin .leq (.t 70) (.t 71)) [1,2],zm 73 72 [3],ym 74 1 73 true [4],yf 75 1 10 73 true [4],yl 76 75 73 true [6,4],og 77 (.bin .leq (.t 74) (.t 76)) 73 true [5,7,4],zp 78 73 77 [4,8]]
abbrev r77_18:LA:=[zf 79 2 10 [],zl 80 79 [0],oo 81 (.bin .eql (.t 80) (.c (.int .u32 1))) [1],zm 82 81 [2],ym 83 1 82 false [3],yf 84 0 10 82 false [3],yl 85 84 82 false [5,3],og 86 (.bin .sub (.t 83) (.t 85)) 82 false [4,6,3],yf 87 2 10 82 false [3],yl 88 87 82 false [8,3],og 89 (.bin .rem (.t 86) (.t 88)) 82 false [7,9,3],og 90 (.bin .eql (.t 89) (.c (.int .u32 0))) 82 false [10,3],zo 91 82 90 [3,11],zm 4 91 [12,3,0,1,2,3,4,5,6,7,8,9,10,11,12]]
abbrev r77_19:LA:=[zm 92 1 [],zf 93 0 10 [],zl 94 93 [1],oo 95 (.bin .lss (.t 92) (.t 94)) [0,2]]
abbrev r77_20:LA:=[zm 96 9 [],zm 8 96 [0,0]]
abbrev r77_21:LA:=[zm 97 9 [],za 98 97 1 [0],zm 7 98 [1,0,1]]
def l77_1:ACode:=.seq (.seq (.g r77_14 [0,1,7,8,58]) (.cond (.t 58) (.skip) (.exit 2))) (.block 3 (.seq (.g r77_15 [0,1,7,8,9]) (.seq (.g r77_16 [0,1,7,8,9,10]) (.seq (.seq (.g r77_17 [0,1,7,8,9,10,78]) (.cond (.t 78) (.seq (.g r77_18 [4]) (.ret)) (.skip))) (.seq (.g r77_19 [0,1,7,8,9,95]) (.cond (.t 95) (.g r77_20 [0,1,7,8]) (.g r77_21 [0,1,7,8])))))))
abbrev r77_22:LA:=[oo 4 (.mv (.c (.bool false))) []]
def k77:List (List Nat):=[[0,1],[0,1,13],[0,1,15,16],[0,1,15,16,17],[0,1,5,15,16],[0,1,6,15,16],[0,1,6,15,16,27],[4],[0,1,6,15,16,33],[4],[0,1,15,16],[4],[0,1,7],[0,1,7,8],[0,1,7,8,58],[0,1,7,8,9],[0,1,7,8,9,10],[0,1,7,8,9,10,78],[4],[0,1,7,8,9,95],[0,1,7,8],[0,1,7,8],[4]]
def f77:AFunc:=⟨99,[.tmp 4],(.seq (.g r77_0 [0,1]) (.seq (.seq (.g r77_1 [0,1,13]) (.cond (.t 13) (.seq (.seq (.g r77_2 [0,1,15,16]) (.block 0 (.loop l77_0))) (.seq (.g r77_11 [4]) (.ret))) (.skip))) (.seq (.g r77_12 [0,1,7]) (.seq (.g r77_13 [0,1,7,8]) (.seq (.block 2 (.loop l77_1)) (.seq (.g r77_22 [4]) (.ret)))))))⟩
theorem c77:cfunc Tryd.prog (kof k77) Tryd.f77=some f77:=by kernel_rfl
end Go.Am.Rl
