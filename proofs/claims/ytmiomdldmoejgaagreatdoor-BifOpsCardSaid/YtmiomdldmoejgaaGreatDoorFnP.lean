/- The functions, in the abstract machine's form (written by gen.py). -/
import Derived.Test.YtmiomdldmoejgaaGreatDoorFnK
import Derived.Test.YtmiomdldmoejgaaGreatDoorProg
set_option linter.unusedVariables false
namespace Go.Am.Rl
open Go.Proofs
set_option maxRecDepth 20000
abbrev r8_0:LA:=[oo 2 (.box 27 (.t 0)) [],oo 3 (.box 27 (.t 1)) [],oo 4 (.mv (.c (.bool false))) []]
abbrev r8_1:LA:=[zf 6 0 2 [],zl 7 6 [0],zf 8 0 3 [],zl 9 8 [2],oo 10 (.bin .neq (.t 7) (.t 9)) [1,3],zm 11 10 [4],yf 12 1 2 11 false [5],yl 13 12 11 false [6,5],yf 14 1 3 11 false [5],yl 15 14 11 false [8,5],og 16 (.bin .neq (.t 13) (.t 15)) 11 false [7,9,5],zo 17 11 16 [5,10],zm 18 17 [11,5],yf 19 3 2 18 false [12],yl 20 19 18 false [13,12],yf 21 3 3 18 false [12],yl 22 21 18 false [15,12],og 23 (.bin .neq (.t 20) (.t 22)) 18 false [14,16,12],zo 24 18 23 [12,17],zm 25 24 [18,12],yf 26 2 2 25 false [19],yl 27 26 25 false [20,19],og 28 (.ext 0 [(.t 27)]) 25 false [21,19,19],yf 29 2 3 25 false [19],yl 30 29 25 false [23,19],og 31 (.ext 0 [(.t 30)]) 25 false [24,22,19],og 32 (.bin .neq (.t 28) (.t 31)) 25 false [22,25,19],zo 33 25 32 [19,26],zm 34 33 [27,25],yf 35 4 2 34 false [28],yl 36 35 34 false [29,28],og 37 (.len 1 (.t 36)) 34 false [30,28],yf 38 4 3 34 false [28],yl 39 38 34 false [32,28],og 40 (.len 1 (.t 39)) 34 false [33,28],og 41 (.bin .neq (.t 37) (.t 40)) 34 false [31,34,28],zo 42 34 41 [28,35]]
abbrev r8_2:LA:=[oo 4 (.mv (.c (.bool false))) []]
abbrev r8_3:LA:=[zi 5 0 []]
abbrev r8_4:LA:=[zm 43 5 [],zf 44 4 2 [],zl 45 44 [1],zL 46 1 45 [2],oo 47 (.bin .lss (.t 43) (.t 46)) [0,3]]
abbrev r8_6:LA:=[zf 50 4 2 [],zl 51 50 [0],zm 52 5 [],zd 53 5 51 52 [1,2],zr 54 5 53 [3],zf 55 4 3 [],zl 56 55 [5],zm 57 5 [],zd 58 5 56 57 [6,7],zr 59 5 58 [8],zq 60 8 54 59 [4,9],oo 61 (.un .not (.t 60)) [10]]
abbrev r8_7:LA:=[oo 4 (.mv (.c (.bool false))) []]
abbrev r8_5:LA:=[zm 48 5 [],za 49 48 1 [0],zm 5 49 [1,0,1]]
def l8_0:ACode:=.seq (.seq (.g r8_4 [2,3,5,47]) (.cond (.t 47) (.skip) (.exit 0))) (.seq (.block 1 (.seq (.region true r8_6 [2,3,5,61]) (.cond (.t 61) (.seq (.g r8_7 [4]) (.ret)) (.skip)))) (.g r8_5 [2,3,5]))
abbrev r8_8:LA:=[oo 4 (.mv (.c (.bool true))) []]
def m8_1:List Nat:=[0,1,0,4,15,31,63,127,63,319,1023,2047,4095,8191,16383,8191,40959,131071,262143,524287,1048575,2097151,4194303,1048575,9437183,33554431,67108863,134217727,268435455,536870911,1073741823,2147483647,536870911,4831838207,13421772799,34359738367,68719476735]
theorem d8_1:okDraw r8_1 m8_1=true:=by kernel_rfl
def m8_6:List Nat:=[0,1,0,7,15,0,32,0,224,480,1023,2047]
theorem d8_6:okDraw r8_6 m8_6=true:=by kernel_rfl
def k8:List (List Nat):=[[2,3],[2,3,42],[4],[2,3,5],[2,3,5,47],[2,3,5],[2,3,5,61],[4],[4]]
def f8:AFunc:=⟨62,[.tmp 4],(.seq (.g r8_0 [2,3]) (.seq (.seq (.region true r8_1 [2,3,42]) (.cond (.t 42) (.seq (.g r8_2 [4]) (.ret)) (.skip))) (.seq (.seq (.g r8_3 [2,3,5]) (.block 0 (.loop l8_0))) (.seq (.g r8_8 [4]) (.ret)))))⟩
theorem c8:cfunc Tryz.prog (kof k8) Tryz.f8=some f8:=by kernel_rfl
abbrev r38_0:LA:=[oo 2 (.box 27 (.t 0)) [],zA 4 27 []]
abbrev r38_1:LA:=[zm 5 1 [],oo 6 (.bin .neq (.t 5) (.c (.int .i64 0))) [0]]
abbrev r38_2:LA:=[zm 7 1 [],oo 8 (.mkifc 28 (.t 7)) [0],on (.pan (.t 8)) [1]]
abbrev r38_3:LA:=[zr 9 5 2 [],zs 5 4 9 [0,0]]
def k38:List (List Nat):=[[1,2,4],[1,2,4,6],[2,4],[4]]
def f38:AFunc:=⟨10,[.cell 4 (some 5)],(.seq (.g r38_0 [1,2,4]) (.seq (.seq (.g r38_1 [1,2,4,6]) (.cond (.t 6) (.g r38_2 [2,4]) (.skip))) (.seq (.g r38_3 [4]) (.ret))))⟩
theorem c38:cfunc Tryz.prog (kof k38) Tryz.f38=some f38:=by kernel_rfl
end Go.Am.Rl
