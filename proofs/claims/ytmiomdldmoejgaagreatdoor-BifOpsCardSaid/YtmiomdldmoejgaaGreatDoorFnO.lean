/- The functions, in the abstract machine's form (written by gen.py). -/
import Derived.Test.YtmiomdldmoejgaaGreatDoorFnP
import Derived.Test.YtmiomdldmoejgaaGreatDoorProg
set_option linter.unusedVariables false
namespace Go.Am.Rl
open Go.Proofs
set_option maxRecDepth 20000
abbrev r41_0:LA:=[oo 2 (.mv (.c (.bool false))) []]
abbrev r41_1:LA:=[zm 3 0 [],oo 4 (.bin .neq (.t 3) (.c (.int .i64 0))) [0],zm 2 4 [1,0,1]]
def k41:List (List Nat):=[[0],[2]]
def f41:AFunc:=⟨5,[.tmp 2],(.seq (.g r41_0 [0]) (.seq (.g r41_1 [2]) (.ret)))⟩
theorem c41:cfunc Tryz.prog (kof k41) Tryz.f41=some f41:=by kernel_rfl
abbrev r42_0:LA:=[oo 2 (.mv (.c (.bool false))) []]
abbrev r42_1:LA:=[zm 3 0 [],oo 4 (.bin .leq (.t 3) (.c (.int .i64 0))) [0],zm 2 4 [1,0,1]]
def k42:List (List Nat):=[[0],[2]]
def f42:AFunc:=⟨5,[.tmp 2],(.seq (.g r42_0 [0]) (.seq (.g r42_1 [2]) (.ret)))⟩
theorem c42:cfunc Tryz.prog (kof k42) Tryz.f42=some f42:=by kernel_rfl
abbrev r43_0:LA:=[oo 2 (.mv (.c (.bool false))) []]
abbrev r43_1:LA:=[zm 3 0 [],oo 4 (.bin .lss (.t 3) (.c (.int .i64 0))) [0],zm 2 4 [1,0,1]]
def k43:List (List Nat):=[[0],[2]]
def f43:AFunc:=⟨5,[.tmp 2],(.seq (.g r43_0 [0]) (.seq (.g r43_1 [2]) (.ret)))⟩
theorem c43:cfunc Tryz.prog (kof k43) Tryz.f43=some f43:=by kernel_rfl
abbrev r44_0:LA:=[oo 2 (.mv (.c (.bool false))) []]
abbrev r44_1:LA:=[zm 3 0 [],oo 4 (.bin .geq (.t 3) (.c (.int .i64 0))) [0],zm 2 4 [1,0,1]]
def k44:List (List Nat):=[[0],[2]]
def f44:AFunc:=⟨5,[.tmp 2],(.seq (.g r44_0 [0]) (.seq (.g r44_1 [2]) (.ret)))⟩
theorem c44:cfunc Tryz.prog (kof k44) Tryz.f44=some f44:=by kernel_rfl
abbrev r45_0:LA:=[oo 2 (.mv (.c (.bool false))) []]
abbrev r45_1:LA:=[zm 3 0 [],oo 4 (.bin .gtr (.t 3) (.c (.int .i64 0))) [0],zm 2 4 [1,0,1]]
def k45:List (List Nat):=[[0],[2]]
def f45:AFunc:=⟨5,[.tmp 2],(.seq (.g r45_0 [0]) (.seq (.g r45_1 [2]) (.ret)))⟩
theorem c45:cfunc Tryz.prog (kof k45) Tryz.f45=some f45:=by kernel_rfl
abbrev r115_0:LA:=[zi 4 0 []]
abbrev r115_1:LA:=[zm 5 0 [],zm 6 1 [],zq 7 160 5 6 [0,1],zm 4 7 [2,2,0,1,2]]
def k115:List (List Nat):=[[0,1],[4]]
def f115:AFunc:=⟨8,[.tmp 4],(.seq (.g r115_0 [0,1]) (.seq (.g r115_1 [4]) (.ret)))⟩
theorem c115:cfunc Tryz.prog (kof k115) Tryz.f115=some f115:=by kernel_rfl
abbrev r160_0:LA:=[zi 4 0 []]
abbrev r160_1:LA:=[zm 5 0 [],zm 6 1 [],oo 7 (.ext 7 [(.t 5),(.t 6)]) [0,1],zm 4 7 [2,2,0,1,2]]
def k160:List (List Nat):=[[0,1],[4]]
def f160:AFunc:=⟨8,[.tmp 4],(.seq (.g r160_0 [0,1]) (.seq (.g r160_1 [4]) (.ret)))⟩
theorem c160:cfunc Tryz.prog (kof k160) Tryz.f160=some f160:=by kernel_rfl
abbrev r116_0:LA:=[zi 4 0 []]
abbrev r116_1:LA:=[zm 5 0 [],zm 6 1 [],oo 7 (.callF 161 [(.t 5),(.t 6),(.c (.fn (.func 72) [] []))]) [0,1],zm 4 7 [2,2,0,1,2]]
def k116:List (List Nat):=[[0,1],[4]]
def f116:AFunc:=⟨8,[.tmp 4],(.seq (.g r116_0 [0,1]) (.seq (.g r116_1 [4]) (.ret)))⟩
theorem c116:cfunc Tryz.prog (kof k116) Tryz.f116=some f116:=by kernel_rfl
abbrev r161_0:LA:=[zi 6 0 []]
abbrev r161_1:LA:=[zm 11 0 [],zL 12 1 11 [0],zi 13 0 []]
abbrev r161_2:LA:=[oo 14 (.bin .lss (.t 13) (.t 12)) []]
abbrev r161_3:LA:=[zm 15 13 [],zd 16 5 11 13 [],zr 17 5 16 [1],zA 8 27 [],zm 7 15 [0,0,1,2,3],zs 5 8 17 [3,2,4,0,1,2,3,4]]
abbrev r161_4:LA:=[zm 18 7 [],zm 19 1 [],zL 20 1 19 [1],oo 21 (.bin .geq (.t 18) (.t 20)) [0,2]]
abbrev r161_5:LA:=[zi 6 1 []]
abbrev r161_6:LA:=[zm 22 1 [],zm 23 7 [],zd 24 5 22 23 [0,1],zr 25 5 24 [2],zA 9 27 [],zs 5 9 25 [4,3,0,1,2,3,4]]
abbrev r161_7:LA:=[zm 26 2 [],zr 27 5 8 [],zr 28 5 9 [],oo 29 (.callV (.t 26) [(.t 27),(.t 28)]) [0,1,2],zm 10 29 [3,3,0,1,2,3]]
abbrev r161_8:LA:=[zm 30 10 [],oo 31 (.bin .neq (.t 30) (.c (.int .i64 0))) [0]]
abbrev r161_9:LA:=[zm 32 10 [],zm 6 32 [0,0]]
abbrev r161_10:LA:=[za 33 13 1 [],zm 13 33 [0]]
def l161_0:ACode:=.seq (.g r161_2 [0,1,2,11,12,13,14]) (.seq (.cond (.t 14) (.skip) (.exit 0)) (.seq (.block 1 (.seq (.g r161_3 [0,1,2,7,8,11,12,13]) (.seq (.seq (.g r161_4 [0,1,2,7,8,11,12,13,21]) (.cond (.t 21) (.seq (.g r161_5 [6]) (.ret)) (.skip))) (.seq (.g r161_6 [0,1,2,8,9,11,12,13]) (.seq (.g r161_7 [0,1,2,10,11,12,13]) (.seq (.g r161_8 [0,1,2,10,11,12,13,31]) (.cond (.t 31) (.seq (.g r161_9 [6]) (.ret)) (.skip)))))))) (.g r161_10 [0,1,2,11,12,13])))
abbrev r161_11:LA:=[zm 34 0 [],zL 35 1 34 [0],zm 36 1 [],zL 37 1 36 [2],oo 38 (.bin .lss (.t 35) (.t 37)) [1,3]]
abbrev r161_12:LA:=[oo 6 (.mv (.c (.int .i64 (-1)))) []]
abbrev r161_13:LA:=[zi 6 0 []]
def k161:List (List Nat):=[[0,1,2],[0,1,2,11,12,13],[0,1,2,11,12,13,14],[0,1,2,7,8,11,12,13],[0,1,2,7,8,11,12,13,21],[6],[0,1,2,8,9,11,12,13],[0,1,2,10,11,12,13],[0,1,2,10,11,12,13,31],[6],[0,1,2,11,12,13],[38],[6],[6]]
def f161:AFunc:=⟨39,[.tmp 6],(.seq (.g r161_0 [0,1,2]) (.seq (.seq (.g r161_1 [0,1,2,11,12,13]) (.block 0 (.loop l161_0))) (.seq (.seq (.g r161_11 [38]) (.cond (.t 38) (.seq (.g r161_12 [6]) (.ret)) (.skip))) (.seq (.g r161_13 [6]) (.ret)))))⟩
theorem c161:cfunc Tryz.prog (kof k161) Tryz.f161=some f161:=by kernel_rfl
abbrev r118_0:LA:=[oo 6 (.mv (.c (.bool false))) []]
abbrev r118_1:LA:=[zm 10 0 [],zL 11 1 10 [0],zm 12 1 [],zL 13 1 12 [2],oo 14 (.bin .neq (.t 11) (.t 13)) [1,3]]
abbrev r118_2:LA:=[oo 6 (.mv (.c (.bool false))) []]
abbrev r118_3:LA:=[zm 15 0 [],zL 16 1 15 [0],zi 17 0 []]
abbrev r118_4:LA:=[oo 18 (.bin .lss (.t 17) (.t 16)) []]
abbrev r118_5:LA:=[zm 19 17 [],zd 20 5 15 17 [],zr 21 5 20 [1],zA 8 27 [],zm 7 19 [0,0,1,2,3],zs 5 8 21 [3,2,4,0,1,2,3,4]]
abbrev r118_6:LA:=[zm 22 1 [],zm 23 7 [],zd 24 5 22 23 [0,1],zr 25 5 24 [2],zA 9 27 [],zs 5 9 25 [4,3,0,1,2,3,4]]
abbrev r118_7:LA:=[zm 26 2 [],zr 27 5 8 [],zr 28 5 9 [],oo 29 (.callV (.t 26) [(.t 27),(.t 28)]) [0,1,2],oo 30 (.un .not (.t 29)) [3]]
abbrev r118_8:LA:=[oo 6 (.mv (.c (.bool false))) []]
abbrev r118_9:LA:=[za 31 17 1 [],zm 17 31 [0]]
def l118_0:ACode:=.seq (.g r118_4 [1,2,15,16,17,18]) (.seq (.cond (.t 18) (.skip) (.exit 0)) (.seq (.block 1 (.seq (.g r118_5 [1,2,7,8,15,16,17]) (.seq (.g r118_6 [1,2,8,9,15,16,17]) (.seq (.g r118_7 [1,2,15,16,17,30]) (.cond (.t 30) (.seq (.g r118_8 [6]) (.ret)) (.skip)))))) (.g r118_9 [1,2,15,16,17])))
abbrev r118_10:LA:=[oo 6 (.mv (.c (.bool true))) []]
def k118:List (List Nat):=[[0,1,2],[0,1,2,14],[6],[1,2,15,16,17],[1,2,15,16,17,18],[1,2,7,8,15,16,17],[1,2,8,9,15,16,17],[1,2,15,16,17,30],[6],[1,2,15,16,17],[6]]
def f118:AFunc:=⟨32,[.tmp 6],(.seq (.g r118_0 [0,1,2]) (.seq (.seq (.g r118_1 [0,1,2,14]) (.cond (.t 14) (.seq (.g r118_2 [6]) (.ret)) (.skip))) (.seq (.seq (.g r118_3 [1,2,15,16,17]) (.block 0 (.loop l118_0))) (.seq (.g r118_10 [6]) (.ret)))))⟩
theorem c118:cfunc Tryz.prog (kof k118) Tryz.f118=some f118:=by kernel_rfl
end Go.Am.Rl
