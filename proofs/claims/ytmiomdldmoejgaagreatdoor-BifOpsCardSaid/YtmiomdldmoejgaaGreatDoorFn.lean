/- The functions, in the abstract machine's form (written by gen.py). -/
import Derived.Test.YtmiomdldmoejgaaGreatDoorAmS
import Derived.Test.YtmiomdldmoejgaaGreatDoorProg
set_option linter.unusedVariables false
namespace Go.Am.Rl
open Go.Proofs
set_option maxRecDepth 20000
abbrev r4_0:LA:=[oo 0 (.mv (.c (.bool false))) []]
abbrev r4_1:LA:=[oo 10 (.callF 9 [(.c (.int .i64 1))]) [],zB 11 [(0,1,(.c (.int .i64 2))),(2,1,(.c (.flt .f64 4607182418800017408)))] [],oo 12 (.bslice 27 2 [.int .i64 0,.int .i64 0,.flt .f64 0,.str ⟨#[]⟩,.nils,.int .i64 0,.int .i64 0,.flt .f64 0,.str ⟨#[]⟩,.nils] [(0,5,(.t 10)),(5,5,(.t 11))]) [0,1],oo 13 (.callF 6 [(.c (.str ⟨#[61,61]⟩)),(.t 12)]) [2,0],zm 9 13 [3],zx 14 9 0 [4],zx 15 9 1 [4],zA 1 27 [],zs 5 1 14 [7,5,3,0,1,2,3,4,5,7],zm 2 15 [6,8,0,1,2,3,4,5,6,7,8]]
abbrev r4_2:LA:=[oo 17 (.callF 9 [(.c (.int .i64 1))]) [],zB 18 [(0,1,(.c (.int .i64 2))),(2,1,(.c (.flt .f64 4607182418800017408)))] [],oo 19 (.bslice 27 2 [.int .i64 0,.int .i64 0,.flt .f64 0,.str ⟨#[]⟩,.nils,.int .i64 0,.int .i64 0,.flt .f64 0,.str ⟨#[]⟩,.nils] [(0,5,(.t 17)),(5,5,(.t 18))]) [0,1],oo 20 (.callF 6 [(.c (.str ⟨#[61,58,61]⟩)),(.t 19)]) [2,0],zm 16 20 [3],zx 21 16 0 [4],zx 22 16 1 [4],zA 3 27 [],zs 5 3 21 [7,5,3,0,1,2,3,4,5,7],zm 4 22 [6,8,0,1,2,3,4,5,6,7,8]]
abbrev r4_3:LA:=[oo 24 (.callF 9 [(.c (.int .i64 1))]) [],oo 25 (.callF 9 [(.c (.int .i64 7))]) [0],oo 26 (.bslice 27 1 [.int .i64 0,.int .i64 0,.flt .f64 0,.str ⟨#[]⟩,.nils] [(0,5,(.t 25))]) [1],zB 27 [(0,1,(.c (.int .i64 7))),(4,1,(.t 26))] [2],oo 28 (.bslice 27 2 [.int .i64 0,.int .i64 0,.flt .f64 0,.str ⟨#[]⟩,.nils,.int .i64 0,.int .i64 0,.flt .f64 0,.str ⟨#[]⟩,.nils] [(0,5,(.t 24)),(5,5,(.t 27))]) [0,3],oo 29 (.callF 10 [(.c (.str ⟨#[101,108,101,109,101,110,116]⟩)),(.t 28),(.c (.fn (.func 11) [] []))]) [4,1],zm 23 29 [5],zx 30 23 0 [6],zx 31 23 1 [6],zA 5 27 [],zs 5 5 30 [9,7,5,0,1,2,3,4,5,6,7,9],zm 6 31 [8,10,0,1,2,3,4,5,6,7,8,9,10]]
abbrev r4_4:LA:=[oo 33 (.callF 9 [(.c (.int .i64 0))]) [],oo 34 (.callF 9 [(.c (.int .i64 7))]) [0],oo 35 (.bslice 27 1 [.int .i64 0,.int .i64 0,.flt .f64 0,.str ⟨#[]⟩,.nils] [(0,5,(.t 34))]) [1],zB 36 [(0,1,(.c (.int .i64 7))),(4,1,(.t 35))] [2],oo 37 (.bslice 27 2 [.int .i64 0,.int .i64 0,.flt .f64 0,.str ⟨#[]⟩,.nils,.int .i64 0,.int .i64 0,.flt .f64 0,.str ⟨#[]⟩,.nils] [(0,5,(.t 33)),(5,5,(.t 36))]) [0,3],oo 38 (.callF 10 [(.c (.str ⟨#[101,108,101,109,101,110,116]⟩)),(.t 37),(.c (.fn (.func 11) [] []))]) [4,1],zm 32 38 [5],zx 39 32 0 [6],zx 40 32 1 [6],zA 7 27 [],zs 5 7 39 [9,7,5,0,1,2,3,4,5,6,7,9],zm 8 40 [8,10,0,1,2,3,4,5,6,7,8,9,10]]
abbrev r4_5:LA:=[zf 41 3 1 [],zl 42 41 [0],oo 43 (.bin .eql (.t 42) (.c (.str ⟨#[116,114,117,101]⟩))) [1],zm 44 43 [2],ym 45 2 44 true [3],og 46 (.bin .eql (.t 45) (.c (.int .i64 0))) 44 true [4,3],zp 47 44 46 [3,5],zm 48 47 [6,3],yf 49 3 3 48 true [7],yl 50 49 48 true [8,7],og 51 (.bin .eql (.t 50) (.c (.str ⟨#[102,97,108,115,101]⟩))) 48 true [9,7],zp 52 48 51 [7,10],zm 53 52 [11,7],ym 54 4 53 true [12],og 55 (.bin .eql (.t 54) (.c (.int .i64 0))) 53 true [13,12],zp 56 53 55 [12,14],zm 57 56 [15,12],yf 58 1 5 57 true [16],yl 59 58 57 true [17,16],og 60 (.bin .eql (.t 59) (.c (.int .i64 7))) 57 true [18,16],zp 61 57 60 [16,19],zm 62 61 [20,16],ym 63 6 62 true [21],og 64 (.bin .eql (.t 63) (.c (.int .i64 0))) 62 true [22,21],zp 65 62 64 [21,23],zm 66 65 [24,21],ym 67 8 66 true [25],og 68 (.bin .eql (.t 67) (.c (.int .i64 13))) 66 true [26,25],zp 69 66 68 [25,27],zm 0 69 [28,25,0,1,2,3,4,5,6,7,8,9,10,11,12,13,14,15,16,17,18,19,20,21,22,23,24,25,26,27,28]]
def k4:List (List Nat):=[[],[1,2],[1,2,3,4],[1,2,3,4,5,6],[1,2,3,4,5,6,8],[0]]
def f4:AFunc:=⟨70,[.tmp 0],(.seq (.g r4_0 []) (.seq (.g r4_1 [1,2]) (.seq (.g r4_2 [1,2,3,4]) (.seq (.g r4_3 [1,2,3,4,5,6]) (.seq (.g r4_4 [1,2,3,4,5,6,8]) (.seq (.g r4_5 [0]) (.ret)))))))⟩
theorem c4:cfunc Tryz.prog (kof k4) Tryz.f4=some f4:=by kernel_rfl
abbrev r9_0:LA:=[zA 2 27 []]
abbrev r9_1:LA:=[zm 3 0 [],zB 4 [(0,1,(.c (.int .i64 1))),(1,1,(.t 3))] [0],zs 5 2 4 [1,0,1]]
def k9:List (List Nat):=[[0,2],[2]]
def f9:AFunc:=⟨5,[.cell 2 (some 5)],(.seq (.g r9_0 [0,2]) (.seq (.g r9_1 [2]) (.ret)))⟩
theorem c9:cfunc Tryz.prog (kof k9) Tryz.f9=some f9:=by kernel_rfl
abbrev r6_0:LA:=[zA 4 27 [],zi 5 0 []]
abbrev r6_1:LA:=[zm 8 1 [],oo 9 (.build [.nils,.nilf] [(0,1,(.t 8))]) [0],oo 10 (.box 42 (.t 9)) [1],oo 6 (.alloc 40 (.nilp)) [],zs 1 6 10 [3,2,0,1,2,3]]
abbrev r6_2:LA:=[zm 11 0 [],zk 12 14 11 [0],oo 7 (.alloc 43 (.nilf)) [],zs 1 7 12 [2,1,1,0,1,2]]
abbrev r6_3:LA:=[zm 13 1 [],zL 14 1 13 [0],ze 15 14 1 [1]]
abbrev r6_4:LA:=[zm 16 0 [],zk 17 15 16 [0],zs 1 7 17 [1,1,0,1]]
abbrev r6_5:LA:=[zl 18 7 [],oo 19 (.eqN 3 false (.t 18) (.c (.nilf))) [0],zm 20 19 [1],ym 21 1 20 false [2],og 22 (.len 1 (.t 21)) 20 false [3,2],og 23 (.bin .lss (.t 22) (.c (.int .i64 1))) 20 false [4,2],zo 24 20 23 [2,5],zm 25 24 [6,2],ym 26 1 25 false [7],og 27 (.len 1 (.t 26)) 25 false [8,7],og 28 (.bin .gtr (.t 27) (.c (.int .i64 2))) 25 false [9,7],zo 29 25 28 [7,10]]
abbrev r6_6:LA:=[zB 30 [] [],zs 5 4 30 [0,0],zi 5 5 [1,0,1]]
abbrev r6_7:LA:=[oo 31 (.mkfn (.func 17) [] [(.t 7),(.t 6)]) [],zk 32 16 31 [0],zx 33 32 0 [1],zx 34 32 1 [1],zs 5 4 33 [2,1,0,1,2,3],zm 5 34 [3,4,0,1,2,3,4]]
def k6:List (List Nat):=[[0,1,4],[0,1,4,6],[0,1,4,6,7],[0,1,4,6,7,15],[1,4,6,7],[4,6,7,29],[4,5],[4,5]]
def f6:AFunc:=⟨35,[.cell 4 (some 5),.tmp 5],(.seq (.g r6_0 [0,1,4]) (.seq (.g r6_1 [0,1,4,6]) (.seq (.g r6_2 [0,1,4,6,7]) (.seq (.seq (.g r6_3 [0,1,4,6,7,15]) (.cond (.t 15) (.g r6_4 [1,4,6,7]) (.skip))) (.seq (.seq (.g r6_5 [4,6,7,29]) (.cond (.t 29) (.seq (.g r6_6 [4,5]) (.ret)) (.skip))) (.seq (.g r6_7 [4,5]) (.ret)))))))⟩
theorem c6:cfunc Tryz.prog (kof k6) Tryz.f6=some f6:=by kernel_rfl
abbrev r10_0:LA:=[oo 4 (.box 22 (.t 1)) [],oo 5 (.box 37 (.t 2)) [],zA 6 27 [],zi 7 0 []]
abbrev r10_1:LA:=[zm 11 0 [],zl 12 4 [],zL 13 1 12 [1],zq 14 27 11 13 [0,2],zm 10 14 [3],zx 15 10 0 [4],zx 16 10 1 [4],oo 8 (.alloc 55 (.agg [.int .i64 0,.bool false,.nilf])) [],zs 3 8 15 [7,5,3,0,1,2,3,4,5,7],zm 9 16 [6,8,0,1,2,3,4,5,6,7,8]]
abbrev r10_2:LA:=[zm 17 9 [],oo 18 (.un .not (.t 17)) [0]]
abbrev r10_3:LA:=[zB 19 [] [],zs 5 6 19 [0,0],zi 7 5 [1,0,1]]
abbrev r10_4:LA:=[oo 20 (.mkfn (.func 28) [] [(.t 8),(.t 4),(.t 5)]) [],zk 21 16 20 [0],zx 22 21 0 [1],zx 23 21 1 [1],zs 5 6 22 [2,1,0,1,2,3],zm 7 23 [3,4,0,1,2,3,4]]
def k10:List (List Nat):=[[0,4,5,6],[4,5,6,8,9],[4,5,6,8,18],[6,7],[6,7]]
def f10:AFunc:=⟨24,[.cell 6 (some 5),.tmp 7],(.seq (.g r10_0 [0,4,5,6]) (.seq (.g r10_1 [4,5,6,8,9]) (.seq (.seq (.g r10_2 [4,5,6,8,18]) (.cond (.t 18) (.seq (.g r10_3 [6,7]) (.ret)) (.skip))) (.seq (.g r10_4 [6,7]) (.ret)))))⟩
theorem c10:cfunc Tryz.prog (kof k10) Tryz.f10=some f10:=by kernel_rfl
abbrev r11_0:LA:=[oo 1 (.box 27 (.t 0)) [],zi 2 0 []]
abbrev r11_1:LA:=[oo 2 (.mv (.c (.int .i64 (-1)))) []]
def k11:List (List Nat):=[[],[2]]
def f11:AFunc:=⟨3,[.tmp 2],(.seq (.g r11_0 []) (.seq (.g r11_1 [2]) (.ret)))⟩
theorem c11:cfunc Tryz.prog (kof k11) Tryz.f11=some f11:=by kernel_rfl
abbrev r14_0:LA:=[oo 1 (.box 9 (.t 0)) [],oo 2 (.mv (.c (.nilf))) []]
abbrev r14_1:LA:=[oo 3 (.mv (.c (.fn (.func 30) [] []))) []]
abbrev r14_2:LA:=[oo 4 (.mv (.c (.fn (.func 34) [] []))) []]
abbrev r14_3:LA:=[zl 5 1 []]
abbrev r14_4:LA:=[oo 7 (.bin .eql (.t 5) (.c (.str ⟨#[43]⟩))) [],zm 6 7 [0]]
abbrev r14_5:LA:=[oo 8 (.bin .eql (.t 5) (.c (.str ⟨#[45]⟩))) [],zm 6 8 [0]]
abbrev r14_6:LA:=[oo 9 (.bin .eql (.t 5) (.c (.str ⟨#[42]⟩))) [],zm 6 9 [0]]
abbrev r14_7:LA:=[oo 10 (.bin .eql (.t 5) (.c (.str ⟨#[47]⟩))) [],zm 6 10 [0]]
abbrev r14_8:LA:=[oo 11 (.bin .eql (.t 5) (.c (.str ⟨#[100,105,118]⟩))) [],zm 6 11 [0]]
abbrev r14_9:LA:=[oo 12 (.bin .eql (.t 5) (.c (.str ⟨#[114,101,109]⟩))) [],zm 6 12 [0]]
abbrev r14_10:LA:=[oo 13 (.mkfn (.func 37) [] [(.t 1)]) [],zm 2 13 [0,0]]
abbrev r14_11:LA:=[oo 15 (.bin .eql (.t 5) (.c (.str ⟨#[61,61]⟩))) [],zm 14 15 [0]]
abbrev r14_12:LA:=[zm 16 3 [],oo 17 (.callV (.t 16) [(.c (.fn (.func 40) [] []))]) [0],zm 2 17 [1,1,0,1]]
abbrev r14_13:LA:=[oo 19 (.bin .eql (.t 5) (.c (.str ⟨#[47,61]⟩))) [],zm 18 19 [0]]
abbrev r14_14:LA:=[zm 20 3 [],oo 21 (.callV (.t 20) [(.c (.fn (.func 41) [] []))]) [0],zm 2 21 [1,1,0,1]]
abbrev r14_15:LA:=[oo 23 (.bin .eql (.t 5) (.c (.str ⟨#[61,60]⟩))) [],zm 22 23 [0]]
abbrev r14_16:LA:=[zm 24 3 [],oo 25 (.callV (.t 24) [(.c (.fn (.func 42) [] []))]) [0],zm 2 25 [1,1,0,1]]
abbrev r14_17:LA:=[oo 27 (.bin .eql (.t 5) (.c (.str ⟨#[60]⟩))) [],zm 26 27 [0]]
abbrev r14_18:LA:=[zm 28 3 [],oo 29 (.callV (.t 28) [(.c (.fn (.func 43) [] []))]) [0],zm 2 29 [1,1,0,1]]
abbrev r14_19:LA:=[oo 31 (.bin .eql (.t 5) (.c (.str ⟨#[62,61]⟩))) [],zm 30 31 [0]]
abbrev r14_20:LA:=[zm 32 3 [],oo 33 (.callV (.t 32) [(.c (.fn (.func 44) [] []))]) [0],zm 2 33 [1,1,0,1]]
abbrev r14_21:LA:=[oo 35 (.bin .eql (.t 5) (.c (.str ⟨#[62]⟩))) [],zm 34 35 [0]]
abbrev r14_22:LA:=[zm 36 3 [],oo 37 (.callV (.t 36) [(.c (.fn (.func 45) [] []))]) [0],zm 2 37 [1,1,0,1]]
abbrev r14_23:LA:=[oo 39 (.bin .eql (.t 5) (.c (.str ⟨#[61,58,61]⟩))) [],zm 38 39 [0]]
abbrev r14_24:LA:=[zm 40 4 [],oo 41 (.callV (.t 40) [(.c (.bool true))]) [0],zm 2 41 [1,1,0,1]]
abbrev r14_25:LA:=[oo 43 (.bin .eql (.t 5) (.c (.str ⟨#[61,47,61]⟩))) [],zm 42 43 [0]]
abbrev r14_26:LA:=[zm 44 4 [],oo 45 (.callV (.t 44) [(.c (.bool false))]) [0],zm 2 45 [1,1,0,1]]
abbrev r14_27:LA:=[oo 47 (.bin .eql (.t 5) (.c (.str ⟨#[43,43]⟩))) [],zm 46 47 [0]]
abbrev r14_28:LA:=[oo 2 (.mv (.c (.fn (.func 46) [] []))) []]
abbrev r14_29:LA:=[oo 2 (.mv (.c (.nilf))) []]
def k14:List (List Nat):=[[1],[1,3],[1,3,4],[1,3,4,5],[1,3,4,5,6],[1,3,4,5,6],[1,3,4,5,6],[1,3,4,5,6],[1,3,4,5,6],[1,3,4,5,6],[2],[3,4,5,14],[2],[3,4,5,18],[2],[3,4,5,22],[2],[3,4,5,26],[2],[3,4,5,30],[2],[3,4,5,34],[2],[4,5,38],[2],[4,5,42],[2],[46],[2],[2]]
def f14:AFunc:=⟨48,[.tmp 2],(.seq (.g r14_0 [1]) (.seq (.g r14_1 [1,3]) (.seq (.g r14_2 [1,3,4]) (.seq (.seq (.g r14_3 [1,3,4,5]) (.block 0 (.seq (.seq (.g r14_4 [1,3,4,5,6]) (.cond (.t 6) (.skip) (.seq (.g r14_5 [1,3,4,5,6]) (.cond (.t 6) (.skip) (.seq (.g r14_6 [1,3,4,5,6]) (.cond (.t 6) (.skip) (.seq (.g r14_7 [1,3,4,5,6]) (.cond (.t 6) (.skip) (.seq (.g r14_8 [1,3,4,5,6]) (.cond (.t 6) (.skip) (.g r14_9 [1,3,4,5,6]))))))))))) (.cond (.t 6) (.seq (.g r14_10 [2]) (.ret)) (.seq (.g r14_11 [3,4,5,14]) (.cond (.t 14) (.seq (.g r14_12 [2]) (.ret)) (.seq (.g r14_13 [3,4,5,18]) (.cond (.t 18) (.seq (.g r14_14 [2]) (.ret)) (.seq (.g r14_15 [3,4,5,22]) (.cond (.t 22) (.seq (.g r14_16 [2]) (.ret)) (.seq (.g r14_17 [3,4,5,26]) (.cond (.t 26) (.seq (.g r14_18 [2]) (.ret)) (.seq (.g r14_19 [3,4,5,30]) (.cond (.t 30) (.seq (.g r14_20 [2]) (.ret)) (.seq (.g r14_21 [3,4,5,34]) (.cond (.t 34) (.seq (.g r14_22 [2]) (.ret)) (.seq (.g r14_23 [4,5,38]) (.cond (.t 38) (.seq (.g r14_24 [2]) (.ret)) (.seq (.g r14_25 [4,5,42]) (.cond (.t 42) (.seq (.g r14_26 [2]) (.ret)) (.seq (.g r14_27 [46]) (.cond (.t 46) (.seq (.g r14_28 [2]) (.ret)) (.skip))))))))))))))))))))))) (.seq (.g r14_29 [2]) (.ret))))))⟩
theorem c14:cfunc Tryz.prog (kof k14) Tryz.f14=some f14:=by kernel_rfl
abbrev r16_0:LA:=[zA 2 27 [],oo 3 (.alloc 28 (.int .i64 0)) []]
abbrev r16_1:LA:=[oo 4 (.mkfn (.func 52) [] [(.t 2),(.t 3)]) [],on (.dfr (.t 4) []) [0]]
abbrev r16_2:LA:=[zm 5 0 [],oo 6 (.callV (.t 5) []) [0],zk 7 53 6 [1,1],zs 5 2 7 [2,2,0,1,2],on (.store 1 (.t 3) (.c (.int .i64 0))) [3,0,1,2,3]]
def k16:List (List Nat):=[[0,2,3],[0,2,3],[2,3]]
def f16:AFunc:=⟨8,[.cell 2 (some 5),.cell 3 none],(.seq (.g r16_0 [0,2,3]) (.seq (.g r16_1 [0,2,3]) (.seq (.g r16_2 [2,3]) (.ret))))⟩
theorem c16:cfunc Tryz.prog (kof k16) Tryz.f16=some f16:=by kernel_rfl
abbrev r17_0:LA:=[zA 2 27 []]
abbrev r17_1:LA:=[zl 3 0 [],zl 4 1 [],oo 5 (.callV (.t 3) [(.t 4)]) [0,1],zs 5 2 5 [2,2,0,1,2]]
def k17:List (List Nat):=[[0,1,2],[2]]
def f17:AFunc:=⟨6,[.cell 2 (some 5)],(.seq (.g r17_0 [0,1,2]) (.seq (.g r17_1 [2]) (.ret)))⟩
theorem c17:cfunc Tryz.prog (kof k17) Tryz.f17=some f17:=by kernel_rfl
abbrev r27_0:LA:=[oo 4 (.alloc 55 (.agg [.int .i64 0,.bool false,.nilf])) [],oo 5 (.mv (.c (.bool false))) []]
abbrev r27_1:LA:=[zm 8 0 [],zk 9 68 8 [0],zL 10 1 9 [1],zi 11 0 []]
abbrev r27_2:LA:=[oo 12 (.bin .lss (.t 11) (.t 10)) []]
abbrev r27_3:LA:=[zd 13 3 9 11 [],zr 14 3 13 [0],oo 7 (.alloc 55 (.agg [.int .i64 0,.bool false,.nilf])) [],zs 3 7 14 [2,1,0,1,2]]
abbrev r27_4:LA:=[zf 15 0 7 [],zl 16 15 [0],zm 17 1 [],oo 18 (.bin .eql (.t 16) (.t 17)) [1,2]]
abbrev r27_5:LA:=[zr 19 3 7 [],zs 3 4 19 [0,0],oo 5 (.mv (.c (.bool true))) [1,0,1]]
abbrev r27_6:LA:=[za 20 11 1 [],zm 11 20 [0]]
def l27_0:ACode:=.seq (.g r27_2 [1,4,9,10,11,12]) (.seq (.cond (.t 12) (.skip) (.exit 0)) (.seq (.block 1 (.seq (.g r27_3 [1,4,7,9,10,11]) (.seq (.g r27_4 [1,4,7,9,10,11,18]) (.cond (.t 18) (.seq (.g r27_5 [4,5]) (.ret)) (.skip))))) (.g r27_6 [1,4,9,10,11])))
abbrev r27_7:LA:=[oo 21 (.build [.int .i64 0,.bool false,.nilf] []) [],zs 3 4 21 [0,0],oo 5 (.mv (.c (.bool false))) [1,0,1]]
def k27:List (List Nat):=[[0,1,4],[1,4,9,10,11],[1,4,9,10,11,12],[1,4,7,9,10,11],[1,4,7,9,10,11,18],[4,5],[1,4,9,10,11],[4,5]]
def f27:AFunc:=⟨22,[.cell 4 (some 3),.tmp 5],(.seq (.g r27_0 [0,1,4]) (.seq (.seq (.g r27_1 [1,4,9,10,11]) (.block 0 (.loop l27_0))) (.seq (.g r27_7 [4,5]) (.ret))))⟩
theorem c27:cfunc Tryz.prog (kof k27) Tryz.f27=some f27:=by kernel_rfl
abbrev r28_0:LA:=[zA 3 27 []]
abbrev r28_1:LA:=[zf 4 2 0 [],zl 5 4 [0],zl 6 1 [],zl 7 2 [],oo 8 (.build [.nils,.nilf] [(0,1,(.t 6)),(1,1,(.t 7))]) [2,3],oo 9 (.box 42 (.t 8)) [4],oo 10 (.callV (.t 5) [(.t 9)]) [1,5],zs 5 3 10 [6,6,0,1,2,3,4,5,6]]
def k28:List (List Nat):=[[0,1,2,3],[3]]
def f28:AFunc:=⟨11,[.cell 3 (some 5)],(.seq (.g r28_0 [0,1,2,3]) (.seq (.g r28_1 [3]) (.ret)))⟩
theorem c28:cfunc Tryz.prog (kof k28) Tryz.f28=some f28:=by kernel_rfl
abbrev r30_0:LA:=[oo 1 (.box 58 (.t 0)) [],oo 2 (.mv (.c (.nilf))) []]
abbrev r30_1:LA:=[oo 3 (.mkfn (.func 31) [] [(.t 1)]) [],zm 2 3 [0,0]]
def k30:List (List Nat):=[[1],[2]]
def f30:AFunc:=⟨4,[.tmp 2],(.seq (.g r30_0 [1]) (.seq (.g r30_1 [2]) (.ret)))⟩
theorem c30:cfunc Tryz.prog (kof k30) Tryz.f30=some f30:=by kernel_rfl
abbrev r31_0:LA:=[zA 3 27 []]
abbrev r31_1:LA:=[zm 7 0 [],zn 8 7 [0],zf 9 0 8 [1],zl 10 9 [2],oo 11 (.iaddr 5 (.t 10) (.c (.int .i64 0))) [3],zr 12 5 11 [4],zm 13 0 [],zn 14 13 [6],zf 15 0 14 [7],zl 16 15 [8],oo 17 (.iaddr 5 (.t 16) (.c (.int .i64 1))) [9],zr 18 5 17 [10],zq 19 32 12 18 [5,11],zm 6 19 [12],zx 20 6 0 [13],zx 21 6 1 [13],zm 4 20 [14,12,0,1,2,3,4,5,6,7,8,9,10,11,12,13,14],zm 5 21 [15,16,0,1,2,3,4,5,6,7,8,9,10,11,12,13,14,15,16]]
abbrev r31_2:LA:=[zl 22 1 [],zm 23 4 [],oo 24 (.callV (.t 22) [(.t 23)]) [0,1],zk 25 33 24 [2,2],zs 5 3 25 [3,3,0,1,2,3]]
def m31_1:List Nat:=[0,1,3,7,15,31,0,64,192,448,960,1984,4095,8191,16383,16383,32767,131071]
theorem d31_1:okDraw r31_1 m31_1=true:=by kernel_rfl
def k31:List (List Nat):=[[0,1,3],[1,3,4],[3]]
def f31:AFunc:=⟨26,[.cell 3 (some 5)],(.seq (.g r31_0 [0,1,3]) (.seq (.region true r31_1 [1,3,4]) (.seq (.g r31_2 [3]) (.ret))))⟩
theorem c31:cfunc Tryz.prog (kof k31) Tryz.f31=some f31:=by kernel_rfl
abbrev r32_0:LA:=[oo 2 (.box 27 (.t 0)) [],oo 3 (.box 27 (.t 1)) [],zi 4 0 [],zi 5 0 [2]]
abbrev r32_1:LA:=[zr 7 5 2 [],zr 8 5 3 [],zq 9 71 7 8 [0,1],zm 6 9 [2,2,0,1,2]]
abbrev r32_2:LA:=[zm 10 6 [],oo 11 (.bin .neq (.t 10) (.c (.int .i64 0))) [0]]
abbrev r32_3:LA:=[zm 12 6 [],zi 4 0 [],zm 5 12 [0,1,0,1]]
abbrev r32_4:LA:=[zr 13 5 2 [],zr 14 5 3 [],zq 15 72 13 14 [0,1],zm 4 15 [2,2,0,1,2],zi 5 0 [3,0,1,2,3]]
def k32:List (List Nat):=[[2,3],[2,3,6],[2,3,6,11],[4,5],[4,5]]
def f32:AFunc:=⟨16,[.tmp 4,.tmp 5],(.seq (.g r32_0 [2,3]) (.seq (.seq (.g r32_1 [2,3,6]) (.seq (.g r32_2 [2,3,6,11]) (.cond (.t 11) (.seq (.g r32_3 [4,5]) (.ret)) (.skip)))) (.seq (.g r32_4 [4,5]) (.ret))))⟩
theorem c32:cfunc Tryz.prog (kof k32) Tryz.f32=some f32:=by kernel_rfl
abbrev r33_0:LA:=[zA 2 27 []]
abbrev r33_1:LA:=[zm 3 0 []]
abbrev r33_2:LA:=[oo 4 (.callF 73 [(.c (.str ⟨#[116,114,117,101]⟩))]) [],zs 5 2 4 [0,0,0]]
abbrev r33_3:LA:=[oo 5 (.callF 73 [(.c (.str ⟨#[102,97,108,115,101]⟩))]) [],zs 5 2 5 [0,0,0]]
def k33:List (List Nat):=[[0,2],[2,3],[2],[2]]
def f33:AFunc:=⟨6,[.cell 2 (some 5)],(.seq (.g r33_0 [0,2]) (.seq (.seq (.g r33_1 [2,3]) (.cond (.t 3) (.seq (.g r33_2 [2]) (.ret)) (.skip))) (.seq (.g r33_3 [2]) (.ret))))⟩
theorem c33:cfunc Tryz.prog (kof k33) Tryz.f33=some f33:=by kernel_rfl
abbrev r34_0:LA:=[oo 1 (.box 4 (.t 0)) [],oo 2 (.mv (.c (.nilf))) []]
abbrev r34_1:LA:=[oo 3 (.mkfn (.func 35) [] [(.t 1)]) [],zm 2 3 [0,0]]
def k34:List (List Nat):=[[1],[2]]
def f34:AFunc:=⟨4,[.tmp 2],(.seq (.g r34_0 [1]) (.seq (.g r34_1 [2]) (.ret)))⟩
theorem c34:cfunc Tryz.prog (kof k34) Tryz.f34=some f34:=by kernel_rfl
abbrev r35_0:LA:=[zA 3 27 []]
abbrev r35_1:LA:=[zm 7 0 [],zn 8 7 [0],zf 9 0 8 [1],zl 10 9 [2],oo 11 (.iaddr 5 (.t 10) (.c (.int .i64 0))) [3],zr 12 5 11 [4],zm 13 0 [],zn 14 13 [6],zf 15 0 14 [7],zl 16 15 [8],oo 17 (.iaddr 5 (.t 16) (.c (.int .i64 1))) [9],zr 18 5 17 [10],zq 19 36 12 18 [5,11],zm 6 19 [12],zx 20 6 0 [13],zx 21 6 1 [13],zm 4 20 [14,12,0,1,2,3,4,5,6,7,8,9,10,11,12,13,14],zm 5 21 [15,16,0,1,2,3,4,5,6,7,8,9,10,11,12,13,14,15,16]]
abbrev r35_2:LA:=[zm 22 4 [],zl 23 1 [],oo 24 (.eqB false (.t 22) (.t 23)) [0,1],zk 25 33 24 [2],zs 5 3 25 [3,3,0,1,2,3]]
def m35_1:List Nat:=[0,1,3,7,15,31,0,64,192,448,960,1984,4095,8191,16383,16383,32767,131071]
theorem d35_1:okDraw r35_1 m35_1=true:=by kernel_rfl
def k35:List (List Nat):=[[0,1,3],[1,3,4],[3]]
def f35:AFunc:=⟨26,[.cell 3 (some 5)],(.seq (.g r35_0 [0,1,3]) (.seq (.region true r35_1 [1,3,4]) (.seq (.g r35_2 [3]) (.ret))))⟩
theorem c35:cfunc Tryz.prog (kof k35) Tryz.f35=some f35:=by kernel_rfl
abbrev r36_0:LA:=[oo 2 (.box 27 (.t 0)) [],oo 3 (.box 27 (.t 1)) [],oo 4 (.mv (.c (.bool false))) [],zi 5 0 [2]]
abbrev r36_1:LA:=[zr 7 5 2 [],zr 8 5 3 [],zq 9 71 7 8 [0,1],zm 6 9 [2,2,0,1,2]]
abbrev r36_2:LA:=[zm 10 6 [],oo 11 (.bin .neq (.t 10) (.c (.int .i64 0))) [0]]
abbrev r36_3:LA:=[zm 12 6 [],oo 4 (.mv (.c (.bool false))) [],zm 5 12 [0,1,0,1]]
abbrev r36_4:LA:=[zr 13 5 2 [],zr 14 5 3 [],zq 15 74 13 14 [0,1],zm 4 15 [2,2,0,1,2],zi 5 0 [3,0,1,2,3]]
def k36:List (List Nat):=[[2,3],[2,3,6],[2,3,6,11],[4,5],[4,5]]
def f36:AFunc:=⟨16,[.tmp 4,.tmp 5],(.seq (.g r36_0 [2,3]) (.seq (.seq (.g r36_1 [2,3,6]) (.seq (.g r36_2 [2,3,6,11]) (.cond (.t 11) (.seq (.g r36_3 [4,5]) (.ret)) (.skip)))) (.seq (.g r36_4 [4,5]) (.ret))))⟩
theorem c36:cfunc Tryz.prog (kof k36) Tryz.f36=some f36:=by kernel_rfl
abbrev r40_0:LA:=[oo 2 (.mv (.c (.bool false))) []]
abbrev r40_1:LA:=[zm 3 0 [],ze 4 3 0 [0],zm 2 4 [1,0,1]]
def k40:List (List Nat):=[[0],[2]]
def f40:AFunc:=⟨5,[.tmp 2],(.seq (.g r40_0 [0]) (.seq (.g r40_1 [2]) (.ret)))⟩
theorem c40:cfunc Tryz.prog (kof k40) Tryz.f40=some f40:=by kernel_rfl
abbrev r50_0:LA:=[zA 6 27 []]
abbrev r50_1:LA:=[zm 7 0 [],zn 8 7 [0],zf 9 0 8 [1],zl 10 9 [2],zm 11 1 [],zd 12 5 10 11 [3,4],zf 13 0 12 [5],zl 14 13 [6],zm 15 2 [],oo 16 (.bin .neq (.t 14) (.t 15)) [7,8]]
abbrev r50_2:LA:=[oo 17 (.callF 51 []) [],zs 5 6 17 [0,0,0]]
abbrev r50_3:LA:=[zm 18 0 [],zn 19 18 [0],zf 20 0 19 [1],zl 21 20 [2],zm 22 1 [],zd 23 5 21 22 [3,4],zr 24 5 23 [5],zs 5 6 24 [6,0,1,2,3,4,5,6]]
def k50:List (List Nat):=[[0,1,2,6],[0,1,6,16],[6],[6]]
def f50:AFunc:=⟨25,[.cell 6 (some 5)],(.seq (.g r50_0 [0,1,2,6]) (.seq (.seq (.g r50_1 [0,1,6,16]) (.cond (.t 16) (.seq (.g r50_2 [6]) (.ret)) (.skip))) (.seq (.g r50_3 [6]) (.ret))))⟩
theorem c50:cfunc Tryz.prog (kof k50) Tryz.f50=some f50:=by kernel_rfl
abbrev r51_0:LA:=[zA 0 27 []]
abbrev r51_1:LA:=[oo 1 (.mkifc 28 (.c (.int .i64 13))) [],on (.pan (.t 1)) [0]]
def k51:List (List Nat):=[[0],[0]]
def f51:AFunc:=⟨2,[.cell 0 (some 5)],(.seq (.g r51_0 [0]) (.g r51_1 [0]))⟩
theorem c51:cfunc Tryz.prog (kof k51) Tryz.f51=some f51:=by kernel_rfl
abbrev r52_0:LA:=[oo 5 (.recov) []]
abbrev r52_3:LA:=[oo 7 (.eqN 4 false (.t 5) (.c (.nili))) []]
abbrev r52_4:LA:=[zm 2 5 []]
abbrev r52_5:LA:=[oo 8 (.tassert 28 (.int .i64 0) true (.t 5)) [],zx 9 8 1 [0],zx 10 8 0 [0]]
abbrev r52_6:LA:=[zm 3 10 []]
abbrev r52_7:LA:=[zB 11 [] [],zm 12 3 [],zs 5 0 11 [0,0],zs 1 1 12 [1,2,0,1,2]]
abbrev r52_1:LA:=[zm 4 5 []]
abbrev r52_2:LA:=[zm 6 4 [],on (.pan (.t 6)) [0]]
def k52:List (List Nat):=[[0,1,5],[4],[],[0,1,5,7],[],[0,1,5,9,10],[0,1,3],[]]
def f52:AFunc:=⟨13,[],(.seq (.g r52_0 [0,1,5]) (.block 0 (.seq (.g r52_3 [0,1,5,7]) (.cond (.t 7) (.g r52_4 []) (.seq (.g r52_5 [0,1,5,9,10]) (.cond (.t 9) (.seq (.g r52_6 [0,1,3]) (.g r52_7 [])) (.seq (.g r52_1 [4]) (.g r52_2 []))))))))⟩
theorem c52:cfunc Tryz.prog (kof k52) Tryz.f52=some f52:=by kernel_rfl
abbrev r53_0:LA:=[oo 1 (.box 27 (.t 0)) [],zA 2 27 []]
abbrev r53_1:LA:=[zf 3 4 1 [],zl 4 3 [0],zk 5 85 4 [1],zf 6 4 1 [0,1,2],zs 1 6 5 [3,2,2,0,1,2]]
abbrev r53_2:LA:=[zr 7 5 1 [],zs 5 2 7 [0,0]]
def k53:List (List Nat):=[[1,2],[1,2],[2]]
def f53:AFunc:=⟨8,[.cell 2 (some 5)],(.seq (.g r53_0 [1,2]) (.seq (.g r53_1 [1,2]) (.seq (.g r53_2 [2]) (.ret))))⟩
theorem c53:cfunc Tryz.prog (kof k53) Tryz.f53=some f53:=by kernel_rfl
abbrev r68_0:LA:=[oo 1 (.box 9 (.t 0)) [],oo 2 (.mv (.c (.nils))) []]
abbrev r68_1:LA:=[zl 4 1 []]
abbrev r68_2:LA:=[oo 6 (.bin .eql (.t 4) (.c (.str ⟨#[97,98,115]⟩))) [],zm 5 6 [0]]
abbrev r68_3:LA:=[oo 7 (.build [.int .i64 0,.bool false,.nilf] [(0,1,(.c (.int .i64 1))),(1,1,(.c (.bool true))),(2,1,(.c (.fn (.func 93) [] [])))]) [],oo 8 (.bslice 55 1 [.int .i64 0,.bool false,.nilf] [(0,3,(.t 7))]) [0],zm 2 8 [1,0,1]]
abbrev r68_4:LA:=[oo 10 (.bin .eql (.t 4) (.c (.str ⟨#[102,108,111,97,116]⟩))) [],zm 9 10 [0]]
abbrev r68_5:LA:=[oo 11 (.build [.int .i64 0,.bool false,.nilf] [(0,1,(.c (.int .i64 1))),(1,1,(.c (.bool true))),(2,1,(.c (.fn (.func 94) [] [])))]) [],oo 12 (.bslice 55 1 [.int .i64 0,.bool false,.nilf] [(0,3,(.t 11))]) [0],zm 2 12 [1,0,1]]
abbrev r68_6:LA:=[oo 14 (.bin .eql (.t 4) (.c (.str ⟨#[116,114,117,110,99]⟩))) [],zm 13 14 [0]]
abbrev r68_7:LA:=[oo 15 (.bin .eql (.t 4) (.c (.str ⟨#[114,111,117,110,100]⟩))) [],zm 13 15 [0]]
abbrev r68_8:LA:=[oo 16 (.bin .eql (.t 4) (.c (.str ⟨#[102,108,111,111,114]⟩))) [],zm 13 16 [0]]
abbrev r68_9:LA:=[oo 17 (.bin .eql (.t 4) (.c (.str ⟨#[99,101,105,108]⟩))) [],zm 13 17 [0]]
abbrev r68_10:LA:=[oo 18 (.mkfn (.func 95) [] [(.t 1)]) [],oo 19 (.build [.int .i64 0,.bool false,.nilf] [(0,1,(.c (.int .i64 1))),(1,1,(.c (.bool true))),(2,1,(.t 18))]) [0],oo 20 (.bslice 55 1 [.int .i64 0,.bool false,.nilf] [(0,3,(.t 19))]) [1],zm 2 20 [2,0,1,2]]
abbrev r68_11:LA:=[oo 22 (.bin .eql (.t 4) (.c (.str ⟨#[104,100]⟩))) [],zm 21 22 [0]]
abbrev r68_12:LA:=[oo 23 (.build [.int .i64 0,.bool false,.nilf] [(0,1,(.c (.int .i64 1))),(1,1,(.c (.bool true))),(2,1,(.c (.fn (.func 97) [] [])))]) [],oo 24 (.bslice 55 1 [.int .i64 0,.bool false,.nilf] [(0,3,(.t 23))]) [0],zm 2 24 [1,0,1]]
abbrev r68_13:LA:=[oo 26 (.bin .eql (.t 4) (.c (.str ⟨#[116,108]⟩))) [],zm 25 26 [0]]
abbrev r68_14:LA:=[oo 27 (.build [.int .i64 0,.bool false,.nilf] [(0,1,(.c (.int .i64 1))),(1,1,(.c (.bool true))),(2,1,(.c (.fn (.func 98) [] [])))]) [],oo 28 (.bslice 55 1 [.int .i64 0,.bool false,.nilf] [(0,3,(.t 27))]) [0],zm 2 28 [1,0,1]]
abbrev r68_15:LA:=[oo 30 (.bin .eql (.t 4) (.c (.str ⟨#[108,101,110,103,116,104]⟩))) [],zm 29 30 [0]]
abbrev r68_16:LA:=[oo 31 (.build [.int .i64 0,.bool false,.nilf] [(0,1,(.c (.int .i64 1))),(1,1,(.c (.bool true))),(2,1,(.c (.fn (.func 99) [] [])))]) [],oo 32 (.bslice 55 1 [.int .i64 0,.bool false,.nilf] [(0,3,(.t 31))]) [0],zm 2 32 [1,0,1]]
abbrev r68_17:LA:=[oo 34 (.bin .eql (.t 4) (.c (.str ⟨#[116,117,112,108,101,95,115,105,122,101]⟩))) [],zm 33 34 [0]]
abbrev r68_18:LA:=[oo 35 (.build [.int .i64 0,.bool false,.nilf] [(0,1,(.c (.int .i64 1))),(1,1,(.c (.bool true))),(2,1,(.c (.fn (.func 100) [] [])))]) [],oo 36 (.bslice 55 1 [.int .i64 0,.bool false,.nilf] [(0,3,(.t 35))]) [0],zm 2 36 [1,0,1]]
abbrev r68_19:LA:=[oo 38 (.bin .eql (.t 4) (.c (.str ⟨#[101,108,101,109,101,110,116]⟩))) [],zm 37 38 [0]]
abbrev r68_20:LA:=[oo 39 (.build [.int .i64 0,.bool false,.nilf] [(0,1,(.c (.int .i64 2))),(1,1,(.c (.bool true))),(2,1,(.c (.fn (.func 101) [] [])))]) [],oo 40 (.bslice 55 1 [.int .i64 0,.bool false,.nilf] [(0,3,(.t 39))]) [0],zm 2 40 [1,0,1]]
abbrev r68_21:LA:=[oo 42 (.bin .eql (.t 4) (.c (.str ⟨#[105,115,95,102,117,110,99,116,105,111,110]⟩))) [],zm 41 42 [0]]
abbrev r68_22:LA:=[oo 43 (.build [.int .i64 0,.bool false,.nilf] [(0,1,(.c (.int .i64 1))),(1,1,(.c (.bool true))),(2,1,(.c (.fn (.func 102) [] [])))]) [],oo 44 (.build [.int .i64 0,.bool false,.nilf] [(0,1,(.c (.int .i64 2))),(1,1,(.c (.bool true))),(2,1,(.c (.fn (.func 103) [] [])))]) [],oo 45 (.bslice 55 2 [.int .i64 0,.bool false,.nilf,.int .i64 0,.bool false,.nilf] [(0,3,(.t 43)),(3,3,(.t 44))]) [0,1],zm 2 45 [2,0,1,2]]
abbrev r68_23:LA:=[oo 47 (.bin .eql (.t 4) (.c (.str ⟨#[109,105,110]⟩))) [],zm 46 47 [0]]
abbrev r68_24:LA:=[oo 48 (.build [.int .i64 0,.bool false,.nilf] [(0,1,(.c (.int .i64 2))),(1,1,(.c (.bool true))),(2,1,(.c (.fn (.func 104) [] [])))]) [],oo 49 (.bslice 55 1 [.int .i64 0,.bool false,.nilf] [(0,3,(.t 48))]) [0],zm 2 49 [1,0,1]]
abbrev r68_25:LA:=[oo 51 (.bin .eql (.t 4) (.c (.str ⟨#[109,97,120]⟩))) [],zm 50 51 [0]]
abbrev r68_26:LA:=[oo 52 (.build [.int .i64 0,.bool false,.nilf] [(0,1,(.c (.int .i64 2))),(1,1,(.c (.bool true))),(2,1,(.c (.fn (.func 105) [] [])))]) [],oo 53 (.bslice 55 1 [.int .i64 0,.bool false,.nilf] [(0,3,(.t 52))]) [0],zm 2 53 [1,0,1]]
abbrev r68_27:LA:=[zl 54 1 [],zk 55 106 54 [0],oo 3 (.alloc 39 (.nilf)) [],zs 1 3 55 [2,1,1,0,1,2]]
abbrev r68_28:LA:=[zl 56 3 [],oo 57 (.eqN 3 true (.t 56) (.c (.nilf))) [0]]
abbrev r68_29:LA:=[oo 58 (.mkfn (.func 107) [] [(.t 3)]) [],oo 59 (.build [.int .i64 0,.bool false,.nilf] [(0,1,(.c (.int .i64 1))),(1,1,(.c (.bool true))),(2,1,(.t 58))]) [0],oo 60 (.bslice 55 1 [.int .i64 0,.bool false,.nilf] [(0,3,(.t 59))]) [1],zm 2 60 [2,0,1,2]]
abbrev r68_30:LA:=[zl 61 1 [],zk 62 108 61 [0],zm 2 62 [1,1,0,1]]
def k68:List (List Nat):=[[1],[1,4],[1,4,5],[2],[1,4,9],[2],[1,4,13],[1,4,13],[1,4,13],[1,4,13],[2],[1,4,21],[2],[1,4,25],[2],[1,4,29],[2],[1,4,33],[2],[1,4,37],[2],[1,4,41],[2],[1,4,46],[2],[1,50],[2],[1,3],[1,3,57],[2],[2]]
def f68:AFunc:=⟨63,[.tmp 2],(.seq (.g r68_0 [1]) (.seq (.seq (.g r68_1 [1,4]) (.block 0 (.seq (.g r68_2 [1,4,5]) (.cond (.t 5) (.seq (.g r68_3 [2]) (.ret)) (.seq (.g r68_4 [1,4,9]) (.cond (.t 9) (.seq (.g r68_5 [2]) (.ret)) (.seq (.seq (.g r68_6 [1,4,13]) (.cond (.t 13) (.skip) (.seq (.g r68_7 [1,4,13]) (.cond (.t 13) (.skip) (.seq (.g r68_8 [1,4,13]) (.cond (.t 13) (.skip) (.g r68_9 [1,4,13]))))))) (.cond (.t 13) (.seq (.g r68_10 [2]) (.ret)) (.seq (.g r68_11 [1,4,21]) (.cond (.t 21) (.seq (.g r68_12 [2]) (.ret)) (.seq (.g r68_13 [1,4,25]) (.cond (.t 25) (.seq (.g r68_14 [2]) (.ret)) (.seq (.g r68_15 [1,4,29]) (.cond (.t 29) (.seq (.g r68_16 [2]) (.ret)) (.seq (.g r68_17 [1,4,33]) (.cond (.t 33) (.seq (.g r68_18 [2]) (.ret)) (.seq (.g r68_19 [1,4,37]) (.cond (.t 37) (.seq (.g r68_20 [2]) (.ret)) (.seq (.g r68_21 [1,4,41]) (.cond (.t 41) (.seq (.g r68_22 [2]) (.ret)) (.seq (.g r68_23 [1,4,46]) (.cond (.t 46) (.seq (.g r68_24 [2]) (.ret)) (.seq (.g r68_25 [1,50]) (.cond (.t 50) (.seq (.g r68_26 [2]) (.ret)) (.skip))))))))))))))))))))))))) (.seq (.seq (.g r68_27 [1,3]) (.seq (.g r68_28 [1,3,57]) (.cond (.t 57) (.seq (.g r68_29 [2]) (.ret)) (.skip)))) (.seq (.g r68_30 [2]) (.ret)))))⟩
theorem c68:cfunc Tryz.prog (kof k68) Tryz.f68=some f68:=by kernel_rfl
abbrev r71_0:LA:=[oo 2 (.box 27 (.t 0)) [],oo 3 (.box 27 (.t 1)) [],zi 4 0 []]
abbrev r71_1:LA:=[zr 6 5 2 [],zk 7 111 6 [0],zm 5 7 [1,1,0,1]]
abbrev r71_2:LA:=[zm 8 5 [],oo 9 (.bin .neq (.t 8) (.c (.int .i64 0))) [0]]
abbrev r71_3:LA:=[zm 10 5 [],zm 4 10 [0,0]]
abbrev r71_4:LA:=[zr 11 5 3 [],zk 12 111 11 [0],zm 4 12 [1,1,0,1]]
def k71:List (List Nat):=[[2,3],[3,5],[3,5,9],[4],[4]]
def f71:AFunc:=⟨13,[.tmp 4],(.seq (.g r71_0 [2,3]) (.seq (.seq (.g r71_1 [3,5]) (.seq (.g r71_2 [3,5,9]) (.cond (.t 9) (.seq (.g r71_3 [4]) (.ret)) (.skip)))) (.seq (.g r71_4 [4]) (.ret))))⟩
theorem c71:cfunc Tryz.prog (kof k71) Tryz.f71=some f71:=by kernel_rfl
abbrev r72_0:LA:=[oo 2 (.box 27 (.t 0)) [],oo 3 (.box 27 (.t 1)) [],zi 4 0 []]
abbrev r72_1:LA:=[zf 8 0 2 [],zl 9 8 [0],zk 10 112 9 [1],zf 11 0 3 [],zl 12 11 [3],zk 13 112 12 [4,2],oo 14 (.bin .sub (.t 10) (.t 13)) [2,5],zm 5 14 [6,5,0,1,2,3,4,5,6]]
abbrev r72_2:LA:=[zm 15 5 [],oo 16 (.bin .neq (.t 15) (.c (.int .i64 0))) [0]]
abbrev r72_3:LA:=[zm 17 5 [],oo 18 (.callF 113 [(.t 17),(.c (.int .i64 0))]) [0],zm 4 18 [1,1,0,1]]
abbrev r72_4:LA:=[zf 19 0 2 [],zl 20 19 [0]]
abbrev r72_5:LA:=[ze 22 20 1 [],zm 21 22 [0]]
abbrev r72_6:LA:=[ze 23 20 2 [],zm 21 23 [0]]
abbrev r72_7:LA:=[zr 24 5 2 [],zr 25 5 3 [],zq 26 114 24 25 [0,1],zm 4 26 [2,2,0,1,2]]
abbrev r72_8:LA:=[ze 28 20 3 [],zm 27 28 [0]]
abbrev r72_9:LA:=[zf 29 3 2 [],zl 30 29 [0],zf 31 3 3 [],zl 32 31 [2],zq 33 115 30 32 [1,3],zm 4 33 [4,4,0,1,2,3,4]]
abbrev r72_10:LA:=[ze 35 20 4 [],zm 34 35 [0]]
abbrev r72_11:LA:=[ze 36 20 6 [],zm 34 36 [0]]
abbrev r72_12:LA:=[zf 37 1 2 [],zl 38 37 [0],zf 39 1 3 [],zl 40 39 [2],zq 41 113 38 40 [1,3],zm 4 41 [4,4,0,1,2,3,4]]
abbrev r72_13:LA:=[ze 43 20 5 [],zm 42 43 [0]]
abbrev r72_14:LA:=[zf 44 1 2 [],zl 45 44 [0],zf 46 1 3 [],zl 47 46 [2],zq 48 113 45 47 [1,3],zm 6 48 [4,4,0,1,2,3,4]]
abbrev r72_15:LA:=[zm 49 6 [],oo 50 (.bin .neq (.t 49) (.c (.int .i64 0))) [0]]
abbrev r72_16:LA:=[zm 51 6 [],zm 4 51 [0,0]]
abbrev r72_17:LA:=[ze 53 20 7 [],zm 52 53 [0]]
abbrev r72_18:LA:=[zf 54 4 2 [],zl 55 54 [0],zL 56 1 55 [1],zf 57 4 3 [],zl 58 57 [3],zL 59 1 58 [4],zq 60 113 56 59 [2,5],zm 7 60 [6,6,0,1,2,3,4,5,6]]
abbrev r72_19:LA:=[zm 61 7 [],oo 62 (.bin .neq (.t 61) (.c (.int .i64 0))) [0]]
abbrev r72_20:LA:=[zm 63 7 [],zm 4 63 [0,0]]
abbrev r72_21:LA:=[zf 64 4 2 [],zl 65 64 [0],zf 66 4 3 [],zl 67 66 [2],zq 68 116 65 67 [1,3],zm 4 68 [4,4,0,1,2,3,4]]
def m72_1:List Nat:=[0,1,3,0,8,31,63,127]
theorem d72_1:okDraw r72_1 m72_1=true:=by kernel_rfl
def k72:List (List Nat):=[[2,3],[2,3,5],[2,3,5,16],[4],[2,3,20],[2,3,20,21],[2,3,20,21],[4],[2,3,20,27],[4],[2,3,20,34],[2,3,20,34],[4],[2,3,20,42],[2,3,6],[2,3,6,50],[4],[2,3,52],[2,3,7],[2,3,7,62],[4],[4]]
def f72:AFunc:=⟨69,[.tmp 4],(.seq (.g r72_0 [2,3]) (.seq (.seq (.region true r72_1 [2,3,5]) (.seq (.g r72_2 [2,3,5,16]) (.cond (.t 16) (.seq (.g r72_3 [4]) (.ret)) (.skip)))) (.seq (.seq (.g r72_4 [2,3,20]) (.block 0 (.seq (.seq (.g r72_5 [2,3,20,21]) (.cond (.t 21) (.skip) (.g r72_6 [2,3,20,21]))) (.cond (.t 21) (.seq (.g r72_7 [4]) (.ret)) (.seq (.g r72_8 [2,3,20,27]) (.cond (.t 27) (.seq (.g r72_9 [4]) (.ret)) (.seq (.seq (.g r72_10 [2,3,20,34]) (.cond (.t 34) (.skip) (.g r72_11 [2,3,20,34]))) (.cond (.t 34) (.seq (.g r72_12 [4]) (.ret)) (.seq (.g r72_13 [2,3,20,42]) (.cond (.t 42) (.seq (.g r72_14 [2,3,6]) (.seq (.g r72_15 [2,3,6,50]) (.cond (.t 50) (.seq (.g r72_16 [4]) (.ret)) (.skip)))) (.seq (.g r72_17 [2,3,52]) (.cond (.t 52) (.seq (.g r72_18 [2,3,7]) (.seq (.g r72_19 [2,3,7,62]) (.cond (.t 62) (.seq (.g r72_20 [4]) (.ret)) (.skip)))) (.skip))))))))))))) (.seq (.g r72_21 [4]) (.ret)))))⟩
theorem c72:cfunc Tryz.prog (kof k72) Tryz.f72=some f72:=by kernel_rfl
abbrev r73_0:LA:=[zA 2 27 []]
abbrev r73_1:LA:=[zm 3 0 [],zB 4 [(0,1,(.c (.int .i64 3))),(3,1,(.t 3))] [0],zs 5 2 4 [1,0,1]]
def k73:List (List Nat):=[[0,2],[2]]
def f73:AFunc:=⟨5,[.cell 2 (some 5)],(.seq (.g r73_0 [0,2]) (.seq (.g r73_1 [2]) (.ret)))⟩
theorem c73:cfunc Tryz.prog (kof k73) Tryz.f73=some f73:=by kernel_rfl
abbrev r74_0:LA:=[oo 2 (.box 27 (.t 0)) [],oo 3 (.box 27 (.t 1)) [],oo 4 (.mv (.c (.bool false))) []]
abbrev r74_1:LA:=[zf 5 0 2 [],zl 6 5 [0],zf 7 0 3 [],zl 8 7 [2],oo 9 (.bin .neq (.t 6) (.t 8)) [1,3]]
abbrev r74_2:LA:=[oo 4 (.mv (.c (.bool false))) []]
abbrev r74_3:LA:=[zf 10 0 2 [],zl 11 10 [0]]
abbrev r74_4:LA:=[ze 13 11 1 [],zm 12 13 [0]]
abbrev r74_5:LA:=[ze 14 11 2 [],zm 12 14 [0]]
abbrev r74_6:LA:=[zr 15 5 2 [],zr 16 5 3 [],zq 17 117 15 16 [0,1],zm 4 17 [2,2,0,1,2]]
abbrev r74_7:LA:=[zf 18 1 2 [],zl 19 18 [0],zf 20 1 3 [],zl 21 20 [2],oo 22 (.bin .eql (.t 19) (.t 21)) [1,3],zm 23 22 [4],yf 24 3 2 23 true [5],yl 25 24 23 true [6,5],yf 26 3 3 23 true [5],yl 27 26 23 true [8,5],og 28 (.bin .eql (.t 25) (.t 27)) 23 true [7,9,5],zp 29 23 28 [5,10],zm 30 29 [11,5],yf 31 4 2 30 true [12],yl 32 31 30 true [13,12],yf 33 4 3 30 true [12],yl 34 33 30 true [15,12],og 35 (.callF 118 [(.t 32),(.t 34),(.c (.fn (.func 74) [] []))]) 30 true [14,16,12,12],zp 36 30 35 [12,17],zm 4 36 [18,17,0,1,2,3,4,5,6,7,8,9,10,11,12,13,14,15,16,17,18]]
def k74:List (List Nat):=[[2,3],[2,3,9],[4],[2,3,11],[2,3,11,12],[2,3,12],[4],[4]]
def f74:AFunc:=⟨37,[.tmp 4],(.seq (.g r74_0 [2,3]) (.seq (.seq (.g r74_1 [2,3,9]) (.cond (.t 9) (.seq (.g r74_2 [4]) (.ret)) (.skip))) (.seq (.seq (.g r74_3 [2,3,11]) (.block 0 (.seq (.seq (.g r74_4 [2,3,11,12]) (.cond (.t 12) (.skip) (.g r74_5 [2,3,12]))) (.cond (.t 12) (.seq (.g r74_6 [4]) (.ret)) (.skip))))) (.seq (.g r74_7 [4]) (.ret)))))⟩
theorem c74:cfunc Tryz.prog (kof k74) Tryz.f74=some f74:=by kernel_rfl
abbrev r75_0:LA:=[oo 1 (.box 27 (.t 0)) [],oo 2 (.alloc 83 (.agg [.int .i64 0,.int .i64 0,.int .u64 0])) [],oo 3 (.mv (.c (.bool false))) []]
abbrev r75_1:LA:=[zf 5 0 1 [],zl 6 5 [0],zf 7 1 1 [],zl 8 7 [2],zf 9 2 1 [],zl 10 9 [4],oo 11 (.ext 0 [(.t 10)]) [5],oo 12 (.build [.int .i64 0,.int .i64 0,.int .u64 0] [(0,1,(.t 6)),(1,1,(.t 8)),(2,1,(.t 11))]) [1,3,6],oo 4 (.alloc 83 (.agg [.int .i64 0,.int .i64 0,.int .u64 0])) [],zs 3 4 12 [8,7,6,0,1,2,3,4,5,6,7,8]]
abbrev r75_2:LA:=[zf 13 3 1 [],zl 14 13 [0],oo 15 (.bin .neq (.t 14) (.c (.str ⟨#[]⟩))) [1],zm 16 15 [2],yf 17 4 1 16 false [3],yl 18 17 16 false [4,3],og 19 (.len 1 (.t 18)) 16 false [5,3],og 20 (.bin .gtr (.t 19) (.c (.int .i64 0))) 16 false [6,3],zo 21 16 20 [3,7]]
abbrev r75_3:LA:=[oo 22 (.build [.int .i64 0,.int .i64 0,.int .u64 0] []) [],zs 3 2 22 [0,0],oo 3 (.mv (.c (.bool false))) [1,0,1]]
abbrev r75_4:LA:=[zf 23 0 1 [],zl 24 23 [0]]
abbrev r75_5:LA:=[ze 26 24 1 [],zm 25 26 [0]]
abbrev r75_6:LA:=[zr 27 3 4 [],zf 28 2 4 [],zl 29 28 [1],oo 30 (.bin .eql (.t 29) (.c (.int .u64 0))) [2],zm 31 30 [3],yf 32 1 1 31 true [4],yl 33 32 31 true [5,4],og 34 (.bin .geq (.t 33) (.c (.int .i64 (-576460752303423488)))) 31 true [6,4],zp 35 31 34 [4,7],zm 36 35 [8,4],yf 37 1 1 36 true [9],yl 38 37 36 true [10,9],og 39 (.bin .leq (.t 38) (.c (.int .i64 576460752303423487))) 36 true [11,9],zp 40 36 39 [9,12],zs 3 2 27 [0,9,0],zm 3 40 [13,14,0,1,2,3,4,5,6,7,8,9,10,11,12,13,14]]
abbrev r75_7:LA:=[ze 42 24 2 [],zm 41 42 [0]]
abbrev r75_8:LA:=[zr 43 3 4 [],zf 44 1 1 [],zl 45 44 [1],ze 46 45 0 [2],zm 47 46 [3],yf 48 2 1 47 true [4],yl 49 48 47 true [5,4],og 50 (.callF 119 [(.t 49)]) 47 true [6,4,4],og 51 (.un .not (.t 50)) 47 true [7,4],zp 52 47 51 [4,8],zm 53 52 [9,7],yf 54 2 1 53 true [10],yl 55 54 53 true [11,10],og 56 (.callF 120 [(.t 55),(.c (.int .i64 0))]) 53 true [12,10,10],og 57 (.un .not (.t 56)) 53 true [13,10],zp 58 53 57 [10,14],zs 3 2 43 [0,13,0],zm 3 58 [15,16,0,1,2,3,4,5,6,7,8,9,10,11,12,13,14,15,16]]
abbrev r75_9:LA:=[oo 59 (.build [.int .i64 0,.int .i64 0,.int .u64 0] []) [],zs 3 2 59 [0,0],oo 3 (.mv (.c (.bool false))) [1,0,1]]
def m75_1:List Nat:=[0,1,0,4,0,16,48,127,0,511]
theorem d75_1:okDraw r75_1 m75_1=true:=by kernel_rfl
def m75_6:List Nat:=[0,0,2,6,14,30,62,126,254,510,1022,2046,4094,8190,1023,32767]
theorem d75_6:okDraw r75_6 m75_6=true:=by kernel_rfl
def m75_8:List Nat:=[0,0,2,6,14,30,62,126,254,510,1022,2046,4094,8190,16382,32766,16383,131071]
theorem d75_8:okDraw r75_8 m75_8=true:=by kernel_rfl
def k75:List (List Nat):=[[1,2],[1,2,4],[1,2,4,21],[2,3],[1,2,4,24],[1,2,4,24,25],[2,3],[1,2,4,41],[2,3],[2,3]]
def f75:AFunc:=⟨60,[.cell 2 (some 3),.tmp 3],(.seq (.g r75_0 [1,2]) (.seq (.region true r75_1 [1,2,4]) (.seq (.seq (.g r75_2 [1,2,4,21]) (.cond (.t 21) (.seq (.g r75_3 [2,3]) (.ret)) (.skip))) (.seq (.seq (.g r75_4 [1,2,4,24]) (.block 0 (.seq (.g r75_5 [1,2,4,24,25]) (.cond (.t 25) (.seq (.region true r75_6 [2,3]) (.ret)) (.seq (.g r75_7 [1,2,4,41]) (.cond (.t 41) (.seq (.region true r75_8 [2,3]) (.ret)) (.skip))))))) (.seq (.g r75_9 [2,3]) (.ret))))))⟩
theorem c75:cfunc Tryz.prog (kof k75) Tryz.f75=some f75:=by kernel_rfl
abbrev r80_0:LA:=[oo 1 (.box 83 (.t 0)) [],oo 2 (.mv (.c (.flt .f64 0))) []]
abbrev r80_1:LA:=[zr 3 3 1 [],zk 4 76 3 [0]]
abbrev r80_2:LA:=[zf 5 1 1 [],zl 6 5 [0],zk 7 122 6 [1],zm 2 7 [2,2,0,1,2]]
abbrev r80_3:LA:=[zf 8 2 1 [],zl 9 8 [0],oo 10 (.ext 1 [(.t 9)]) [1],zm 2 10 [2,2,0,1,2]]
def k80:List (List Nat):=[[1],[1,4],[2],[2]]
def f80:AFunc:=⟨11,[.tmp 2],(.seq (.g r80_0 [1]) (.seq (.seq (.g r80_1 [1,4]) (.cond (.t 4) (.seq (.g r80_2 [2]) (.ret)) (.skip))) (.seq (.g r80_3 [2]) (.ret))))⟩
theorem c80:cfunc Tryz.prog (kof k80) Tryz.f80=some f80:=by kernel_rfl
abbrev r83_0:LA:=[zA 2 27 [],zi 3 0 []]
abbrev r83_1:LA:=[zm 4 0 [],oo 5 (.bin .lss (.t 4) (.c (.int .i64 (-576460752303423488)))) [0],zm 6 5 [1],ym 7 0 6 false [2],og 8 (.bin .gtr (.t 7) (.c (.int .i64 576460752303423487))) 6 false [3,2],zo 9 6 8 [2,4]]
abbrev r83_2:LA:=[zB 10 [] [],zs 5 2 10 [0,0],zi 3 12 [1,0,1]]
abbrev r83_3:LA:=[zm 11 0 [],zB 12 [(0,1,(.c (.int .i64 1))),(1,1,(.t 11))] [0],zs 5 2 12 [1,0,1],zi 3 0 [2,0,1,2]]
def k83:List (List Nat):=[[0,2],[0,2,9],[2,3],[2,3]]
def f83:AFunc:=⟨13,[.cell 2 (some 5),.tmp 3],(.seq (.g r83_0 [0,2]) (.seq (.seq (.g r83_1 [0,2,9]) (.cond (.t 9) (.seq (.g r83_2 [2,3]) (.ret)) (.skip))) (.seq (.g r83_3 [2,3]) (.ret))))⟩
theorem c83:cfunc Tryz.prog (kof k83) Tryz.f83=some f83:=by kernel_rfl
abbrev r84_0:LA:=[zA 2 27 [],zi 3 0 []]
abbrev r84_1:LA:=[zm 4 0 [],zk 5 119 4 [0],zm 6 5 [1,1],ym 7 0 6 false [2],og 8 (.callF 120 [(.t 7),(.c (.int .i64 0))]) 6 false [3,2,2],zo 9 6 8 [2,4]]
abbrev r84_2:LA:=[zB 10 [] [],zs 5 2 10 [0,0],zi 3 11 [1,0,1]]
abbrev r84_3:LA:=[zm 11 0 [],zB 12 [(0,1,(.c (.int .i64 2))),(2,1,(.t 11))] [0],zs 5 2 12 [1,0,1],zi 3 0 [2,0,1,2]]
def k84:List (List Nat):=[[0,2],[0,2,9],[2,3],[2,3]]
def f84:AFunc:=⟨13,[.cell 2 (some 5),.tmp 3],(.seq (.g r84_0 [0,2]) (.seq (.seq (.g r84_1 [0,2,9]) (.cond (.t 9) (.seq (.g r84_2 [2,3]) (.ret)) (.skip))) (.seq (.g r84_3 [2,3]) (.ret))))⟩
theorem c84:cfunc Tryz.prog (kof k84) Tryz.f84=some f84:=by kernel_rfl
abbrev r85_0:LA:=[oo 2 (.mv (.c (.nils))) []]
abbrev r85_1:LA:=[oo 3 (.mv (.c (.nils))) []]
abbrev r85_2:LA:=[zm 6 0 [],zL 7 1 6 [0],zi 8 0 []]
abbrev r85_3:LA:=[oo 9 (.bin .lss (.t 8) (.t 7)) []]
abbrev r85_4:LA:=[zd 10 5 6 8 [],zr 11 5 10 [0],zA 5 27 [],zs 5 5 11 [2,1,0,1,2]]
abbrev r85_5:LA:=[zm 12 3 [],zr 13 5 5 [],zk 14 53 13 [1],oo 15 (.bslice 27 1 [.int .i64 0,.int .i64 0,.flt .f64 0,.str ⟨#[]⟩,.nils] [(0,5,(.t 14))]) [2],oo 16 (.app 27 5 64 (.t 12) (.t 15)) [0,3,2],zm 3 16 [4,4,0,1,2,3,4]]
abbrev r85_6:LA:=[za 17 8 1 [],zm 8 17 [0]]
def l85_0:ACode:=.seq (.g r85_3 [3,6,7,8,9]) (.seq (.cond (.t 9) (.skip) (.exit 0)) (.seq (.block 1 (.seq (.g r85_4 [3,5,6,7,8]) (.g r85_5 [3,6,7,8]))) (.g r85_6 [3,6,7,8])))
abbrev r85_7:LA:=[zm 18 3 [],zm 2 18 [0,0]]
def k85:List (List Nat):=[[0],[0,3],[3,6,7,8],[3,6,7,8,9],[3,5,6,7,8],[3,6,7,8],[3,6,7,8],[2]]
def f85:AFunc:=⟨19,[.tmp 2],(.seq (.g r85_0 [0]) (.seq (.g r85_1 [0,3]) (.seq (.seq (.g r85_2 [3,6,7,8]) (.block 0 (.loop l85_0))) (.seq (.g r85_7 [2]) (.ret)))))⟩
theorem c85:cfunc Tryz.prog (kof k85) Tryz.f85=some f85:=by kernel_rfl
abbrev r101_0:LA:=[zA 2 27 []]
abbrev r101_1:LA:=[zm 4 0 [],oo 5 (.callF 50 [(.t 4),(.c (.int .i64 1)),(.c (.int .i64 7))]) [0],oo 6 (.fld 4 none (.t 5)) [1],zm 3 6 [2,1,0,1,2]]
abbrev r101_2:LA:=[zm 7 3 [],zm 8 0 [],zm 9 3 [],zL 10 1 9 [2],zq 11 133 8 10 [1,3],zd 12 5 7 11 [0,4],zr 13 5 12 [5],zs 5 2 13 [6,4,0,1,2,3,4,5,6]]
def k101:List (List Nat):=[[0,2],[0,2,3],[2]]
def f101:AFunc:=⟨14,[.cell 2 (some 5)],(.seq (.g r101_0 [0,2]) (.seq (.g r101_1 [0,2,3]) (.seq (.g r101_2 [2]) (.ret))))⟩
theorem c101:cfunc Tryz.prog (kof k101) Tryz.f101=some f101:=by kernel_rfl
abbrev r106_0:LA:=[oo 2 (.mv (.c (.nilf))) []]
abbrev r106_1:LA:=[oo 3 (.mv (.c (.fn (.func 135) [] []))) []]
abbrev r106_2:LA:=[zm 4 0 []]
abbrev r106_3:LA:=[oo 6 (.bin .eql (.t 4) (.c (.str ⟨#[105,115,95,97,116,111,109]⟩))) [],zm 5 6 [0]]
abbrev r106_4:LA:=[zm 7 3 [],oo 8 (.bslice 3 1 [.int .i64 0] [(0,1,(.c (.int .i64 3)))]) [],oo 9 (.callV (.t 7) [(.t 8)]) [0,1],zm 2 9 [2,2,0,1,2]]
abbrev r106_5:LA:=[oo 11 (.bin .eql (.t 4) (.c (.str ⟨#[105,115,95,105,110,116,101,103,101,114]⟩))) [],zm 10 11 [0]]
abbrev r106_6:LA:=[zm 12 3 [],oo 13 (.bslice 3 1 [.int .i64 0] [(0,1,(.c (.int .i64 1)))]) [],oo 14 (.callV (.t 12) [(.t 13)]) [0,1],zm 2 14 [2,2,0,1,2]]
abbrev r106_7:LA:=[oo 16 (.bin .eql (.t 4) (.c (.str ⟨#[105,115,95,102,108,111,97,116]⟩))) [],zm 15 16 [0]]
abbrev r106_8:LA:=[zm 17 3 [],oo 18 (.bslice 3 1 [.int .i64 0] [(0,1,(.c (.int .i64 2)))]) [],oo 19 (.callV (.t 17) [(.t 18)]) [0,1],zm 2 19 [2,2,0,1,2]]
abbrev r106_9:LA:=[oo 21 (.bin .eql (.t 4) (.c (.str ⟨#[105,115,95,110,117,109,98,101,114]⟩))) [],zm 20 21 [0]]
abbrev r106_10:LA:=[zm 22 3 [],oo 23 (.bslice 3 2 [.int .i64 0,.int .i64 0] [(0,1,(.c (.int .i64 1))),(1,1,(.c (.int .i64 2)))]) [],oo 24 (.callV (.t 22) [(.t 23)]) [0,1],zm 2 24 [2,2,0,1,2]]
abbrev r106_11:LA:=[oo 26 (.bin .eql (.t 4) (.c (.str ⟨#[105,115,95,108,105,115,116]⟩))) [],zm 25 26 [0]]
abbrev r106_12:LA:=[zm 27 3 [],oo 28 (.bslice 3 1 [.int .i64 0] [(0,1,(.c (.int .i64 8)))]) [],oo 29 (.callV (.t 27) [(.t 28)]) [0,1],zm 2 29 [2,2,0,1,2]]
abbrev r106_13:LA:=[oo 31 (.bin .eql (.t 4) (.c (.str ⟨#[105,115,95,116,117,112,108,101]⟩))) [],zm 30 31 [0]]
abbrev r106_14:LA:=[zm 32 3 [],oo 33 (.bslice 3 1 [.int .i64 0] [(0,1,(.c (.int .i64 7)))]) [],oo 34 (.callV (.t 32) [(.t 33)]) [0,1],zm 2 34 [2,2,0,1,2]]
abbrev r106_15:LA:=[oo 36 (.bin .eql (.t 4) (.c (.str ⟨#[105,115,95,112,105,100]⟩))) [],zm 35 36 [0]]
abbrev r106_16:LA:=[zm 37 3 [],oo 38 (.bslice 3 1 [.int .i64 0] [(0,1,(.c (.int .i64 6)))]) [],oo 39 (.callV (.t 37) [(.t 38)]) [0,1],zm 2 39 [2,2,0,1,2]]
abbrev r106_17:LA:=[oo 41 (.bin .eql (.t 4) (.c (.str ⟨#[105,115,95,114,101,102,101,114,101,110,99,101]⟩))) [],zm 40 41 [0]]
abbrev r106_18:LA:=[zm 42 3 [],oo 43 (.bslice 3 1 [.int .i64 0] [(0,1,(.c (.int .i64 4)))]) [],oo 44 (.callV (.t 42) [(.t 43)]) [0,1],zm 2 44 [2,2,0,1,2]]
abbrev r106_19:LA:=[oo 46 (.bin .eql (.t 4) (.c (.str ⟨#[105,115,95,98,111,111,108,101,97,110]⟩))) [],zm 45 46 [0]]
abbrev r106_20:LA:=[oo 2 (.mv (.c (.fn (.func 138) [] []))) []]
abbrev r106_21:LA:=[oo 2 (.mv (.c (.nilf))) []]
def k106:List (List Nat):=[[0],[0,3],[3,4],[3,4,5],[2],[3,4,10],[2],[3,4,15],[2],[3,4,20],[2],[3,4,25],[2],[3,4,30],[2],[3,4,35],[2],[3,4,40],[2],[45],[2],[2]]
def f106:AFunc:=⟨47,[.tmp 2],(.seq (.g r106_0 [0]) (.seq (.g r106_1 [0,3]) (.seq (.seq (.g r106_2 [3,4]) (.block 0 (.seq (.g r106_3 [3,4,5]) (.cond (.t 5) (.seq (.g r106_4 [2]) (.ret)) (.seq (.g r106_5 [3,4,10]) (.cond (.t 10) (.seq (.g r106_6 [2]) (.ret)) (.seq (.g r106_7 [3,4,15]) (.cond (.t 15) (.seq (.g r106_8 [2]) (.ret)) (.seq (.g r106_9 [3,4,20]) (.cond (.t 20) (.seq (.g r106_10 [2]) (.ret)) (.seq (.g r106_11 [3,4,25]) (.cond (.t 25) (.seq (.g r106_12 [2]) (.ret)) (.seq (.g r106_13 [3,4,30]) (.cond (.t 30) (.seq (.g r106_14 [2]) (.ret)) (.seq (.g r106_15 [3,4,35]) (.cond (.t 35) (.seq (.g r106_16 [2]) (.ret)) (.seq (.g r106_17 [3,4,40]) (.cond (.t 40) (.seq (.g r106_18 [2]) (.ret)) (.seq (.g r106_19 [45]) (.cond (.t 45) (.seq (.g r106_20 [2]) (.ret)) (.skip))))))))))))))))))))) (.seq (.g r106_21 [2]) (.ret)))))⟩
theorem c106:cfunc Tryz.prog (kof k106) Tryz.f106=some f106:=by kernel_rfl
abbrev r108_0:LA:=[oo 2 (.mv (.c (.nils))) []]
abbrev r108_1:LA:=[zm 3 0 []]
abbrev r108_2:LA:=[oo 5 (.bin .eql (.t 3) (.c (.str ⟨#[115,101,116,101,108,101,109,101,110,116]⟩))) [],zm 4 5 [0]]
abbrev r108_3:LA:=[oo 6 (.build [.int .i64 0,.bool false,.nilf] [(0,1,(.c (.int .i64 3))),(1,1,(.c (.bool false))),(2,1,(.c (.fn (.func 139) [] [])))]) [],oo 7 (.bslice 55 1 [.int .i64 0,.bool false,.nilf] [(0,3,(.t 6))]) [0],zm 2 7 [1,0,1]]
abbrev r108_4:LA:=[oo 9 (.bin .eql (.t 3) (.c (.str ⟨#[116,117,112,108,101,95,116,111,95,108,105,115,116]⟩))) [],zm 8 9 [0]]
abbrev r108_5:LA:=[oo 10 (.build [.int .i64 0,.bool false,.nilf] [(0,1,(.c (.int .i64 1))),(1,1,(.c (.bool false))),(2,1,(.c (.fn (.func 140) [] [])))]) [],oo 11 (.bslice 55 1 [.int .i64 0,.bool false,.nilf] [(0,3,(.t 10))]) [0],zm 2 11 [1,0,1]]
abbrev r108_6:LA:=[oo 13 (.bin .eql (.t 3) (.c (.str ⟨#[108,105,115,116,95,116,111,95,116,117,112,108,101]⟩))) [],zm 12 13 [0]]
abbrev r108_7:LA:=[oo 14 (.build [.int .i64 0,.bool false,.nilf] [(0,1,(.c (.int .i64 1))),(1,1,(.c (.bool false))),(2,1,(.c (.fn (.func 141) [] [])))]) [],oo 15 (.bslice 55 1 [.int .i64 0,.bool false,.nilf] [(0,3,(.t 14))]) [0],zm 2 15 [1,0,1]]
abbrev r108_8:LA:=[oo 17 (.bin .eql (.t 3) (.c (.str ⟨#[97,116,111,109,95,116,111,95,108,105,115,116]⟩))) [],zm 16 17 [0]]
abbrev r108_9:LA:=[oo 18 (.build [.int .i64 0,.bool false,.nilf] [(0,1,(.c (.int .i64 1))),(1,1,(.c (.bool false))),(2,1,(.c (.fn (.func 143) [] [])))]) [],oo 19 (.bslice 55 1 [.int .i64 0,.bool false,.nilf] [(0,3,(.t 18))]) [0],zm 2 19 [1,0,1]]
abbrev r108_10:LA:=[oo 21 (.bin .eql (.t 3) (.c (.str ⟨#[108,105,115,116,95,116,111,95,97,116,111,109]⟩))) [],zm 20 21 [0]]
abbrev r108_11:LA:=[oo 22 (.build [.int .i64 0,.bool false,.nilf] [(0,1,(.c (.int .i64 1))),(1,1,(.c (.bool false))),(2,1,(.c (.fn (.func 145) [] [])))]) [],oo 23 (.bslice 55 1 [.int .i64 0,.bool false,.nilf] [(0,3,(.t 22))]) [0],zm 2 23 [1,0,1]]
abbrev r108_12:LA:=[oo 25 (.bin .eql (.t 3) (.c (.str ⟨#[105,110,116,101,103,101,114,95,116,111,95,108,105,115,116]⟩))) [],zm 24 25 [0]]
abbrev r108_13:LA:=[oo 26 (.build [.int .i64 0,.bool false,.nilf] [(0,1,(.c (.int .i64 1))),(1,1,(.c (.bool false))),(2,1,(.c (.fn (.func 146) [] [])))]) [],oo 27 (.bslice 55 1 [.int .i64 0,.bool false,.nilf] [(0,3,(.t 26))]) [0],zm 2 27 [1,0,1]]
abbrev r108_14:LA:=[oo 29 (.bin .eql (.t 3) (.c (.str ⟨#[108,105,115,116,95,116,111,95,105,110,116,101,103,101,114]⟩))) [],zm 28 29 [0]]
abbrev r108_15:LA:=[oo 30 (.build [.int .i64 0,.bool false,.nilf] [(0,1,(.c (.int .i64 1))),(1,1,(.c (.bool false))),(2,1,(.c (.fn (.func 148) [] [])))]) [],oo 31 (.bslice 55 1 [.int .i64 0,.bool false,.nilf] [(0,3,(.t 30))]) [0],zm 2 31 [1,0,1]]
abbrev r108_16:LA:=[oo 33 (.bin .eql (.t 3) (.c (.str ⟨#[102,108,111,97,116,95,116,111,95,108,105,115,116]⟩))) [],zm 32 33 [0]]
abbrev r108_17:LA:=[oo 34 (.build [.int .i64 0,.bool false,.nilf] [(0,1,(.c (.int .i64 1))),(1,1,(.c (.bool false))),(2,1,(.c (.fn (.func 149) [] [])))]) [],oo 35 (.bslice 55 1 [.int .i64 0,.bool false,.nilf] [(0,3,(.t 34))]) [0],zm 2 35 [1,0,1]]
abbrev r108_18:LA:=[oo 37 (.bin .eql (.t 3) (.c (.str ⟨#[98,105,116,115]⟩))) [],zm 36 37 [0]]
abbrev r108_19:LA:=[oo 38 (.build [.int .i64 0,.bool false,.nilf] [(0,1,(.c (.int .i64 1))),(1,1,(.c (.bool false))),(2,1,(.c (.fn (.func 150) [] [])))]) [],oo 39 (.bslice 55 1 [.int .i64 0,.bool false,.nilf] [(0,3,(.t 38))]) [0],zm 2 39 [1,0,1]]
abbrev r108_20:LA:=[oo 41 (.bin .eql (.t 3) (.c (.str ⟨#[114,101,118,101,114,115,101]⟩))) [],zm 40 41 [0]]
abbrev r108_21:LA:=[oo 42 (.build [.int .i64 0,.bool false,.nilf] [(0,1,(.c (.int .i64 1))),(1,1,(.c (.bool false))),(2,1,(.c (.fn (.func 151) [] [])))]) [],oo 43 (.bslice 55 1 [.int .i64 0,.bool false,.nilf] [(0,3,(.t 42))]) [0],zm 2 43 [1,0,1]]
abbrev r108_22:LA:=[oo 45 (.bin .eql (.t 3) (.c (.str ⟨#[115,111,114,116]⟩))) [],zm 44 45 [0]]
abbrev r108_23:LA:=[oo 46 (.build [.int .i64 0,.bool false,.nilf] [(0,1,(.c (.int .i64 1))),(1,1,(.c (.bool false))),(2,1,(.c (.fn (.func 152) [] [])))]) [],oo 47 (.bslice 55 1 [.int .i64 0,.bool false,.nilf] [(0,3,(.t 46))]) [0],zm 2 47 [1,0,1]]
abbrev r108_24:LA:=[oo 49 (.bin .eql (.t 3) (.c (.str ⟨#[109,101,109,98,101,114]⟩))) [],zm 48 49 [0]]
abbrev r108_25:LA:=[oo 50 (.build [.int .i64 0,.bool false,.nilf] [(0,1,(.c (.int .i64 2))),(1,1,(.c (.bool false))),(2,1,(.c (.fn (.func 153) [] [])))]) [],oo 51 (.bslice 55 1 [.int .i64 0,.bool false,.nilf] [(0,3,(.t 50))]) [0],zm 2 51 [1,0,1]]
abbrev r108_26:LA:=[oo 53 (.bin .eql (.t 3) (.c (.str ⟨#[110,116,104]⟩))) [],zm 52 53 [0]]
abbrev r108_27:LA:=[oo 54 (.build [.int .i64 0,.bool false,.nilf] [(0,1,(.c (.int .i64 2))),(1,1,(.c (.bool false))),(2,1,(.c (.fn (.func 154) [] [])))]) [],oo 55 (.bslice 55 1 [.int .i64 0,.bool false,.nilf] [(0,3,(.t 54))]) [0],zm 2 55 [1,0,1]]
abbrev r108_28:LA:=[oo 57 (.bin .eql (.t 3) (.c (.str ⟨#[115,105,122,101]⟩))) [],zm 56 57 [0]]
abbrev r108_29:LA:=[oo 58 (.build [.int .i64 0,.bool false,.nilf] [(0,1,(.c (.int .i64 1))),(1,1,(.c (.bool false))),(2,1,(.c (.fn (.func 155) [] [])))]) [],oo 59 (.bslice 55 1 [.int .i64 0,.bool false,.nilf] [(0,3,(.t 58))]) [0],zm 2 59 [1,0,1]]
abbrev r108_30:LA:=[oo 2 (.mv (.c (.nils))) []]
def k108:List (List Nat):=[[0],[3],[3,4],[2],[3,8],[2],[3,12],[2],[3,16],[2],[3,20],[2],[3,24],[2],[3,28],[2],[3,32],[2],[3,36],[2],[3,40],[2],[3,44],[2],[3,48],[2],[3,52],[2],[56],[2],[2]]
def f108:AFunc:=⟨60,[.tmp 2],(.seq (.g r108_0 [0]) (.seq (.seq (.g r108_1 [3]) (.block 0 (.seq (.g r108_2 [3,4]) (.cond (.t 4) (.seq (.g r108_3 [2]) (.ret)) (.seq (.g r108_4 [3,8]) (.cond (.t 8) (.seq (.g r108_5 [2]) (.ret)) (.seq (.g r108_6 [3,12]) (.cond (.t 12) (.seq (.g r108_7 [2]) (.ret)) (.seq (.g r108_8 [3,16]) (.cond (.t 16) (.seq (.g r108_9 [2]) (.ret)) (.seq (.g r108_10 [3,20]) (.cond (.t 20) (.seq (.g r108_11 [2]) (.ret)) (.seq (.g r108_12 [3,24]) (.cond (.t 24) (.seq (.g r108_13 [2]) (.ret)) (.seq (.g r108_14 [3,28]) (.cond (.t 28) (.seq (.g r108_15 [2]) (.ret)) (.seq (.g r108_16 [3,32]) (.cond (.t 32) (.seq (.g r108_17 [2]) (.ret)) (.seq (.g r108_18 [3,36]) (.cond (.t 36) (.seq (.g r108_19 [2]) (.ret)) (.seq (.g r108_20 [3,40]) (.cond (.t 40) (.seq (.g r108_21 [2]) (.ret)) (.seq (.g r108_22 [3,44]) (.cond (.t 44) (.seq (.g r108_23 [2]) (.ret)) (.seq (.g r108_24 [3,48]) (.cond (.t 48) (.seq (.g r108_25 [2]) (.ret)) (.seq (.g r108_26 [3,52]) (.cond (.t 52) (.seq (.g r108_27 [2]) (.ret)) (.seq (.g r108_28 [56]) (.cond (.t 56) (.seq (.g r108_29 [2]) (.ret)) (.skip))))))))))))))))))))))))))))))) (.seq (.g r108_30 [2]) (.ret))))⟩
theorem c108:cfunc Tryz.prog (kof k108) Tryz.f108=some f108:=by kernel_rfl
abbrev r111_0:LA:=[oo 1 (.box 27 (.t 0)) [],zi 2 0 []]
abbrev r111_1:LA:=[zr 6 5 1 [],zk 7 156 6 [0],zm 5 7 [1],zx 8 5 0 [2],zx 9 5 1 [2],oo 3 (.alloc 119 (.agg [.int .i64 0,.int .i64 0,.bool false,.bool false])) [],zs 4 3 8 [5,3,1,0,1,2,3,5],zm 4 9 [4,6,0,1,2,3,4,5,6]]
abbrev r111_2:LA:=[zm 10 4 [],zm 2 10 [0,0]]
def k111:List (List Nat):=[[1],[4],[2]]
def f111:AFunc:=⟨11,[.tmp 2],(.seq (.g r111_0 [1]) (.seq (.g r111_1 [4]) (.seq (.g r111_2 [2]) (.ret))))⟩
theorem c111:cfunc Tryz.prog (kof k111) Tryz.f111=some f111:=by kernel_rfl
abbrev r112_0:LA:=[zi 2 0 []]
abbrev r112_1:LA:=[zm 3 0 []]
abbrev r112_2:LA:=[ze 5 3 1 [],zm 4 5 [0]]
abbrev r112_3:LA:=[ze 6 3 2 [],zm 4 6 [0]]
abbrev r112_4:LA:=[zi 2 0 []]
abbrev r112_5:LA:=[zm 7 0 [],zm 2 7 [0,0]]
def k112:List (List Nat):=[[0],[0,3],[0,3,4],[0,4],[2],[2]]
def f112:AFunc:=⟨8,[.tmp 2],(.seq (.g r112_0 [0]) (.seq (.seq (.g r112_1 [0,3]) (.block 0 (.seq (.seq (.g r112_2 [0,3,4]) (.cond (.t 4) (.skip) (.g r112_3 [0,4]))) (.cond (.t 4) (.seq (.g r112_4 [2]) (.ret)) (.skip))))) (.seq (.g r112_5 [2]) (.ret))))⟩
theorem c112:cfunc Tryz.prog (kof k112) Tryz.f112=some f112:=by kernel_rfl
abbrev r113_0:LA:=[zi 4 0 []]
abbrev r113_1:LA:=[zm 6 0 [],zm 7 1 [],oo 8 (.bin .lss (.t 6) (.t 7)) [0,1],zm 5 8 [2]]
abbrev r113_2:LA:=[oo 4 (.mv (.c (.int .i64 (-1)))) []]
abbrev r113_3:LA:=[zm 10 0 [],zm 11 1 [],oo 12 (.bin .gtr (.t 10) (.t 11)) [0,1],zm 9 12 [2]]
abbrev r113_4:LA:=[zi 4 1 []]
abbrev r113_5:LA:=[zi 4 0 []]
def k113:List (List Nat):=[[0,1],[0,1,5],[4],[9],[4],[4]]
def f113:AFunc:=⟨13,[.tmp 4],(.seq (.g r113_0 [0,1]) (.seq (.block 0 (.seq (.g r113_1 [0,1,5]) (.cond (.t 5) (.seq (.g r113_2 [4]) (.ret)) (.seq (.g r113_3 [9]) (.cond (.t 9) (.seq (.g r113_4 [4]) (.ret)) (.skip)))))) (.seq (.g r113_5 [4]) (.ret))))⟩
theorem c113:cfunc Tryz.prog (kof k113) Tryz.f113=some f113:=by kernel_rfl
abbrev r114_0:LA:=[oo 2 (.box 27 (.t 0)) [],oo 3 (.box 27 (.t 1)) [],zi 4 0 []]
abbrev r114_1:LA:=[zr 7 5 2 [],zr 8 5 3 [],zA 5 27 [],zA 6 27 [],zs 5 5 7 [2,0,0,2,3],zs 5 6 8 [3,1,4,0,1,2,3,4]]
abbrev r114_2:LA:=[zf 10 0 5 [],zl 11 10 [0],ze 12 11 1 [1],zm 13 12 [2],yf 14 0 6 13 true [3],yl 15 14 13 true [4,3],og 16 (.bin .eql (.t 15) (.c (.int .i64 1))) 13 true [5,3],zp 17 13 16 [3,6],zm 9 17 [7,3]]
abbrev r114_3:LA:=[zf 18 1 5 [],zl 19 18 [0],zf 20 1 6 [],zl 21 20 [2],zq 22 157 19 21 [1,3],zm 4 22 [4,4,0,1,2,3,4]]
abbrev r114_4:LA:=[zf 24 0 5 [],zl 25 24 [0],ze 26 25 1 [1],zm 23 26 [2]]
abbrev r114_5:LA:=[zf 27 2 6 [],zl 28 27 [0],zf 29 1 5 [],zl 30 29 [2],zq 31 158 28 30 [1,3],oo 32 (.un .neg (.t 31)) [4],zm 4 32 [5,4,0,1,2,3,4,5]]
abbrev r114_6:LA:=[zf 34 0 6 [],zl 35 34 [0],ze 36 35 1 [1],zm 33 36 [2]]
abbrev r114_7:LA:=[zf 37 2 5 [],zl 38 37 [0],zf 39 1 6 [],zl 40 39 [2],zq 41 158 38 40 [1,3],zm 4 41 [4,4,0,1,2,3,4]]
abbrev r114_8:LA:=[zf 42 2 5 [],zl 43 42 [0],zf 44 2 6 [],zl 45 44 [2],zq 46 159 43 45 [1,3],zm 4 46 [4,4,0,1,2,3,4]]
def m114_1:List Nat:=[0,0,0,0,13,31]
def k114:List (List Nat):=[[2,3],[5,6],[5,6,9],[4],[5,6,23],[4],[5,6,33],[4],[4]]
def f114:AFunc:=⟨47,[.tmp 4],(.seq (.g r114_0 [2,3]) (.seq (.region true r114_1 [5,6]) (.seq (.block 0 (.seq (.g r114_2 [5,6,9]) (.cond (.t 9) (.seq (.g r114_3 [4]) (.ret)) (.seq (.g r114_4 [5,6,23]) (.cond (.t 23) (.seq (.g r114_5 [4]) (.ret)) (.seq (.g r114_6 [5,6,33]) (.cond (.t 33) (.seq (.g r114_7 [4]) (.ret)) (.skip)))))))) (.seq (.g r114_8 [4]) (.ret)))))⟩
theorem c114:cfunc Tryz.prog (kof k114) Tryz.f114=some f114:=by kernel_rfl
abbrev r117_0:LA:=[oo 2 (.box 27 (.t 0)) [],oo 3 (.box 27 (.t 1)) [],oo 4 (.mv (.c (.bool false))) []]
abbrev r117_1:LA:=[zr 10 5 2 [],zk 11 75 10 [0],zm 9 11 [1],zx 12 9 0 [2],zx 13 9 1 [2],oo 5 (.alloc 83 (.agg [.int .i64 0,.int .i64 0,.int .u64 0])) [],zs 3 5 12 [5,3,1,0,1,2,3,5],zm 6 13 [4,6,0,1,2,3,4,5,6]]
abbrev r117_2:LA:=[zr 15 5 3 [],zk 16 75 15 [0],zm 14 16 [1],zx 17 14 0 [2],zx 18 14 1 [2],oo 7 (.alloc 83 (.agg [.int .i64 0,.int .i64 0,.int .u64 0])) [],zs 3 7 17 [5,3,1,0,1,2,3,5],zm 8 18 [4,6,0,1,2,3,4,5,6]]
abbrev r117_3:LA:=[zr 19 3 5 [],zr 20 3 7 [],oo 21 (.eqAgg [1,1,1] false (.t 19) (.t 20)) [0,1],zm 4 21 [2,0,1,2]]
def k117:List (List Nat):=[[2,3],[3,5],[5,7],[4]]
def f117:AFunc:=⟨22,[.tmp 4],(.seq (.g r117_0 [2,3]) (.seq (.g r117_1 [3,5]) (.seq (.g r117_2 [5,7]) (.seq (.g r117_3 [4]) (.ret)))))⟩
theorem c117:cfunc Tryz.prog (kof k117) Tryz.f117=some f117:=by kernel_rfl
abbrev r119_0:LA:=[oo 2 (.mv (.c (.bool false))) []]
abbrev r119_1:LA:=[zm 3 0 [],zm 4 0 [],oo 5 (.bin .neq (.t 3) (.t 4)) [0,1],zm 2 5 [2,0,1,2]]
def k119:List (List Nat):=[[0],[2]]
def f119:AFunc:=⟨6,[.tmp 2],(.seq (.g r119_0 [0]) (.seq (.g r119_1 [2]) (.ret)))⟩
theorem c119:cfunc Tryz.prog (kof k119) Tryz.f119=some f119:=by kernel_rfl
abbrev r120_0:LA:=[oo 4 (.mv (.c (.bool false))) []]
abbrev r120_1:LA:=[zm 5 1 [],ze 6 5 0 [0]]
abbrev r120_2:LA:=[zm 7 0 [],zk 8 162 7 [0],zm 0 8 [1,1,0,1]]
abbrev r120_3:LA:=[zm 9 1 [],oo 10 (.bin .lss (.t 9) (.c (.int .i64 0))) [0]]
abbrev r120_4:LA:=[zm 11 0 [],oo 12 (.un .neg (.t 11)) [0],zm 0 12 [1,0,1]]
abbrev r120_5:LA:=[zm 13 0 [],oo 14 (.bin .gtr (.t 13) (.c (.flt .f64 9218868437227405311))) [0],zm 4 14 [1,0,1]]
def k120:List (List Nat):=[[0,1],[0,1,6],[0],[0,10],[0],[4]]
def f120:AFunc:=⟨15,[.tmp 4],(.seq (.g r120_0 [0,1]) (.seq (.seq (.g r120_1 [0,1,6]) (.cond (.t 6) (.g r120_2 [0]) (.seq (.g r120_3 [0,10]) (.cond (.t 10) (.g r120_4 [0]) (.skip))))) (.seq (.g r120_5 [4]) (.ret))))⟩
theorem c120:cfunc Tryz.prog (kof k120) Tryz.f120=some f120:=by kernel_rfl
abbrev r122_0:LA:=[oo 2 (.mv (.c (.flt .f64 0))) []]
abbrev r122_1:LA:=[zm 3 0 [],oo 4 (.conv (.toFlt .f64) (.t 3)) [0],zm 2 4 [1,0,1]]
def k122:List (List Nat):=[[0],[2]]
def f122:AFunc:=⟨5,[.tmp 2],(.seq (.g r122_0 [0]) (.seq (.g r122_1 [2]) (.ret)))⟩
theorem c122:cfunc Tryz.prog (kof k122) Tryz.f122=some f122:=by kernel_rfl
abbrev r127_0:LA:=[oo 2 (.mv (.c (.flt .f64 0))) []]
abbrev r127_1:LA:=[zm 3 0 [],oo 4 (.ext 3 [(.t 3)]) [0],zm 2 4 [1,1,0,1]]
abbrev r127_2:LA:=[zm 5 0 [],zk 6 166 5 [0],zm 2 6 [1,1,0,1]]
def k127:List (List Nat):=[[0],[2],[2]]
def f127:AFunc:=⟨7,[.tmp 2],(.seq (.g r127_0 [0]) (.seq (.cond (.c (.bool true)) (.seq (.g r127_1 [2]) (.ret)) (.skip)) (.seq (.g r127_2 [2]) (.ret))))⟩
theorem c127:cfunc Tryz.prog (kof k127) Tryz.f127=some f127:=by kernel_rfl
abbrev r129_0:LA:=[oo 2 (.mv (.c (.flt .f64 0))) []]
abbrev r129_1:LA:=[zm 3 0 [],oo 4 (.ext 4 [(.t 3)]) [0],zm 2 4 [1,1,0,1]]
abbrev r129_2:LA:=[zm 5 0 [],zk 6 168 5 [0],zm 2 6 [1,1,0,1]]
def k129:List (List Nat):=[[0],[2],[2]]
def f129:AFunc:=⟨7,[.tmp 2],(.seq (.g r129_0 [0]) (.seq (.cond (.c (.bool true)) (.seq (.g r129_1 [2]) (.ret)) (.skip)) (.seq (.g r129_2 [2]) (.ret))))⟩
theorem c129:cfunc Tryz.prog (kof k129) Tryz.f129=some f129:=by kernel_rfl
abbrev r130_0:LA:=[oo 2 (.mv (.c (.flt .f64 0))) []]
abbrev r130_1:LA:=[zm 3 0 [],oo 4 (.ext 5 [(.t 3)]) [0],zm 2 4 [1,1,0,1]]
abbrev r130_2:LA:=[zm 5 0 [],zk 6 170 5 [0],zm 2 6 [1,1,0,1]]
def k130:List (List Nat):=[[0],[2],[2]]
def f130:AFunc:=⟨7,[.tmp 2],(.seq (.g r130_0 [0]) (.seq (.cond (.c (.bool true)) (.seq (.g r130_1 [2]) (.ret)) (.skip)) (.seq (.g r130_2 [2]) (.ret))))⟩
theorem c130:cfunc Tryz.prog (kof k130) Tryz.f130=some f130:=by kernel_rfl
abbrev r133_0:LA:=[zi 4 0 []]
abbrev r133_1:LA:=[zm 6 0 [],oo 7 (.callF 50 [(.t 6),(.c (.int .i64 0)),(.c (.int .i64 1))]) [0],oo 8 (.fld 1 none (.t 7)) [1],zm 5 8 [2,1,0,1,2]]
abbrev r133_2:LA:=[zm 9 5 [],oo 10 (.bin .lss (.t 9) (.c (.int .i64 1))) [0],zm 11 10 [1],ym 12 5 11 false [2],ym 13 1 11 false [2],og 14 (.bin .gtr (.t 12) (.t 13)) 11 false [3,4,2],zo 15 11 14 [2,5]]
abbrev r133_3:LA:=[oo 16 (.callF 51 []) []]
abbrev r133_4:LA:=[zm 17 5 [],oo 18 (.bin .sub (.t 17) (.c (.int .i64 1))) [0],zm 4 18 [1,0,1]]
def k133:List (List Nat):=[[0,1],[1,5],[5,15],[5],[4]]
def f133:AFunc:=⟨19,[.tmp 4],(.seq (.g r133_0 [0,1]) (.seq (.g r133_1 [1,5]) (.seq (.seq (.g r133_2 [5,15]) (.cond (.t 15) (.g r133_3 [5]) (.skip))) (.seq (.g r133_4 [4]) (.ret)))))⟩
theorem c133:cfunc Tryz.prog (kof k133) Tryz.f133=some f133:=by kernel_rfl
abbrev r135_0:LA:=[oo 1 (.box 114 (.t 0)) [],oo 2 (.mv (.c (.nilf))) []]
abbrev r135_1:LA:=[oo 3 (.mkfn (.func 136) [] [(.t 1)]) [],zm 2 3 [0,0]]
def k135:List (List Nat):=[[1],[2]]
def f135:AFunc:=⟨4,[.tmp 2],(.seq (.g r135_0 [1]) (.seq (.g r135_1 [2]) (.ret)))⟩
theorem c135:cfunc Tryz.prog (kof k135) Tryz.f135=some f135:=by kernel_rfl
abbrev r156_0:LA:=[oo 1 (.box 27 (.t 0)) [],oo 2 (.alloc 119 (.agg [.int .i64 0,.int .i64 0,.bool false,.bool false])) [],zi 3 0 []]
abbrev r156_1:LA:=[oo 4 (.alloc 119 (.agg [.int .i64 0,.int .i64 0,.bool false,.bool false])) []]
abbrev r156_2:LA:=[zr 5 5 1 [],oo 6 (.callF 184 [(.t 4),(.t 5),(.c (.int .i64 1))]) [0]]
abbrev r156_3:LA:=[zf 8 3 4 [],zl 9 8 [0],zm 7 9 [1]]
abbrev r156_4:LA:=[oo 10 (.build [.int .i64 0,.int .i64 0,.bool false,.bool false] []) [],zs 4 2 10 [0,0],zi 3 12 [1,0,1]]
abbrev r156_5:LA:=[zf 12 2 4 [],zl 13 12 [0],zm 11 13 [1]]
abbrev r156_6:LA:=[oo 14 (.build [.int .i64 0,.int .i64 0,.bool false,.bool false] []) [],zs 4 2 14 [0,0],zi 3 4 [1,0,1]]
abbrev r156_7:LA:=[zr 15 4 4 [],zs 4 2 15 [0,0],zi 3 0 [1,0,1]]
def k156:List (List Nat):=[[1,2],[1,2,4],[2,4],[2,4,7],[2,3],[2,4,11],[2,3],[2,3]]
def f156:AFunc:=⟨16,[.cell 2 (some 4),.tmp 3],(.seq (.g r156_0 [1,2]) (.seq (.g r156_1 [1,2,4]) (.seq (.g r156_2 [2,4]) (.seq (.block 0 (.seq (.g r156_3 [2,4,7]) (.cond (.t 7) (.seq (.g r156_4 [2,3]) (.ret)) (.seq (.g r156_5 [2,4,11]) (.cond (.t 11) (.seq (.g r156_6 [2,3]) (.ret)) (.skip)))))) (.seq (.g r156_7 [2,3]) (.ret))))))⟩
theorem c156:cfunc Tryz.prog (kof k156) Tryz.f156=some f156:=by kernel_rfl
abbrev r157_0:LA:=[zi 4 0 []]
abbrev r157_1:LA:=[zm 6 0 [],zm 7 1 [],oo 8 (.bin .lss (.t 6) (.t 7)) [0,1],zm 5 8 [2]]
abbrev r157_2:LA:=[oo 4 (.mv (.c (.int .i64 (-1)))) []]
abbrev r157_3:LA:=[zm 10 0 [],zm 11 1 [],oo 12 (.bin .gtr (.t 10) (.t 11)) [0,1],zm 9 12 [2]]
abbrev r157_4:LA:=[zi 4 1 []]
abbrev r157_5:LA:=[zi 4 0 []]
def k157:List (List Nat):=[[0,1],[0,1,5],[4],[9],[4],[4]]
def f157:AFunc:=⟨13,[.tmp 4],(.seq (.g r157_0 [0,1]) (.seq (.block 0 (.seq (.g r157_1 [0,1,5]) (.cond (.t 5) (.seq (.g r157_2 [4]) (.ret)) (.seq (.g r157_3 [9]) (.cond (.t 9) (.seq (.g r157_4 [4]) (.ret)) (.skip)))))) (.seq (.g r157_5 [4]) (.ret))))⟩
theorem c157:cfunc Tryz.prog (kof k157) Tryz.f157=some f157:=by kernel_rfl
abbrev r158_0:LA:=[zi 4 0 []]
abbrev r158_1:LA:=[zm 8 0 [],zk 9 119 8 [0],zm 7 9 [1,1]]
abbrev r158_2:LA:=[zi 4 2 []]
abbrev r158_3:LA:=[zm 11 0 [],oo 12 (.bin .geq (.t 11) (.c (.flt .f64 4890909195324358656))) [0],zm 10 12 [1]]
abbrev r158_4:LA:=[zi 4 1 []]
abbrev r158_5:LA:=[zm 14 0 [],oo 15 (.bin .lss (.t 14) (.c (.flt .f64 14114281232179134464))) [0],zm 13 15 [1]]
abbrev r158_6:LA:=[oo 4 (.mv (.c (.int .i64 (-1)))) []]
abbrev r158_7:LA:=[zm 16 0 [],zk 17 127 16 [0],zm 5 17 [1,1,0,1]]
abbrev r158_8:LA:=[zm 18 5 [],oo 19 (.conv (.fltInt .f64 .i64) (.t 18)) [0],zm 6 19 [1,0,1]]
abbrev r158_9:LA:=[zm 21 6 [],zm 22 1 [],oo 23 (.bin .lss (.t 21) (.t 22)) [0,1],zm 20 23 [2]]
abbrev r158_10:LA:=[oo 4 (.mv (.c (.int .i64 (-1)))) []]
abbrev r158_11:LA:=[zm 25 6 [],zm 26 1 [],oo 27 (.bin .gtr (.t 25) (.t 26)) [0,1],zm 24 27 [2]]
abbrev r158_12:LA:=[zi 4 1 []]
abbrev r158_13:LA:=[zm 29 0 [],zm 30 5 [],oo 31 (.bin .lss (.t 29) (.t 30)) [0,1],zm 28 31 [2]]
abbrev r158_14:LA:=[oo 4 (.mv (.c (.int .i64 (-1)))) []]
abbrev r158_15:LA:=[zm 33 0 [],zm 34 5 [],oo 35 (.bin .gtr (.t 33) (.t 34)) [0,1],zm 32 35 [2]]
abbrev r158_16:LA:=[zi 4 1 []]
abbrev r158_17:LA:=[zi 4 0 []]
def k158:List (List Nat):=[[0,1],[0,1,7],[4],[0,1,10],[4],[0,1,13],[4],[0,1,5],[0,1,5,6],[0,1,5,6,20],[4],[0,5,24],[4],[0,5,28],[4],[32],[4],[4]]
def f158:AFunc:=⟨36,[.tmp 4],(.seq (.g r158_0 [0,1]) (.seq (.block 0 (.seq (.g r158_1 [0,1,7]) (.cond (.t 7) (.seq (.g r158_2 [4]) (.ret)) (.seq (.g r158_3 [0,1,10]) (.cond (.t 10) (.seq (.g r158_4 [4]) (.ret)) (.seq (.g r158_5 [0,1,13]) (.cond (.t 13) (.seq (.g r158_6 [4]) (.ret)) (.skip)))))))) (.seq (.g r158_7 [0,1,5]) (.seq (.seq (.g r158_8 [0,1,5,6]) (.block 1 (.seq (.g r158_9 [0,1,5,6,20]) (.cond (.t 20) (.seq (.g r158_10 [4]) (.ret)) (.seq (.g r158_11 [0,5,24]) (.cond (.t 24) (.seq (.g r158_12 [4]) (.ret)) (.seq (.g r158_13 [0,5,28]) (.cond (.t 28) (.seq (.g r158_14 [4]) (.ret)) (.seq (.g r158_15 [32]) (.cond (.t 32) (.seq (.g r158_16 [4]) (.ret)) (.skip))))))))))) (.seq (.g r158_17 [4]) (.ret))))))⟩
theorem c158:cfunc Tryz.prog (kof k158) Tryz.f158=some f158:=by kernel_rfl
abbrev r159_0:LA:=[zi 4 0 []]
abbrev r159_1:LA:=[zm 6 0 [],zm 7 1 [],oo 8 (.bin .lss (.t 6) (.t 7)) [0,1],zm 5 8 [2]]
abbrev r159_2:LA:=[oo 4 (.mv (.c (.int .i64 (-1)))) []]
abbrev r159_3:LA:=[zm 10 0 [],zm 11 1 [],oo 12 (.bin .gtr (.t 10) (.t 11)) [0,1],zm 9 12 [2]]
abbrev r159_4:LA:=[zi 4 1 []]
abbrev r159_5:LA:=[zi 4 0 []]
def k159:List (List Nat):=[[0,1],[0,1,5],[4],[9],[4],[4]]
def f159:AFunc:=⟨13,[.tmp 4],(.seq (.g r159_0 [0,1]) (.seq (.block 0 (.seq (.g r159_1 [0,1,5]) (.cond (.t 5) (.seq (.g r159_2 [4]) (.ret)) (.seq (.g r159_3 [9]) (.cond (.t 9) (.seq (.g r159_4 [4]) (.ret)) (.skip)))))) (.seq (.g r159_5 [4]) (.ret))))⟩
theorem c159:cfunc Tryz.prog (kof k159) Tryz.f159=some f159:=by kernel_rfl
abbrev r162_0:LA:=[oo 2 (.mv (.c (.flt .f64 0))) []]
abbrev r162_1:LA:=[zm 3 0 [],oo 4 (.ext 0 [(.t 3)]) [0],oo 5 (.bin .andNot (.t 4) (.c (.int .u64 9223372036854775808))) [1],oo 6 (.ext 1 [(.t 5)]) [2,1],zm 2 6 [3,3,0,1,2,3]]
def k162:List (List Nat):=[[0],[2]]
def f162:AFunc:=⟨7,[.tmp 2],(.seq (.g r162_0 [0]) (.seq (.g r162_1 [2]) (.ret)))⟩
theorem c162:cfunc Tryz.prog (kof k162) Tryz.f162=some f162:=by kernel_rfl
abbrev r184_0:LA:=[oo 4 (.box 27 (.t 1)) []]
abbrev r184_1:LA:=[zm 8 0 [],zm 9 0 [],zn 10 9 [1],zf 11 1 10 [2],zl 12 11 [3],zm 13 2 [],oo 14 (.ext 6 [(.t 12),(.t 13)]) [4,5],zn 15 8 [0,0,1,2,3,4,5,6],zf 16 1 15 [7,0,1,2,3,4,5,6],zs 1 16 14 [8,6,0,1,2,3,4,5,6]]
abbrev r184_2:LA:=[zm 17 2 [],oo 18 (.bin .gtr (.t 17) (.c (.int .i64 200))) [0]]
abbrev r184_3:LA:=[zm 19 0 [],zn 20 19 [0,0],zf 21 3 20 [1,0],on (.store 1 (.t 21) (.c (.bool true))) [2,0]]
abbrev r184_4:LA:=[zm 22 0 [],zn 23 22 [0],zf 24 0 23 [1],zl 25 24 [2],zr 26 5 4 [],zk 27 195 26 [4],oo 28 (.bin .add (.t 25) (.t 27)) [3,5],zn 29 22 [0,0,1,2,3,4,5,6],zf 30 0 29 [7,0,1,2,3,4,5,6],zs 1 30 28 [8,6,5,0,1,2,3,4,5,6]]
abbrev r184_5:LA:=[zm 31 0 [],zn 32 31 [0],zf 33 0 32 [1],zl 34 33 [2],oo 35 (.bin .gtr (.t 34) (.c (.int .i64 65536))) [3]]
abbrev r184_6:LA:=[zm 36 0 [],zn 37 36 [0,0],zf 38 3 37 [1,0],on (.store 1 (.t 38) (.c (.bool true))) [2,0]]
abbrev r184_7:LA:=[zm 39 0 [],zm 40 0 [],zn 41 40 [1],zf 42 2 41 [2],zl 43 42 [3],zm 44 43 [4],og 45 (.load (some 5) (.t 4)) 44 false [5],og 46 (.callF 196 [(.t 45)]) 44 false [6,5,5],og 47 (.un .not (.t 46)) 44 false [7,5],zo 48 44 47 [5,8],zn 49 39 [0,0,1,2,3,4,5,6,7,8,9],zf 50 2 49 [10,0,1,2,3,4,5,6,7,8,9],zs 1 50 48 [11,9,7,0,1,2,3,4,5,6,7,8,9]]
abbrev r184_8:LA:=[zf 51 4 4 [],zl 52 51 [0],zL 53 1 52 [1],zi 54 0 []]
abbrev r184_9:LA:=[oo 55 (.bin .lss (.t 54) (.t 53)) []]
abbrev r184_10:LA:=[zd 56 5 52 54 [],zr 57 5 56 [0],zA 7 27 [],zs 5 7 57 [2,1,0,1,2]]
abbrev r184_11:LA:=[zm 58 0 [],zr 59 5 7 [],zm 60 2 [],za 61 60 1 [2],oo 62 (.callF 184 [(.t 58),(.t 59),(.t 61)]) [0,1,3]]
abbrev r184_12:LA:=[zm 63 0 [],zn 64 63 [0],zf 65 3 64 [1],zl 66 65 [2]]
abbrev r184_13:LA:=[za 67 54 1 [],zm 54 67 [0]]
def l184_0:ACode:=.seq (.g r184_9 [0,2,52,53,54,55]) (.seq (.cond (.t 55) (.skip) (.exit 0)) (.seq (.block 1 (.seq (.g r184_10 [0,2,7,52,53,54]) (.seq (.g r184_11 [0,2,52,53,54]) (.seq (.g r184_12 [0,2,52,53,54,66]) (.cond (.t 66) (.ret) (.skip)))))) (.g r184_13 [0,2,52,53,54])))
def m184_4:List Nat:=[0,1,3,7,0,16,63,127,255,511]
theorem d184_4:okDraw r184_4 m184_4=true:=by kernel_rfl
def k184:List (List Nat):=[[0,2,4],[0,2,4],[0,2,4,18],[],[0,2,4],[0,2,4,35],[],[0,2,4],[0,2,52,53,54],[0,2,52,53,54,55],[0,2,7,52,53,54],[0,2,52,53,54],[0,2,52,53,54,66],[0,2,52,53,54]]
def f184:AFunc:=⟨68,[],(.seq (.g r184_0 [0,2,4]) (.seq (.g r184_1 [0,2,4]) (.seq (.seq (.g r184_2 [0,2,4,18]) (.cond (.t 18) (.seq (.g r184_3 []) (.ret)) (.skip))) (.seq (.region true r184_4 [0,2,4]) (.seq (.seq (.g r184_5 [0,2,4,35]) (.cond (.t 35) (.seq (.g r184_6 []) (.ret)) (.skip))) (.seq (.g r184_7 [0,2,4]) (.seq (.g r184_8 [0,2,52,53,54]) (.block 0 (.loop l184_0)))))))))⟩
theorem c184:cfunc Tryz.prog (kof k184) Tryz.f184=some f184:=by kernel_rfl
abbrev r195_0:LA:=[oo 1 (.box 27 (.t 0)) [],zi 2 0 []]
abbrev r195_1:LA:=[zf 4 4 1 [],zl 5 4 [0],zL 6 1 5 [1],zm 3 6 [2,0,1,2]]
abbrev r195_2:LA:=[zf 7 0 1 [],zl 8 7 [0]]
abbrev r195_3:LA:=[ze 10 8 1 [],zm 9 10 [0]]
abbrev r195_4:LA:=[ze 11 8 3 [],zm 9 11 [0]]
abbrev r195_5:LA:=[ze 12 8 6 [],zm 9 12 [0]]
abbrev r195_6:LA:=[zi 2 0 []]
abbrev r195_7:LA:=[ze 14 8 2 [],zm 13 14 [0]]
abbrev r195_8:LA:=[ze 15 8 4 [],zm 13 15 [0]]
abbrev r195_9:LA:=[zi 2 2 []]
abbrev r195_10:LA:=[ze 17 8 8 [],zm 16 17 [0]]
abbrev r195_11:LA:=[zm 18 3 [],oo 19 (.bin .mul (.c (.int .i64 2)) (.t 18)) [0],zm 2 19 [1,0,1]]
abbrev r195_12:LA:=[ze 21 8 5 [],zm 20 21 [0]]
abbrev r195_13:LA:=[zm 22 3 [],oo 23 (.bin .add (.c (.int .i64 2)) (.t 22)) [0],zm 2 23 [1,0,1]]
abbrev r195_14:LA:=[zm 24 3 [],oo 25 (.bin .add (.c (.int .i64 1)) (.t 24)) [0],zm 2 25 [1,0,1]]
def k195:List (List Nat):=[[1],[1,3],[3,8],[3,8,9],[3,8,9],[3,8,9],[2],[3,8,13],[3,8,13],[2],[3,8,16],[2],[3,20],[2],[2]]
def f195:AFunc:=⟨26,[.tmp 2],(.seq (.g r195_0 [1]) (.seq (.g r195_1 [1,3]) (.seq (.seq (.g r195_2 [3,8]) (.block 0 (.seq (.seq (.g r195_3 [3,8,9]) (.cond (.t 9) (.skip) (.seq (.g r195_4 [3,8,9]) (.cond (.t 9) (.skip) (.g r195_5 [3,8,9]))))) (.cond (.t 9) (.seq (.g r195_6 [2]) (.ret)) (.seq (.seq (.g r195_7 [3,8,13]) (.cond (.t 13) (.skip) (.g r195_8 [3,8,13]))) (.cond (.t 13) (.seq (.g r195_9 [2]) (.ret)) (.seq (.g r195_10 [3,8,16]) (.cond (.t 16) (.seq (.g r195_11 [2]) (.ret)) (.seq (.g r195_12 [3,20]) (.cond (.t 20) (.seq (.g r195_13 [2]) (.ret)) (.skip))))))))))) (.seq (.g r195_14 [2]) (.ret)))))⟩
theorem c195:cfunc Tryz.prog (kof k195) Tryz.f195=some f195:=by kernel_rfl
abbrev r196_0:LA:=[oo 1 (.box 27 (.t 0)) [],oo 2 (.mv (.c (.bool false))) []]
abbrev r196_1:LA:=[zf 8 1 1 [],zl 9 8 [0],ze 10 9 0 [1],zf 11 2 1 [],zl 12 11 [3],oo 13 (.ext 0 [(.t 12)]) [4],oo 14 (.bin .eql (.t 13) (.c (.int .u64 0))) [5],zf 15 3 1 [],zl 16 15 [7],oo 17 (.bin .eql (.t 16) (.c (.str ⟨#[]⟩))) [8],zf 18 4 1 [],zl 19 18 [10],zL 20 1 19 [11],ze 21 20 0 [12],zm 3 10 [2,5,0,1,2],zm 4 14 [6,14,0,1,2,3,4,5,6,14],zm 5 17 [9,15,0,1,2,3,4,5,6,7,8,9,14,15],zm 6 21 [13,16,0,1,2,3,4,5,6,7,8,9,10,11,12,13,14,15,16]]
abbrev r196_2:LA:=[zf 22 1 1 [],zl 23 22 [0],oo 24 (.bin .geq (.t 23) (.c (.int .i64 0))) [1],zm 25 24 [2],yf 26 1 1 25 true [3],yl 27 26 25 true [4,3],og 28 (.bin .leq (.t 27) (.c (.int .i64 1099511627776))) 25 true [5,3],zp 29 25 28 [3,6],zm 7 29 [7,3,0,1,2,3,4,5,6,7]]
abbrev r196_3:LA:=[zf 30 0 1 [],zl 31 30 [0]]
abbrev r196_4:LA:=[ze 33 31 1 [],zm 32 33 [0]]
abbrev r196_5:LA:=[zm 34 4 [],zm 35 34 [0],ym 36 5 35 true [1],zp 37 35 36 [1,2],zm 38 37 [3,1],ym 39 6 38 true [4],zp 40 38 39 [4,5],zm 41 40 [6,4],yf 42 1 1 41 true [7],yl 43 42 41 true [8,7],og 44 (.bin .geq (.t 43) (.c (.int .i64 (-576460752303423488)))) 41 true [9,7],zp 45 41 44 [7,10],zm 46 45 [11,7],yf 47 1 1 46 true [12],yl 48 47 46 true [13,12],og 49 (.bin .leq (.t 48) (.c (.int .i64 576460752303423487))) 46 true [14,12],zp 50 46 49 [12,15],zm 2 50 [16,12,0,1,2,3,4,5,6,7,8,9,10,11,12,13,14,15,16]]
abbrev r196_6:LA:=[ze 52 31 2 [],zm 51 52 [0]]
abbrev r196_7:LA:=[zm 53 3 [],zm 54 53 [0],ym 55 5 54 true [1],zp 56 54 55 [1,2],zm 57 56 [3,1],ym 58 6 57 true [4],zp 59 57 58 [4,5],zm 60 59 [6,4],yf 61 2 1 60 true [7],yl 62 61 60 true [8,7],og 63 (.callF 119 [(.t 62)]) 60 true [9,7,7],og 64 (.un .not (.t 63)) 60 true [10,7],zp 65 60 64 [7,11],zm 66 65 [12,10],yf 67 2 1 66 true [13],yl 68 67 66 true [14,13],og 69 (.callF 120 [(.t 68),(.c (.int .i64 0))]) 66 true [15,13,13],og 70 (.un .not (.t 69)) 66 true [16,13],zp 71 66 70 [13,17],zm 2 71 [18,16,0,1,2,3,4,5,6,7,8,9,10,11,12,13,14,15,16,17,18]]
abbrev r196_8:LA:=[ze 73 31 3 [],zm 72 73 [0]]
abbrev r196_9:LA:=[zm 74 3 [],zm 75 74 [0],ym 76 4 75 true [1],zp 77 75 76 [1,2],zm 78 77 [3,1],ym 79 6 78 true [4],zp 80 78 79 [4,5],zm 81 80 [6,4],yf 82 3 1 81 true [7],yl 83 82 81 true [8,7],og 84 (.len 0 (.t 83)) 81 true [9,7],og 85 (.bin .leq (.t 84) (.c (.int .i64 64))) 81 true [10,7],zp 86 81 85 [7,11],zm 2 86 [12,7,0,1,2,3,4,5,6,7,8,9,10,11,12]]
abbrev r196_10:LA:=[ze 88 31 4 [],zm 87 88 [0]]
abbrev r196_11:LA:=[ze 89 31 6 [],zm 87 89 [0]]
abbrev r196_12:LA:=[zm 90 4 [],zm 91 90 [0],ym 92 5 91 true [1],zp 93 91 92 [1,2],zm 94 93 [3,1],ym 95 6 94 true [4],zp 96 94 95 [4,5],zm 97 96 [6,4],ym 98 7 97 true [7],zp 99 97 98 [7,8],zm 2 99 [9,7,0,1,2,3,4,5,6,7,8,9]]
abbrev r196_13:LA:=[ze 101 31 5 [],zm 100 101 [0]]
abbrev r196_14:LA:=[zm 102 4 [],zm 103 102 [0],ym 104 5 103 true [1],zp 105 103 104 [1,2],zm 106 105 [3,1],yf 107 1 1 106 true [4],yl 108 107 106 true [5,4],og 109 (.bin .geq (.t 108) (.c (.int .i64 0))) 106 true [6,4],zp 110 106 109 [4,7],zm 111 110 [8,4],yf 112 1 1 111 true [9],yl 113 112 111 true [10,9],og 114 (.bin .leq (.t 113) (.c (.int .i64 16384))) 111 true [11,9],zp 115 111 114 [9,12],zm 2 115 [13,9,0,1,2,3,4,5,6,7,8,9,10,11,12,13]]
abbrev r196_15:LA:=[ze 117 31 7 [],zm 116 117 [0]]
abbrev r196_16:LA:=[ze 118 31 8 [],zm 116 118 [0]]
abbrev r196_17:LA:=[zm 119 3 [],zm 120 119 [0],ym 121 4 120 true [1],zp 122 120 121 [1,2],zm 123 122 [3,1],ym 124 5 123 true [4],zp 125 123 124 [4,5],zm 2 125 [6,4,0,1,2,3,4,5,6]]
abbrev r196_18:LA:=[oo 2 (.mv (.c (.bool false))) []]
def k196:List (List Nat):=[[1],[1,3,4,5,6],[1,3,4,5,6,7],[1,3,4,5,6,7,31],[1,3,4,5,6,7,31,32],[2],[1,3,4,5,6,7,31,51],[2],[1,3,4,5,6,7,31,72],[2],[1,3,4,5,6,7,31,87],[1,3,4,5,6,7,31,87],[2],[1,3,4,5,31,100],[2],[3,4,5,31,116],[3,4,5,116],[2],[2]]
def f196:AFunc:=⟨126,[.tmp 2],(.seq (.g r196_0 [1]) (.seq (.region true r196_1 [1,3,4,5,6]) (.seq (.g r196_2 [1,3,4,5,6,7]) (.seq (.seq (.g r196_3 [1,3,4,5,6,7,31]) (.block 0 (.seq (.g r196_4 [1,3,4,5,6,7,31,32]) (.cond (.t 32) (.seq (.g r196_5 [2]) (.ret)) (.seq (.g r196_6 [1,3,4,5,6,7,31,51]) (.cond (.t 51) (.seq (.g r196_7 [2]) (.ret)) (.seq (.g r196_8 [1,3,4,5,6,7,31,72]) (.cond (.t 72) (.seq (.g r196_9 [2]) (.ret)) (.seq (.seq (.g r196_10 [1,3,4,5,6,7,31,87]) (.cond (.t 87) (.skip) (.g r196_11 [1,3,4,5,6,7,31,87]))) (.cond (.t 87) (.seq (.g r196_12 [2]) (.ret)) (.seq (.g r196_13 [1,3,4,5,31,100]) (.cond (.t 100) (.seq (.g r196_14 [2]) (.ret)) (.seq (.seq (.g r196_15 [3,4,5,31,116]) (.cond (.t 116) (.skip) (.g r196_16 [3,4,5,116]))) (.cond (.t 116) (.seq (.g r196_17 [2]) (.ret)) (.skip))))))))))))))) (.seq (.g r196_18 [2]) (.ret))))))⟩
theorem c196:cfunc Tryz.prog (kof k196) Tryz.f196=some f196:=by kernel_rfl
end Go.Am.Rl
