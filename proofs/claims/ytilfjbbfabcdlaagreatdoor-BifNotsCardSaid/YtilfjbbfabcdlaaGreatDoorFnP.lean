/- The functions, in the abstract machine's form (written by gen.py). -/
import Derived.Test.YtilfjbbfabcdlaaGreatDoorFnK
import Derived.Test.YtilfjbbfabcdlaaGreatDoorProg
set_option linter.unusedVariables false
namespace Go.Am.Rl
open Go.Proofs
set_option maxRecDepth 20000

/-- exitwave/exitwavelaw9.BifPlaces -/
abbrev r4_0 : List AOper := [
  ⟨some 5, .box 25 (.t 2), none, []⟩,
  ⟨some 6, .mv (.c (.bool false)), none, []⟩]
abbrev r4_1 : List AOper := [
  ⟨some 14, .callF 7 [], none, []⟩,
  ⟨some 15, .un .not (.t 14), none, [0]⟩]
abbrev r4_2 : List AOper := [
  ⟨some 6, .mv (.c (.bool false)), none, []⟩]
abbrev r4_3 : List AOper := [
  ⟨some 16, .mv (.t 0), none, []⟩,
  ⟨some 17, .build [.int .i64 0, .int .i64 0, .flt .f64 0, .str ⟨#[]⟩, .nils] [(0, 1, (.c (.int .i64 7))), (4, 1, (.t 16))], none, [0]⟩,
  ⟨some 7, .alloc 25 (.agg [.int .i64 0, .int .i64 0, .flt .f64 0, .str ⟨#[]⟩, .nils]), none, []⟩,
  ⟨none, .store 5 (.t 7) (.t 17), none, [2, 1, 0, 1, 2]⟩]
abbrev r4_4 : List AOper := [
  ⟨some 18, .mv (.t 0), none, []⟩,
  ⟨some 19, .len 1 (.t 18), none, [0]⟩,
  ⟨some 20, .bin .gtr (.t 19) (.c (.int .i64 200)), none, [1]⟩,
  ⟨some 21, .mv (.t 20), none, [2]⟩,
  ⟨some 22, .load (some 5) (.t 7), some (21, false), [3]⟩,
  ⟨some 23, .load (some 5) (.t 5), some (21, false), [3]⟩,
  ⟨some 24, .bslice 25 2 [.int .i64 0, .int .i64 0, .flt .f64 0, .str ⟨#[]⟩, .nils, .int .i64 0, .int .i64 0, .flt .f64 0, .str ⟨#[]⟩, .nils] [(0, 5, (.t 22)), (5, 5, (.t 23))], some (21, false), [4, 5, 3]⟩,
  ⟨some 25, .callF 8 [(.t 24)], some (21, false), [6, 3, 3]⟩,
  ⟨some 26, .un .not (.t 25), some (21, false), [7, 3]⟩,
  ⟨some 27, .pick (.t 21) (.c (.bool true)) (.t 26), none, [3, 8]⟩]
abbrev r4_5 : List AOper := [
  ⟨some 6, .mv (.c (.bool true)), none, []⟩]
abbrev r4_6 : List AOper := [
  ⟨some 28, .mv (.t 1), none, []⟩,
  ⟨some 29, .bin .lss (.t 28) (.c (.int .i64 (-1000))), none, [0]⟩,
  ⟨some 30, .mv (.t 29), none, [1]⟩,
  ⟨some 31, .mv (.t 1), some (30, false), [2]⟩,
  ⟨some 32, .bin .gtr (.t 31) (.c (.int .i64 1000)), some (30, false), [3, 2]⟩,
  ⟨some 33, .pick (.t 30) (.c (.bool true)) (.t 32), none, [2, 4]⟩]
abbrev r4_7 : List AOper := [
  ⟨some 6, .mv (.c (.bool true)), none, []⟩]
abbrev r4_8 : List AOper := [
  ⟨some 35, .mv (.t 1), none, []⟩,
  ⟨some 36, .callF 10 [(.t 35)], none, [0]⟩,
  ⟨some 37, .load (some 5) (.t 7), none, []⟩,
  ⟨some 38, .load (some 5) (.t 5), none, []⟩,
  ⟨some 39, .bslice 25 3 [.int .i64 0, .int .i64 0, .flt .f64 0, .str ⟨#[]⟩, .nils, .int .i64 0, .int .i64 0, .flt .f64 0, .str ⟨#[]⟩, .nils, .int .i64 0, .int .i64 0, .flt .f64 0, .str ⟨#[]⟩, .nils] [(0, 5, (.t 36)), (5, 5, (.t 37)), (10, 5, (.t 38))], none, [1, 2, 3]⟩,
  ⟨some 40, .callF 9 [(.c (.str ⟨#[115, 101, 116, 101, 108, 101, 109, 101, 110, 116]⟩)), (.t 39)], none, [4, 1]⟩,
  ⟨some 34, .mv (.t 40), none, [5]⟩,
  ⟨some 41, .extract (.t 34) 0, none, [6]⟩,
  ⟨some 42, .extract (.t 34) 1, none, [6]⟩,
  ⟨some 8, .alloc 25 (.agg [.int .i64 0, .int .i64 0, .flt .f64 0, .str ⟨#[]⟩, .nils]), none, []⟩,
  ⟨none, .store 5 (.t 8) (.t 41), none, [9, 7, 5, 0, 1, 2, 3, 4, 5, 6, 7, 9]⟩,
  ⟨some 9, .mv (.t 42), none, [8, 10, 0, 1, 2, 3, 4, 5, 6, 7, 8, 9, 10]⟩]
abbrev r4_9 : List AOper := [
  ⟨some 44, .mv (.t 1), none, []⟩,
  ⟨some 45, .callF 10 [(.t 44)], none, [0]⟩,
  ⟨some 46, .load (some 5) (.t 7), none, []⟩,
  ⟨some 47, .bslice 25 2 [.int .i64 0, .int .i64 0, .flt .f64 0, .str ⟨#[]⟩, .nils, .int .i64 0, .int .i64 0, .flt .f64 0, .str ⟨#[]⟩, .nils] [(0, 5, (.t 45)), (5, 5, (.t 46))], none, [1, 2]⟩,
  ⟨some 48, .callF 9 [(.c (.str ⟨#[101, 108, 101, 109, 101, 110, 116]⟩)), (.t 47)], none, [3, 1]⟩,
  ⟨some 43, .mv (.t 48), none, [4]⟩,
  ⟨some 49, .extract (.t 43) 0, none, [5]⟩,
  ⟨some 50, .extract (.t 43) 1, none, [5]⟩,
  ⟨some 10, .alloc 25 (.agg [.int .i64 0, .int .i64 0, .flt .f64 0, .str ⟨#[]⟩, .nils]), none, []⟩,
  ⟨none, .store 5 (.t 10) (.t 49), none, [8, 6, 4, 0, 1, 2, 3, 4, 5, 6, 8]⟩,
  ⟨some 11, .mv (.t 50), none, [7, 9, 0, 1, 2, 3, 4, 5, 6, 7, 8, 9]⟩]
abbrev r4_10 : List AOper := [
  ⟨some 51, .mv (.t 1), none, []⟩,
  ⟨some 52, .bin .geq (.t 51) (.c (.int .i64 1)), none, [0]⟩,
  ⟨some 53, .mv (.t 52), none, [1]⟩,
  ⟨some 54, .mv (.t 1), some (53, true), [2]⟩,
  ⟨some 55, .mv (.t 0), some (53, true), [2]⟩,
  ⟨some 56, .len 1 (.t 55), some (53, true), [4, 2]⟩,
  ⟨some 57, .bin .leq (.t 54) (.t 56), some (53, true), [3, 5, 2]⟩,
  ⟨some 58, .pick (.t 53) (.t 57) (.c (.bool false)), none, [2, 6]⟩,
  ⟨some 12, .mv (.t 58), none, [7, 2, 0, 1, 2, 3, 4, 5, 6, 7]⟩]
abbrev r4_11 : List AOper := [
  ⟨some 59, .mv (.t 11), none, []⟩,
  ⟨some 60, .mv (.t 12), none, []⟩,
  ⟨some 61, .eqB true (.t 59) (.t 60), none, [0, 1]⟩,
  ⟨some 62, .mv (.t 61), none, [2]⟩,
  ⟨some 63, .mv (.t 12), some (62, false), [3]⟩,
  ⟨some 64, .mv (.t 63), some (62, false), [4, 3, 3]⟩,
  ⟨some 65, .load (some 5) (.t 10), some (64, true), [5]⟩,
  ⟨some 66, .mv (.t 0), some (64, true), [5]⟩,
  ⟨some 67, .mv (.t 1), some (64, true), [5]⟩,
  ⟨some 68, .bin .sub (.t 67) (.c (.int .i64 1)), some (64, true), [8, 5]⟩,
  ⟨some 69, .iaddr 5 (.t 66) (.t 68), some (64, true), [7, 9, 5]⟩,
  ⟨some 70, .load (some 5) (.t 69), some (64, true), [10, 5]⟩,
  ⟨some 71, .callF 11 [(.t 65), (.t 70)], some (64, true), [6, 11, 5, 5]⟩,
  ⟨some 72, .un .not (.t 71), some (64, true), [12, 5]⟩,
  ⟨some 73, .pick (.t 64) (.t 72) (.c (.bool false)), some (62, false), [5, 13, 3]⟩,
  ⟨some 74, .pick (.t 62) (.c (.bool true)) (.t 73), none, [3, 14]⟩,
  ⟨some 75, .mv (.t 74), none, [15, 12]⟩,
  ⟨some 76, .mv (.t 9), some (75, false), [16]⟩,
  ⟨some 77, .mv (.t 76), some (75, false), [17, 16, 16]⟩,
  ⟨some 78, .mv (.t 12), some (77, true), [18]⟩,
  ⟨some 79, .un .not (.t 78), some (77, true), [19, 18]⟩,
  ⟨some 80, .pick (.t 77) (.t 79) (.c (.bool false)), some (75, false), [18, 20, 16]⟩,
  ⟨some 81, .pick (.t 75) (.c (.bool true)) (.t 80), none, [16, 21]⟩]
abbrev r4_12 : List AOper := [
  ⟨some 6, .mv (.c (.bool false)), none, []⟩]
abbrev r4_13 : List AOper := [
  ⟨some 82, .mv (.t 9), none, []⟩,
  ⟨some 83, .un .not (.t 82), none, [0]⟩]
abbrev r4_14 : List AOper := [
  ⟨some 6, .mv (.c (.bool true)), none, []⟩]
abbrev r4_15 : List AOper := [
  ⟨some 84, .faddr 4 (.t 8), none, []⟩,
  ⟨some 85, .load none (.t 84), none, [0]⟩,
  ⟨some 86, .len 1 (.t 85), none, [1]⟩,
  ⟨some 87, .mv (.t 0), none, []⟩,
  ⟨some 88, .len 1 (.t 87), none, [3]⟩,
  ⟨some 89, .bin .neq (.t 86) (.t 88), none, [2, 4]⟩]
abbrev r4_16 : List AOper := [
  ⟨some 6, .mv (.c (.bool false)), none, []⟩]
abbrev r4_17 : List AOper := [
  ⟨some 13, .mv (.c (.int .i64 0)), none, []⟩]
abbrev r4_18 : List AOper := [
  ⟨some 90, .mv (.t 13), none, []⟩,
  ⟨some 91, .mv (.t 0), none, []⟩,
  ⟨some 92, .len 1 (.t 91), none, [1]⟩,
  ⟨some 93, .bin .lss (.t 90) (.t 92), none, [0, 2]⟩]
abbrev r4_20 : List AOper := [
  ⟨some 96, .mv (.t 13), none, []⟩,
  ⟨some 97, .bin .add (.t 96) (.c (.int .i64 1)), none, [0]⟩,
  ⟨some 98, .mv (.t 1), none, []⟩,
  ⟨some 99, .bin .eql (.t 97) (.t 98), none, [1, 2]⟩]
abbrev r4_21 : List AOper := [
  ⟨some 100, .faddr 4 (.t 8), none, []⟩,
  ⟨some 101, .load none (.t 100), none, [0]⟩,
  ⟨some 102, .mv (.t 13), none, []⟩,
  ⟨some 103, .iaddr 5 (.t 101) (.t 102), none, [1, 2]⟩,
  ⟨some 104, .load (some 5) (.t 103), none, [3]⟩,
  ⟨some 105, .load (some 5) (.t 5), none, []⟩,
  ⟨some 106, .callF 11 [(.t 104), (.t 105)], none, [4, 5]⟩,
  ⟨some 107, .un .not (.t 106), none, [6]⟩]
abbrev r4_22 : List AOper := [
  ⟨some 6, .mv (.c (.bool false)), none, []⟩]
abbrev r4_23 : List AOper := [
  ⟨some 108, .faddr 4 (.t 8), none, []⟩,
  ⟨some 109, .load none (.t 108), none, [0]⟩,
  ⟨some 110, .mv (.t 13), none, []⟩,
  ⟨some 111, .iaddr 5 (.t 109) (.t 110), none, [1, 2]⟩,
  ⟨some 112, .load (some 5) (.t 111), none, [3]⟩,
  ⟨some 113, .mv (.t 0), none, []⟩,
  ⟨some 114, .mv (.t 13), none, []⟩,
  ⟨some 115, .iaddr 5 (.t 113) (.t 114), none, [5, 6]⟩,
  ⟨some 116, .load (some 5) (.t 115), none, [7]⟩,
  ⟨some 117, .callF 11 [(.t 112), (.t 116)], none, [4, 8]⟩,
  ⟨some 118, .un .not (.t 117), none, [9]⟩]
abbrev r4_24 : List AOper := [
  ⟨some 6, .mv (.c (.bool false)), none, []⟩]
abbrev r4_19 : List AOper := [
  ⟨some 94, .mv (.t 13), none, []⟩,
  ⟨some 95, .bin .add (.t 94) (.c (.int .i64 1)), none, [0]⟩,
  ⟨some 13, .mv (.t 95), none, [1, 0, 1]⟩]
def l4_0 : ACode :=
  .seq (
  .seq (
  .region false r4_18 [0, 1, 5, 8, 13, 93]) (
  .cond (.t 93) (
    .skip) (
    .exit 0))) (
  .seq (
  .block 1 (
    .seq (
    .region false r4_20 [0, 1, 5, 8, 13, 99]) (
    .cond (.t 99) (
      .seq (
      .region true r4_21 [0, 1, 5, 8, 13, 107]) (
      .cond (.t 107) (
        .seq (
        .region false r4_22 [6]) (
        .ret)) (
        .skip))) (
      .seq (
      .region true r4_23 [0, 1, 5, 8, 13, 118]) (
      .cond (.t 118) (
        .seq (
        .region false r4_24 [6]) (
        .ret)) (
        .skip)))))) (
  .region false r4_19 [0, 1, 5, 8, 13]))
abbrev r4_25 : List AOper := [
  ⟨some 6, .mv (.c (.bool true)), none, []⟩]
def m4_8 : List Nat := [0, 1, 0, 0, 15, 31, 63, 127, 127, 0, 767, 2047]
def m4_9 : List Nat := [0, 1, 0, 7, 15, 31, 63, 63, 0, 383, 1023]
def m4_11 : List Nat := [0, 0, 3, 7, 15, 31, 63, 63, 63, 319, 959, 1983, 4095, 8191, 16383, 32767, 65535, 131071, 262143, 524287, 1048575, 2097151, 4194303]
theorem d4_11 : okDraw r4_11 m4_11 = true := by kernel_rfl
def m4_21 : List Nat := [0, 1, 0, 7, 15, 0, 63, 127]
theorem d4_21 : okDraw r4_21 m4_21 = true := by kernel_rfl
def m4_23 : List Nat := [0, 1, 0, 7, 15, 0, 0, 96, 224, 511, 1023]
theorem d4_23 : okDraw r4_23 m4_23 = true := by kernel_rfl
def k4 : List (List Nat) := [[0, 1, 5], [0, 1, 5, 15], [6], [0, 1, 5, 7], [0, 1, 5, 7, 27], [6], [0, 1, 5, 7, 33], [6], [0, 1, 5, 7, 8, 9], [0, 1, 5, 8, 9, 10, 11], [0, 1, 5, 8, 9, 10, 11, 12], [0, 1, 5, 8, 9, 81], [6], [0, 1, 5, 8, 83], [6], [0, 1, 5, 8, 89], [6], [0, 1, 5, 8, 13], [0, 1, 5, 8, 13, 93], [0, 1, 5, 8, 13], [0, 1, 5, 8, 13, 99], [0, 1, 5, 8, 13, 107], [6], [0, 1, 5, 8, 13, 118], [6], [6]]
def f4 : AFunc := { ntmps := 119, results := [.tmp 6], body := (
  .seq (
  .region false r4_0 [0, 1, 5]) (
  .seq (
  .seq (
  .region false r4_1 [0, 1, 5, 15]) (
  .cond (.t 15) (
    .seq (
    .region false r4_2 [6]) (
    .ret)) (
    .skip))) (
  .seq (
  .region false r4_3 [0, 1, 5, 7]) (
  .seq (
  .seq (
  .region false r4_4 [0, 1, 5, 7, 27]) (
  .cond (.t 27) (
    .seq (
    .region false r4_5 [6]) (
    .ret)) (
    .skip))) (
  .seq (
  .seq (
  .region false r4_6 [0, 1, 5, 7, 33]) (
  .cond (.t 33) (
    .seq (
    .region false r4_7 [6]) (
    .ret)) (
    .skip))) (
  .seq (
  .region true r4_8 [0, 1, 5, 7, 8, 9]) (
  .seq (
  .region true r4_9 [0, 1, 5, 8, 9, 10, 11]) (
  .seq (
  .region false r4_10 [0, 1, 5, 8, 9, 10, 11, 12]) (
  .seq (
  .seq (
  .region true r4_11 [0, 1, 5, 8, 9, 81]) (
  .cond (.t 81) (
    .seq (
    .region false r4_12 [6]) (
    .ret)) (
    .skip))) (
  .seq (
  .seq (
  .region false r4_13 [0, 1, 5, 8, 83]) (
  .cond (.t 83) (
    .seq (
    .region false r4_14 [6]) (
    .ret)) (
    .skip))) (
  .seq (
  .seq (
  .region false r4_15 [0, 1, 5, 8, 89]) (
  .cond (.t 89) (
    .seq (
    .region false r4_16 [6]) (
    .ret)) (
    .skip))) (
  .seq (
  .seq (
  .region false r4_17 [0, 1, 5, 8, 13]) (
  .block 0 (
    .loop l4_0))) (
  .seq (
  .region false r4_25 [6]) (
  .ret)))))))))))))) }
theorem c4 : cfunc Tryz.prog (kof k4) Tryz.f4 = some f4 := by kernel_rfl

/-- exitwave/exitwavelaw2.Twin -/
abbrev r11_0 : List AOper := [
  ⟨some 2, .box 25 (.t 0), none, []⟩,
  ⟨some 3, .box 25 (.t 1), none, []⟩,
  ⟨some 4, .mv (.c (.bool false)), none, []⟩]
abbrev r11_1 : List AOper := [
  ⟨some 6, .faddr 0 (.t 2), none, []⟩,
  ⟨some 7, .load none (.t 6), none, [0]⟩,
  ⟨some 8, .faddr 0 (.t 3), none, []⟩,
  ⟨some 9, .load none (.t 8), none, [2]⟩,
  ⟨some 10, .bin .neq (.t 7) (.t 9), none, [1, 3]⟩,
  ⟨some 11, .mv (.t 10), none, [4]⟩,
  ⟨some 12, .faddr 1 (.t 2), some (11, false), [5]⟩,
  ⟨some 13, .load none (.t 12), some (11, false), [6, 5]⟩,
  ⟨some 14, .faddr 1 (.t 3), some (11, false), [5]⟩,
  ⟨some 15, .load none (.t 14), some (11, false), [8, 5]⟩,
  ⟨some 16, .bin .neq (.t 13) (.t 15), some (11, false), [7, 9, 5]⟩,
  ⟨some 17, .pick (.t 11) (.c (.bool true)) (.t 16), none, [5, 10]⟩,
  ⟨some 18, .mv (.t 17), none, [11, 5]⟩,
  ⟨some 19, .faddr 3 (.t 2), some (18, false), [12]⟩,
  ⟨some 20, .load none (.t 19), some (18, false), [13, 12]⟩,
  ⟨some 21, .faddr 3 (.t 3), some (18, false), [12]⟩,
  ⟨some 22, .load none (.t 21), some (18, false), [15, 12]⟩,
  ⟨some 23, .bin .neq (.t 20) (.t 22), some (18, false), [14, 16, 12]⟩,
  ⟨some 24, .pick (.t 18) (.c (.bool true)) (.t 23), none, [12, 17]⟩,
  ⟨some 25, .mv (.t 24), none, [18, 12]⟩,
  ⟨some 26, .faddr 2 (.t 2), some (25, false), [19]⟩,
  ⟨some 27, .load none (.t 26), some (25, false), [20, 19]⟩,
  ⟨some 28, .ext 0 [(.t 27)], some (25, false), [21, 19, 19]⟩,
  ⟨some 29, .faddr 2 (.t 3), some (25, false), [19]⟩,
  ⟨some 30, .load none (.t 29), some (25, false), [23, 19]⟩,
  ⟨some 31, .ext 0 [(.t 30)], some (25, false), [24, 22, 19]⟩,
  ⟨some 32, .bin .neq (.t 28) (.t 31), some (25, false), [22, 25, 19]⟩,
  ⟨some 33, .pick (.t 25) (.c (.bool true)) (.t 32), none, [19, 26]⟩,
  ⟨some 34, .mv (.t 33), none, [27, 25]⟩,
  ⟨some 35, .faddr 4 (.t 2), some (34, false), [28]⟩,
  ⟨some 36, .load none (.t 35), some (34, false), [29, 28]⟩,
  ⟨some 37, .len 1 (.t 36), some (34, false), [30, 28]⟩,
  ⟨some 38, .faddr 4 (.t 3), some (34, false), [28]⟩,
  ⟨some 39, .load none (.t 38), some (34, false), [32, 28]⟩,
  ⟨some 40, .len 1 (.t 39), some (34, false), [33, 28]⟩,
  ⟨some 41, .bin .neq (.t 37) (.t 40), some (34, false), [31, 34, 28]⟩,
  ⟨some 42, .pick (.t 34) (.c (.bool true)) (.t 41), none, [28, 35]⟩]
abbrev r11_2 : List AOper := [
  ⟨some 4, .mv (.c (.bool false)), none, []⟩]
abbrev r11_3 : List AOper := [
  ⟨some 5, .mv (.c (.int .i64 0)), none, []⟩]
abbrev r11_4 : List AOper := [
  ⟨some 43, .mv (.t 5), none, []⟩,
  ⟨some 44, .faddr 4 (.t 2), none, []⟩,
  ⟨some 45, .load none (.t 44), none, [1]⟩,
  ⟨some 46, .len 1 (.t 45), none, [2]⟩,
  ⟨some 47, .bin .lss (.t 43) (.t 46), none, [0, 3]⟩]
abbrev r11_6 : List AOper := [
  ⟨some 50, .faddr 4 (.t 2), none, []⟩,
  ⟨some 51, .load none (.t 50), none, [0]⟩,
  ⟨some 52, .mv (.t 5), none, []⟩,
  ⟨some 53, .iaddr 5 (.t 51) (.t 52), none, [1, 2]⟩,
  ⟨some 54, .load (some 5) (.t 53), none, [3]⟩,
  ⟨some 55, .faddr 4 (.t 3), none, []⟩,
  ⟨some 56, .load none (.t 55), none, [5]⟩,
  ⟨some 57, .mv (.t 5), none, []⟩,
  ⟨some 58, .iaddr 5 (.t 56) (.t 57), none, [6, 7]⟩,
  ⟨some 59, .load (some 5) (.t 58), none, [8]⟩,
  ⟨some 60, .callF 11 [(.t 54), (.t 59)], none, [4, 9]⟩,
  ⟨some 61, .un .not (.t 60), none, [10]⟩]
abbrev r11_7 : List AOper := [
  ⟨some 4, .mv (.c (.bool false)), none, []⟩]
abbrev r11_5 : List AOper := [
  ⟨some 48, .mv (.t 5), none, []⟩,
  ⟨some 49, .bin .add (.t 48) (.c (.int .i64 1)), none, [0]⟩,
  ⟨some 5, .mv (.t 49), none, [1, 0, 1]⟩]
def l11_0 : ACode :=
  .seq (
  .seq (
  .region false r11_4 [2, 3, 5, 47]) (
  .cond (.t 47) (
    .skip) (
    .exit 0))) (
  .seq (
  .block 1 (
    .seq (
    .region true r11_6 [2, 3, 5, 61]) (
    .cond (.t 61) (
      .seq (
      .region false r11_7 [4]) (
      .ret)) (
      .skip)))) (
  .region false r11_5 [2, 3, 5]))
abbrev r11_8 : List AOper := [
  ⟨some 4, .mv (.c (.bool true)), none, []⟩]
def m11_1 : List Nat := [0, 1, 0, 4, 15, 31, 63, 127, 63, 319, 1023, 2047, 4095, 8191, 16383, 8191, 40959, 131071, 262143, 524287, 1048575, 2097151, 4194303, 1048575, 9437183, 33554431, 67108863, 134217727, 268435455, 536870911, 1073741823, 2147483647, 536870911, 4831838207, 13421772799, 34359738367, 68719476735]
theorem d11_1 : okDraw r11_1 m11_1 = true := by kernel_rfl
def m11_6 : List Nat := [0, 1, 0, 7, 15, 0, 32, 0, 224, 480, 1023, 2047]
theorem d11_6 : okDraw r11_6 m11_6 = true := by kernel_rfl
def k11 : List (List Nat) := [[2, 3], [2, 3, 42], [4], [2, 3, 5], [2, 3, 5, 47], [2, 3, 5], [2, 3, 5, 61], [4], [4]]
def f11 : AFunc := { ntmps := 62, results := [.tmp 4], body := (
  .seq (
  .region false r11_0 [2, 3]) (
  .seq (
  .seq (
  .region true r11_1 [2, 3, 42]) (
  .cond (.t 42) (
    .seq (
    .region false r11_2 [4]) (
    .ret)) (
    .skip))) (
  .seq (
  .seq (
  .region false r11_3 [2, 3, 5]) (
  .block 0 (
    .loop l11_0))) (
  .seq (
  .region false r11_8 [4]) (
  .ret))))) }
theorem c11 : cfunc Tryz.prog (kof k11) Tryz.f11 = some f11 := by kernel_rfl

/-- (*exitwave/bif.call).setelement -/
abbrev r116_0 : List AOper := [
  ⟨some 2, .alloc 25 (.agg [.int .i64 0, .int .i64 0, .flt .f64 0, .str ⟨#[]⟩, .nils]), none, []⟩]
abbrev r116_1 : List AOper := [
  ⟨some 4, .mv (.t 0), none, []⟩,
  ⟨some 5, .callF 47 [(.t 4), (.c (.int .i64 1)), (.c (.int .i64 7))], none, [0]⟩,
  ⟨some 6, .fld 4 none (.t 5), none, [1]⟩,
  ⟨some 7, .callF 151 [(.t 6)], none, [2, 1]⟩,
  ⟨some 3, .mv (.t 7), none, [3, 3, 0, 1, 2, 3]⟩]
abbrev r116_2 : List AOper := [
  ⟨some 8, .mv (.t 3), none, []⟩,
  ⟨some 9, .mv (.t 0), none, []⟩,
  ⟨some 10, .mv (.t 3), none, []⟩,
  ⟨some 11, .len 1 (.t 10), none, [2]⟩,
  ⟨some 12, .callF 110 [(.t 9), (.t 11)], none, [1, 3]⟩,
  ⟨some 13, .mv (.t 0), none, []⟩,
  ⟨some 14, .nilchk (.t 13), none, [5]⟩,
  ⟨some 15, .faddr 0 (.t 14), none, [6]⟩,
  ⟨some 16, .load none (.t 15), none, [7]⟩,
  ⟨some 17, .iaddr 5 (.t 16) (.c (.int .i64 2)), none, [8]⟩,
  ⟨some 18, .load (some 5) (.t 17), none, [9]⟩,
  ⟨some 19, .iaddr 5 (.t 8) (.t 12), none, [0, 4, 0, 1, 2, 3, 4, 5, 6, 7, 8, 9, 10]⟩,
  ⟨none, .store 5 (.t 19) (.t 18), none, [11, 10, 4, 0, 1, 2, 3, 4, 5, 6, 7, 8, 9, 10]⟩]
abbrev r116_3 : List AOper := [
  ⟨some 20, .mv (.t 3), none, []⟩,
  ⟨some 21, .callF 119 [(.t 20)], none, [0]⟩,
  ⟨some 22, .extract (.t 21) 0, none, [1]⟩,
  ⟨some 23, .extract (.t 21) 1, none, [1]⟩,
  ⟨some 24, .callF 35 [(.t 22), (.t 23)], none, [2, 3, 1]⟩,
  ⟨none, .store 5 (.t 2) (.t 24), none, [4, 4, 0, 1, 2, 3, 4]⟩]
def m116_2 : List Nat := [0, 0, 0, 4, 14, 0, 32, 96, 224, 480, 992, 2047, 4095]
theorem d116_2 : okDraw r116_2 m116_2 = true := by kernel_rfl
def k116 : List (List Nat) := [[0, 2], [0, 2, 3], [2, 3], [2]]
def f116 : AFunc := { ntmps := 25, results := [.cell 2 (some 5)], body := (
  .seq (
  .region false r116_0 [0, 2]) (
  .seq (
  .region false r116_1 [0, 2, 3]) (
  .seq (
  .region true r116_2 [2, 3]) (
  .seq (
  .region false r116_3 [2]) (
  .ret))))) }
theorem c116 : cfunc Tryz.prog (kof k116) Tryz.f116 = some f116 := by kernel_rfl

/-- slices.Clone[[]exitwave/api.Term,exitwave/api.Term] -/
abbrev r151_0 : List AOper := [
  ⟨some 2, .mv (.c (.nils)), none, []⟩]
abbrev r151_1 : List AOper := [
  ⟨some 3, .mv (.t 0), none, []⟩,
  ⟨some 4, .eqN 1 false (.t 3) (.c (.nils)), none, [0]⟩]
abbrev r151_2 : List AOper := [
  ⟨some 2, .mv (.c (.nils)), none, []⟩]
abbrev r151_3 : List AOper := [
  ⟨some 5, .bslice 25 0 [] [], none, []⟩,
  ⟨some 6, .mv (.t 0), none, []⟩,
  ⟨some 7, .app 25 5 64 (.t 5) (.t 6), none, [0, 1]⟩,
  ⟨some 2, .mv (.t 7), none, [2, 2, 0, 1, 2]⟩]
def k151 : List (List Nat) := [[0], [0, 4], [2], [2]]
def f151 : AFunc := { ntmps := 8, results := [.tmp 2], body := (
  .seq (
  .region false r151_0 [0]) (
  .seq (
  .seq (
  .region false r151_1 [0, 4]) (
  .cond (.t 4) (
    .seq (
    .region false r151_2 [2]) (
    .ret)) (
    .skip))) (
  .seq (
  .region false r151_3 [2]) (
  .ret)))) }
theorem c151 : cfunc Tryz.prog (kof k151) Tryz.f151 = some f151 := by kernel_rfl

/-- exitwave/term.Tuple -/
abbrev r119_0 : List AOper := [
  ⟨some 2, .alloc 25 (.agg [.int .i64 0, .int .i64 0, .flt .f64 0, .str ⟨#[]⟩, .nils]), none, []⟩,
  ⟨some 3, .mv (.c (.int .i64 0)), none, []⟩]
abbrev r119_1 : List AOper := [
  ⟨some 4, .mv (.t 0), none, []⟩,
  ⟨some 5, .callF 100 [(.c (.int .i64 7)), (.t 4)], none, [0]⟩,
  ⟨some 6, .extract (.t 5) 0, none, [1]⟩,
  ⟨some 7, .extract (.t 5) 1, none, [1]⟩,
  ⟨none, .store 5 (.t 2) (.t 6), none, [2, 1, 0, 1, 2, 3]⟩,
  ⟨some 3, .mv (.t 7), none, [3, 4, 0, 1, 2, 3, 4]⟩]
def k119 : List (List Nat) := [[0, 2], [2, 3]]
def f119 : AFunc := { ntmps := 8, results := [.cell 2 (some 5), .tmp 3], body := (
  .seq (
  .region false r119_0 [0, 2]) (
  .seq (
  .region false r119_1 [2, 3]) (
  .ret))) }
theorem c119 : cfunc Tryz.prog (kof k119) Tryz.f119 = some f119 := by kernel_rfl

/-- exitwave/term.made -/
abbrev r100_0 : List AOper := [
  ⟨some 4, .alloc 25 (.agg [.int .i64 0, .int .i64 0, .flt .f64 0, .str ⟨#[]⟩, .nils]), none, []⟩,
  ⟨some 5, .mv (.c (.int .i64 0)), none, []⟩]
abbrev r100_1 : List AOper := [
  ⟨some 10, .mv (.t 1), none, []⟩,
  ⟨some 11, .len 1 (.t 10), none, [0]⟩,
  ⟨some 12, .mv (.c (.int .i64 0)), none, []⟩]
abbrev r100_2 : List AOper := [
  ⟨some 13, .bin .lss (.t 12) (.t 11), none, []⟩]
abbrev r100_3 : List AOper := [
  ⟨some 14, .iaddr 5 (.t 10) (.t 12), none, []⟩,
  ⟨some 15, .load (some 5) (.t 14), none, [0]⟩,
  ⟨some 7, .alloc 25 (.agg [.int .i64 0, .int .i64 0, .flt .f64 0, .str ⟨#[]⟩, .nils]), none, []⟩,
  ⟨none, .store 5 (.t 7) (.t 15), none, [2, 1, 0, 1, 2]⟩]
abbrev r100_4 : List AOper := [
  ⟨some 16, .load (some 5) (.t 7), none, []⟩,
  ⟨some 17, .callF 87 [(.t 16)], none, [0]⟩,
  ⟨some 8, .mv (.t 17), none, [1, 1, 0, 1]⟩]
abbrev r100_5 : List AOper := [
  ⟨some 18, .mv (.t 8), none, []⟩,
  ⟨some 19, .bin .neq (.t 18) (.c (.int .i64 0)), none, [0]⟩]
abbrev r100_6 : List AOper := [
  ⟨some 20, .build [.int .i64 0, .int .i64 0, .flt .f64 0, .str ⟨#[]⟩, .nils] [], none, []⟩,
  ⟨some 21, .mv (.t 8), none, []⟩,
  ⟨none, .store 5 (.t 4) (.t 20), none, [0, 0]⟩,
  ⟨some 5, .mv (.t 21), none, [1, 2, 0, 1, 2]⟩]
abbrev r100_7 : List AOper := [
  ⟨some 22, .bin .add (.t 12) (.c (.int .i64 1)), none, []⟩,
  ⟨some 12, .mv (.t 22), none, [0]⟩]
def l100_0 : ACode :=
  .seq (
  .region false r100_2 [0, 1, 4, 10, 11, 12, 13]) (
  .seq (
  .cond (.t 13) (
    .skip) (
    .exit 0)) (
  .seq (
  .block 1 (
    .seq (
    .region false r100_3 [0, 1, 4, 7, 10, 11, 12]) (
    .seq (
    .region false r100_4 [0, 1, 4, 8, 10, 11, 12]) (
    .seq (
    .region false r100_5 [0, 1, 4, 8, 10, 11, 12, 19]) (
    .cond (.t 19) (
      .seq (
      .region false r100_6 [4, 5]) (
      .ret)) (
      .skip)))))) (
  .region false r100_7 [0, 1, 4, 10, 11, 12])))
abbrev r100_8 : List AOper := [
  ⟨some 23, .mv (.t 0), none, []⟩,
  ⟨some 24, .mv (.t 1), none, []⟩,
  ⟨some 25, .build [.int .i64 0, .int .i64 0, .flt .f64 0, .str ⟨#[]⟩, .nils] [(0, 1, (.t 23)), (4, 1, (.t 24))], none, [0, 1]⟩,
  ⟨some 9, .alloc 25 (.agg [.int .i64 0, .int .i64 0, .flt .f64 0, .str ⟨#[]⟩, .nils]), none, []⟩,
  ⟨none, .store 5 (.t 9) (.t 25), none, [3, 2, 0, 1, 2, 3]⟩]
abbrev r100_9 : List AOper := [
  ⟨some 26, .load (some 5) (.t 9), none, []⟩,
  ⟨some 27, .callF 87 [(.t 26)], none, [0]⟩,
  ⟨some 28, .bin .neq (.t 27) (.c (.int .i64 0)), none, [1]⟩]
abbrev r100_10 : List AOper := [
  ⟨some 29, .build [.int .i64 0, .int .i64 0, .flt .f64 0, .str ⟨#[]⟩, .nils] [], none, []⟩,
  ⟨none, .store 5 (.t 4) (.t 29), none, [0, 0]⟩,
  ⟨some 5, .mv (.c (.int .i64 12)), none, [1, 0, 1]⟩]
abbrev r100_11 : List AOper := [
  ⟨some 30, .load (some 5) (.t 9), none, []⟩,
  ⟨some 31, .callF 50 [(.t 30)], none, [0]⟩,
  ⟨none, .store 5 (.t 4) (.t 31), none, [1, 1, 0, 1]⟩,
  ⟨some 5, .mv (.c (.int .i64 0)), none, [2, 0, 1, 2]⟩]
def k100 : List (List Nat) := [[0, 1, 4], [0, 1, 4, 10, 11, 12], [0, 1, 4, 10, 11, 12, 13], [0, 1, 4, 7, 10, 11, 12], [0, 1, 4, 8, 10, 11, 12], [0, 1, 4, 8, 10, 11, 12, 19], [4, 5], [0, 1, 4, 10, 11, 12], [4, 9], [4, 9, 28], [4, 5], [4, 5]]
def f100 : AFunc := { ntmps := 32, results := [.cell 4 (some 5), .tmp 5], body := (
  .seq (
  .region false r100_0 [0, 1, 4]) (
  .seq (
  .seq (
  .region false r100_1 [0, 1, 4, 10, 11, 12]) (
  .block 0 (
    .loop l100_0))) (
  .seq (
  .region false r100_8 [4, 9]) (
  .seq (
  .seq (
  .region false r100_9 [4, 9, 28]) (
  .cond (.t 28) (
    .seq (
    .region false r100_10 [4, 5]) (
    .ret)) (
    .skip))) (
  .seq (
  .region false r100_11 [4, 5]) (
  .ret)))))) }
theorem c100 : cfunc Tryz.prog (kof k100) Tryz.f100 = some f100 := by kernel_rfl

/-- exitwave/bif.right -/
abbrev r35_0 : List AOper := [
  ⟨some 2, .box 25 (.t 0), none, []⟩,
  ⟨some 4, .alloc 25 (.agg [.int .i64 0, .int .i64 0, .flt .f64 0, .str ⟨#[]⟩, .nils]), none, []⟩]
abbrev r35_1 : List AOper := [
  ⟨some 5, .mv (.t 1), none, []⟩,
  ⟨some 6, .bin .neq (.t 5) (.c (.int .i64 0)), none, [0]⟩]
abbrev r35_2 : List AOper := [
  ⟨some 7, .mv (.t 1), none, []⟩,
  ⟨some 8, .mkifc 36 (.t 7), none, [0]⟩,
  ⟨none, .pan (.t 8), none, [1]⟩]
abbrev r35_3 : List AOper := [
  ⟨some 9, .load (some 5) (.t 2), none, []⟩,
  ⟨none, .store 5 (.t 4) (.t 9), none, [0, 0]⟩]
def k35 : List (List Nat) := [[1, 2, 4], [1, 2, 4, 6], [2, 4], [4]]
def f35 : AFunc := { ntmps := 10, results := [.cell 4 (some 5)], body := (
  .seq (
  .region false r35_0 [1, 2, 4]) (
  .seq (
  .seq (
  .region false r35_1 [1, 2, 4, 6]) (
  .cond (.t 6) (
    .region false r35_2 [2, 4]) (
    .skip))) (
  .seq (
  .region false r35_3 [4]) (
  .ret)))) }
theorem c35 : cfunc Tryz.prog (kof k35) Tryz.f35 = some f35 := by kernel_rfl


end Go.Am.Rl
