/- The functions, in the abstract machine's form (written by gen.py). -/
import Derived.Test.YtilfjbbfabcdlaaGreatDoorFn
import Derived.Test.YtilfjbbfabcdlaaGreatDoorProg
set_option linter.unusedVariables false
namespace Go.Am.Rl
open Go.Proofs
set_option maxRecDepth 20000

/-- exitwave/exitwavelaw9.BifKinds -/
abbrev r3_0 : List AOper := [
  ⟨some 1, .box 25 (.t 0), none, []⟩,
  ⟨some 2, .mv (.c (.bool false)), none, []⟩]
abbrev r3_1 : List AOper := [
  ⟨some 13, .callF 7 [], none, []⟩,
  ⟨some 14, .un .not (.t 13), none, [0]⟩]
abbrev r3_2 : List AOper := [
  ⟨some 2, .mv (.c (.bool false)), none, []⟩]
abbrev r3_3 : List AOper := [
  ⟨some 15, .load (some 5) (.t 1), none, []⟩,
  ⟨some 16, .bslice 25 1 [.int .i64 0, .int .i64 0, .flt .f64 0, .str ⟨#[]⟩, .nils] [(0, 5, (.t 15))], none, [0]⟩,
  ⟨some 17, .callF 8 [(.t 16)], none, [1]⟩,
  ⟨some 18, .un .not (.t 17), none, [2]⟩]
abbrev r3_4 : List AOper := [
  ⟨some 2, .mv (.c (.bool true)), none, []⟩]
abbrev r3_5 : List AOper := [
  ⟨some 19, .bslice 9 8 [.str ⟨#[]⟩, .str ⟨#[]⟩, .str ⟨#[]⟩, .str ⟨#[]⟩, .str ⟨#[]⟩, .str ⟨#[]⟩, .str ⟨#[]⟩, .str ⟨#[]⟩] [(0, 1, (.c (.str ⟨#[105, 115, 95, 97, 116, 111, 109]⟩))), (1, 1, (.c (.str ⟨#[105, 115, 95, 105, 110, 116, 101, 103, 101, 114]⟩))), (2, 1, (.c (.str ⟨#[105, 115, 95, 102, 108, 111, 97, 116]⟩))), (3, 1, (.c (.str ⟨#[105, 115, 95, 108, 105, 115, 116]⟩))), (4, 1, (.c (.str ⟨#[105, 115, 95, 116, 117, 112, 108, 101]⟩))), (5, 1, (.c (.str ⟨#[105, 115, 95, 112, 105, 100]⟩))), (6, 1, (.c (.str ⟨#[105, 115, 95, 114, 101, 102, 101, 114, 101, 110, 99, 101]⟩))), (7, 1, (.c (.str ⟨#[105, 115, 95, 102, 117, 110, 99, 116, 105, 111, 110]⟩)))], none, []⟩,
  ⟨some 3, .mv (.t 19), none, [0, 0]⟩]
abbrev r3_6 : List AOper := [
  ⟨some 4, .mv (.c (.int .i64 0)), none, []⟩]
abbrev r3_7 : List AOper := [
  ⟨some 5, .mv (.c (.nils)), none, []⟩]
abbrev r3_8 : List AOper := [
  ⟨some 6, .mv (.c (.int .i64 0)), none, []⟩]
abbrev r3_9 : List AOper := [
  ⟨some 20, .mv (.t 6), none, []⟩,
  ⟨some 21, .mv (.t 3), none, []⟩,
  ⟨some 22, .len 1 (.t 21), none, [1]⟩,
  ⟨some 23, .bin .lss (.t 20) (.t 22), none, [0, 2]⟩]
abbrev r3_11 : List AOper := [
  ⟨some 27, .mv (.t 3), none, []⟩,
  ⟨some 28, .mv (.t 6), none, []⟩,
  ⟨some 29, .iaddr 1 (.t 27) (.t 28), none, [0, 1]⟩,
  ⟨some 30, .load none (.t 29), none, [2]⟩,
  ⟨some 31, .load (some 5) (.t 1), none, []⟩,
  ⟨some 32, .bslice 25 1 [.int .i64 0, .int .i64 0, .flt .f64 0, .str ⟨#[]⟩, .nils] [(0, 5, (.t 31))], none, [4]⟩,
  ⟨some 33, .callF 9 [(.t 30), (.t 32)], none, [3, 5]⟩,
  ⟨some 26, .mv (.t 33), none, [6]⟩,
  ⟨some 34, .extract (.t 26) 0, none, [7]⟩,
  ⟨some 35, .extract (.t 26) 1, none, [7]⟩,
  ⟨some 7, .alloc 25 (.agg [.int .i64 0, .int .i64 0, .flt .f64 0, .str ⟨#[]⟩, .nils]), none, []⟩,
  ⟨none, .store 5 (.t 7) (.t 34), none, [10, 8, 6, 0, 1, 2, 3, 4, 5, 6, 7, 8, 10]⟩,
  ⟨some 8, .mv (.t 35), none, [9, 11, 0, 1, 2, 3, 4, 5, 6, 7, 8, 9, 10, 11]⟩]
abbrev r3_12 : List AOper := [
  ⟨some 36, .mv (.t 8), none, []⟩,
  ⟨some 37, .un .not (.t 36), none, [0]⟩,
  ⟨some 38, .mv (.t 37), none, [1]⟩,
  ⟨some 39, .faddr 3 (.t 7), some (38, false), [2]⟩,
  ⟨some 40, .load none (.t 39), some (38, false), [3, 2]⟩,
  ⟨some 41, .bin .neq (.t 40) (.c (.str ⟨#[116, 114, 117, 101]⟩)), some (38, false), [4, 2]⟩,
  ⟨some 42, .mv (.t 41), some (38, false), [5, 2, 2]⟩,
  ⟨some 43, .faddr 3 (.t 7), some (42, true), [6]⟩,
  ⟨some 44, .load none (.t 43), some (42, true), [7, 6]⟩,
  ⟨some 45, .bin .neq (.t 44) (.c (.str ⟨#[102, 97, 108, 115, 101]⟩)), some (42, true), [8, 6]⟩,
  ⟨some 46, .pick (.t 42) (.t 45) (.c (.bool false)), some (38, false), [6, 9, 2]⟩,
  ⟨some 47, .pick (.t 38) (.c (.bool true)) (.t 46), none, [2, 10]⟩]
abbrev r3_13 : List AOper := [
  ⟨some 2, .mv (.c (.bool false)), none, []⟩]
abbrev r3_14 : List AOper := [
  ⟨some 48, .mv (.t 5), none, []⟩,
  ⟨some 49, .faddr 3 (.t 7), none, []⟩,
  ⟨some 50, .load none (.t 49), none, [1]⟩,
  ⟨some 51, .bin .eql (.t 50) (.c (.str ⟨#[116, 114, 117, 101]⟩)), none, [2]⟩,
  ⟨some 52, .bslice 4 1 [.bool false] [(0, 1, (.t 51))], none, [3]⟩,
  ⟨some 53, .app 4 1 1 (.t 48) (.t 52), none, [0, 4]⟩,
  ⟨some 5, .mv (.t 53), none, [5, 5, 0, 1, 2, 3, 4, 5]⟩]
abbrev r3_15 : List AOper := [
  ⟨some 54, .faddr 3 (.t 7), none, []⟩,
  ⟨some 55, .load none (.t 54), none, [0]⟩,
  ⟨some 56, .bin .eql (.t 55) (.c (.str ⟨#[116, 114, 117, 101]⟩)), none, [1]⟩]
abbrev r3_16 : List AOper := [
  ⟨some 57, .mv (.t 4), none, []⟩,
  ⟨some 58, .bin .add (.t 57) (.c (.int .i64 1)), none, [0]⟩,
  ⟨some 4, .mv (.t 58), none, [1, 0, 1]⟩]
abbrev r3_10 : List AOper := [
  ⟨some 24, .mv (.t 6), none, []⟩,
  ⟨some 25, .bin .add (.t 24) (.c (.int .i64 1)), none, [0]⟩,
  ⟨some 6, .mv (.t 25), none, [1, 0, 1]⟩]
def l3_0 : ACode :=
  .seq (
  .seq (
  .region false r3_9 [1, 3, 4, 5, 6, 23]) (
  .cond (.t 23) (
    .skip) (
    .exit 0))) (
  .seq (
  .block 1 (
    .seq (
    .region true r3_11 [1, 3, 4, 5, 6, 7, 8]) (
    .seq (
    .seq (
    .region false r3_12 [1, 3, 4, 5, 6, 7, 47]) (
    .cond (.t 47) (
      .seq (
      .region false r3_13 [2]) (
      .ret)) (
      .skip))) (
    .seq (
    .region false r3_14 [1, 3, 4, 5, 6, 7]) (
    .seq (
    .region false r3_15 [1, 3, 4, 5, 6, 56]) (
    .cond (.t 56) (
      .region false r3_16 [1, 3, 4, 5, 6]) (
      .skip))))))) (
  .region false r3_10 [1, 3, 4, 5, 6]))
abbrev r3_17 : List AOper := [
  ⟨some 60, .load (some 5) (.t 1), none, []⟩,
  ⟨some 61, .bslice 25 1 [.int .i64 0, .int .i64 0, .flt .f64 0, .str ⟨#[]⟩, .nils] [(0, 5, (.t 60))], none, [0]⟩,
  ⟨some 62, .callF 9 [(.c (.str ⟨#[105, 115, 95, 110, 117, 109, 98, 101, 114]⟩)), (.t 61)], none, [1]⟩,
  ⟨some 59, .mv (.t 62), none, [2]⟩,
  ⟨some 63, .extract (.t 59) 0, none, [3]⟩,
  ⟨some 64, .extract (.t 59) 1, none, [3]⟩,
  ⟨some 9, .alloc 25 (.agg [.int .i64 0, .int .i64 0, .flt .f64 0, .str ⟨#[]⟩, .nils]), none, []⟩,
  ⟨none, .store 5 (.t 9) (.t 63), none, [6, 4, 2, 0, 1, 2, 3, 4, 6]⟩,
  ⟨some 10, .mv (.t 64), none, [5, 7, 0, 1, 2, 3, 4, 5, 6, 7]⟩]
abbrev r3_18 : List AOper := [
  ⟨some 66, .load (some 5) (.t 1), none, []⟩,
  ⟨some 67, .bslice 25 1 [.int .i64 0, .int .i64 0, .flt .f64 0, .str ⟨#[]⟩, .nils] [(0, 5, (.t 66))], none, [0]⟩,
  ⟨some 68, .callF 9 [(.c (.str ⟨#[105, 115, 95, 98, 111, 111, 108, 101, 97, 110]⟩)), (.t 67)], none, [1]⟩,
  ⟨some 65, .mv (.t 68), none, [2]⟩,
  ⟨some 69, .extract (.t 65) 0, none, [3]⟩,
  ⟨some 70, .extract (.t 65) 1, none, [3]⟩,
  ⟨some 11, .alloc 25 (.agg [.int .i64 0, .int .i64 0, .flt .f64 0, .str ⟨#[]⟩, .nils]), none, []⟩,
  ⟨none, .store 5 (.t 11) (.t 69), none, [6, 4, 2, 0, 1, 2, 3, 4, 6]⟩,
  ⟨some 12, .mv (.t 70), none, [5, 7, 0, 1, 2, 3, 4, 5, 6, 7]⟩]
abbrev r3_19 : List AOper := [
  ⟨some 71, .mv (.t 10), none, []⟩,
  ⟨some 72, .un .not (.t 71), none, [0]⟩,
  ⟨some 73, .mv (.t 72), none, [1]⟩,
  ⟨some 74, .mv (.t 12), some (73, false), [2]⟩,
  ⟨some 75, .un .not (.t 74), some (73, false), [3, 2]⟩,
  ⟨some 76, .pick (.t 73) (.c (.bool true)) (.t 75), none, [2, 4]⟩,
  ⟨some 77, .mv (.t 76), none, [5, 2]⟩,
  ⟨some 78, .mv (.t 4), some (77, false), [6]⟩,
  ⟨some 79, .bin .neq (.t 78) (.c (.int .i64 1)), some (77, false), [7, 6]⟩,
  ⟨some 80, .pick (.t 77) (.c (.bool true)) (.t 79), none, [6, 8]⟩]
abbrev r3_20 : List AOper := [
  ⟨some 2, .mv (.c (.bool false)), none, []⟩]
abbrev r3_21 : List AOper := [
  ⟨some 81, .faddr 3 (.t 9), none, []⟩,
  ⟨some 82, .load none (.t 81), none, [0]⟩,
  ⟨some 83, .bin .eql (.t 82) (.c (.str ⟨#[116, 114, 117, 101]⟩)), none, [1]⟩,
  ⟨some 84, .mv (.t 5), none, []⟩,
  ⟨some 85, .iaddr 1 (.t 84) (.c (.int .i64 1)), none, [3]⟩,
  ⟨some 86, .load none (.t 85), none, [4]⟩,
  ⟨some 87, .mv (.t 86), none, [5]⟩,
  ⟨some 88, .mv (.t 5), some (87, false), [6]⟩,
  ⟨some 89, .iaddr 1 (.t 88) (.c (.int .i64 2)), some (87, false), [7, 6]⟩,
  ⟨some 90, .load none (.t 89), some (87, false), [8, 6]⟩,
  ⟨some 91, .pick (.t 87) (.c (.bool true)) (.t 90), none, [6, 9]⟩,
  ⟨some 92, .eqB false (.t 83) (.t 91), none, [2, 10]⟩,
  ⟨some 93, .mv (.t 92), none, [11, 6]⟩,
  ⟨some 94, .faddr 3 (.t 11), some (93, true), [12]⟩,
  ⟨some 95, .load none (.t 94), some (93, true), [13, 12]⟩,
  ⟨some 96, .bin .eql (.t 95) (.c (.str ⟨#[116, 114, 117, 101]⟩)), some (93, true), [14, 12]⟩,
  ⟨some 97, .mv (.t 5), some (93, true), [12]⟩,
  ⟨some 98, .iaddr 1 (.t 97) (.c (.int .i64 0)), some (93, true), [16, 12]⟩,
  ⟨some 99, .load none (.t 98), some (93, true), [17, 12]⟩,
  ⟨some 100, .mv (.t 99), some (93, true), [18, 12, 12]⟩,
  ⟨some 101, .faddr 3 (.t 1), some (100, true), [19]⟩,
  ⟨some 102, .load none (.t 101), some (100, true), [20, 19]⟩,
  ⟨some 103, .bin .eql (.t 102) (.c (.str ⟨#[116, 114, 117, 101]⟩)), some (100, true), [21, 19]⟩,
  ⟨some 104, .mv (.t 103), some (100, true), [22, 19, 19]⟩,
  ⟨some 105, .faddr 3 (.t 1), some (104, false), [23]⟩,
  ⟨some 106, .load none (.t 105), some (104, false), [24, 23]⟩,
  ⟨some 107, .bin .eql (.t 106) (.c (.str ⟨#[102, 97, 108, 115, 101]⟩)), some (104, false), [25, 23]⟩,
  ⟨some 108, .pick (.t 104) (.c (.bool true)) (.t 107), some (100, true), [23, 26, 19]⟩,
  ⟨some 109, .pick (.t 100) (.t 108) (.c (.bool false)), some (93, true), [19, 27, 12]⟩,
  ⟨some 110, .eqB false (.t 96) (.t 109), some (93, true), [15, 28, 12]⟩,
  ⟨some 111, .pick (.t 93) (.t 110) (.c (.bool false)), none, [12, 29]⟩,
  ⟨some 2, .mv (.t 111), none, [30, 23, 0, 1, 2, 3, 4, 5, 6, 7, 8, 9, 10, 11, 12, 13, 14, 15, 16, 17, 18, 19, 20, 21, 22, 23, 24, 25, 26, 27, 28, 29, 30]⟩]
def m3_11 : List Nat := [0, 0, 3, 7, 0, 16, 63, 127, 255, 255, 0, 1535, 4095]
def m3_21 : List Nat := [0, 1, 3, 0, 8, 24, 56, 120, 248, 504, 1016, 2047, 4095, 8191, 16383, 32767, 8191, 73727, 204799, 466943, 991231, 2039807, 4136959, 8331263, 16719871, 33497087, 67051519, 134160383, 268378111, 536870911, 1073741823, 2147483647]
theorem d3_21 : okDraw r3_21 m3_21 = true := by kernel_rfl
def k3 : List (List Nat) := [[1], [1, 14], [2], [1, 18], [2], [1, 3], [1, 3, 4], [1, 3, 4, 5], [1, 3, 4, 5, 6], [1, 3, 4, 5, 6, 23], [1, 3, 4, 5, 6], [1, 3, 4, 5, 6, 7, 8], [1, 3, 4, 5, 6, 7, 47], [2], [1, 3, 4, 5, 6, 7], [1, 3, 4, 5, 6, 56], [1, 3, 4, 5, 6], [1, 4, 5, 9, 10], [1, 4, 5, 9, 10, 11, 12], [1, 5, 9, 11, 80], [2], [2]]
def f3 : AFunc := { ntmps := 112, results := [.tmp 2], body := (
  .seq (
  .region false r3_0 [1]) (
  .seq (
  .seq (
  .region false r3_1 [1, 14]) (
  .cond (.t 14) (
    .seq (
    .region false r3_2 [2]) (
    .ret)) (
    .skip))) (
  .seq (
  .seq (
  .region false r3_3 [1, 18]) (
  .cond (.t 18) (
    .seq (
    .region false r3_4 [2]) (
    .ret)) (
    .skip))) (
  .seq (
  .region false r3_5 [1, 3]) (
  .seq (
  .region false r3_6 [1, 3, 4]) (
  .seq (
  .region false r3_7 [1, 3, 4, 5]) (
  .seq (
  .seq (
  .region false r3_8 [1, 3, 4, 5, 6]) (
  .block 0 (
    .loop l3_0))) (
  .seq (
  .region false r3_17 [1, 4, 5, 9, 10]) (
  .seq (
  .region false r3_18 [1, 4, 5, 9, 10, 11, 12]) (
  .seq (
  .seq (
  .region false r3_19 [1, 5, 9, 11, 80]) (
  .cond (.t 80) (
    .seq (
    .region false r3_20 [2]) (
    .ret)) (
    .skip))) (
  .seq (
  .region true r3_21 [2]) (
  .ret)))))))))))) }
theorem c3 : cfunc Tryz.prog (kof k3) Tryz.f3 = some f3 := by kernel_rfl

/-- exitwave/exitwavelaw9.right -/
abbrev r8_0 : List AOper := [
  ⟨some 2, .mv (.c (.bool false)), none, []⟩]
abbrev r8_1 : List AOper := [
  ⟨some 4, .mv (.t 0), none, []⟩,
  ⟨some 5, .len 1 (.t 4), none, [0]⟩,
  ⟨some 6, .bin .gtr (.t 5) (.c (.int .i64 5)), none, [1]⟩,
  ⟨some 7, .mv (.t 6), none, [2]⟩,
  ⟨some 8, .mv (.t 0), some (7, false), [3]⟩,
  ⟨some 9, .build [.int .i64 0, .int .i64 0, .flt .f64 0, .str ⟨#[]⟩, .nils] [(4, 1, (.t 8))], some (7, false), [4, 3]⟩,
  ⟨some 10, .callF 17 [(.t 9), (.c (.int .i64 150000)), (.c (.int .i64 500))], some (7, false), [5, 3, 3]⟩,
  ⟨some 11, .bin .lss (.t 10) (.c (.int .i64 0)), some (7, false), [6, 3]⟩,
  ⟨some 12, .pick (.t 7) (.c (.bool true)) (.t 11), none, [3, 7]⟩]
abbrev r8_2 : List AOper := [
  ⟨some 2, .mv (.c (.bool false)), none, []⟩]
abbrev r8_3 : List AOper := [
  ⟨some 3, .mv (.c (.int .i64 0)), none, []⟩]
abbrev r8_4 : List AOper := [
  ⟨some 13, .mv (.t 3), none, []⟩,
  ⟨some 14, .mv (.t 0), none, []⟩,
  ⟨some 15, .len 1 (.t 14), none, [1]⟩,
  ⟨some 16, .bin .lss (.t 13) (.t 15), none, [0, 2]⟩]
abbrev r8_6 : List AOper := [
  ⟨some 19, .mv (.t 0), none, []⟩,
  ⟨some 20, .mv (.t 3), none, []⟩,
  ⟨some 21, .iaddr 5 (.t 19) (.t 20), none, [0, 1]⟩,
  ⟨some 22, .load (some 5) (.t 21), none, [2]⟩,
  ⟨some 23, .callF 18 [(.t 22)], none, [3]⟩,
  ⟨some 24, .un .not (.t 23), none, [4]⟩]
abbrev r8_7 : List AOper := [
  ⟨some 2, .mv (.c (.bool false)), none, []⟩]
abbrev r8_5 : List AOper := [
  ⟨some 17, .mv (.t 3), none, []⟩,
  ⟨some 18, .bin .add (.t 17) (.c (.int .i64 1)), none, [0]⟩,
  ⟨some 3, .mv (.t 18), none, [1, 0, 1]⟩]
def l8_0 : ACode :=
  .seq (
  .seq (
  .region false r8_4 [0, 3, 16]) (
  .cond (.t 16) (
    .skip) (
    .exit 0))) (
  .seq (
  .block 1 (
    .seq (
    .region false r8_6 [0, 3, 24]) (
    .cond (.t 24) (
      .seq (
      .region false r8_7 [2]) (
      .ret)) (
      .skip)))) (
  .region false r8_5 [0, 3]))
abbrev r8_8 : List AOper := [
  ⟨some 2, .mv (.c (.bool true)), none, []⟩]
def k8 : List (List Nat) := [[0], [0, 12], [2], [0, 3], [0, 3, 16], [0, 3], [0, 3, 24], [2], [2]]
def f8 : AFunc := { ntmps := 25, results := [.tmp 2], body := (
  .seq (
  .region false r8_0 [0]) (
  .seq (
  .seq (
  .region false r8_1 [0, 12]) (
  .cond (.t 12) (
    .seq (
    .region false r8_2 [2]) (
    .ret)) (
    .skip))) (
  .seq (
  .seq (
  .region false r8_3 [0, 3]) (
  .block 0 (
    .loop l8_0))) (
  .seq (
  .region false r8_8 [2]) (
  .ret))))) }
theorem c8 : cfunc Tryz.prog (kof k8) Tryz.f8 = some f8 := by kernel_rfl

/-- exitwave/exitwavelaw9.call -/
abbrev r9_0 : List AOper := [
  ⟨some 4, .alloc 25 (.agg [.int .i64 0, .int .i64 0, .flt .f64 0, .str ⟨#[]⟩, .nils]), none, []⟩,
  ⟨some 5, .mv (.c (.bool false)), none, []⟩]
abbrev r9_1 : List AOper := [
  ⟨some 9, .mv (.t 0), none, []⟩,
  ⟨some 10, .mv (.t 1), none, []⟩,
  ⟨some 11, .callF 15 [(.t 9), (.t 10), (.c (.fn (.func 16) [] []))], none, [0, 1]⟩,
  ⟨some 8, .mv (.t 11), none, [2]⟩,
  ⟨some 12, .extract (.t 8) 0, none, [3]⟩,
  ⟨some 13, .extract (.t 8) 1, none, [3]⟩,
  ⟨some 6, .alloc 25 (.agg [.int .i64 0, .int .i64 0, .flt .f64 0, .str ⟨#[]⟩, .nils]), none, []⟩,
  ⟨none, .store 5 (.t 6) (.t 12), none, [6, 4, 2, 0, 1, 2, 3, 4, 6]⟩,
  ⟨some 7, .mv (.t 13), none, [5, 7, 0, 1, 2, 3, 4, 5, 6, 7]⟩]
abbrev r9_2 : List AOper := [
  ⟨some 14, .load (some 5) (.t 6), none, []⟩,
  ⟨some 15, .mv (.t 7), none, []⟩,
  ⟨some 16, .bin .eql (.t 15) (.c (.int .i64 0)), none, [1]⟩,
  ⟨none, .store 5 (.t 4) (.t 14), none, [0, 0]⟩,
  ⟨some 5, .mv (.t 16), none, [2, 3, 0, 1, 2, 3]⟩]
def k9 : List (List Nat) := [[0, 1, 4], [4, 6, 7], [4, 5]]
def f9 : AFunc := { ntmps := 17, results := [.cell 4 (some 5), .tmp 5], body := (
  .seq (
  .region false r9_0 [0, 1, 4]) (
  .seq (
  .region false r9_1 [4, 6, 7]) (
  .seq (
  .region false r9_2 [4, 5]) (
  .ret)))) }
theorem c9 : cfunc Tryz.prog (kof k9) Tryz.f9 = some f9 := by kernel_rfl

/-- exitwave/exitwavelaw2.Few -/
abbrev r17_0 : List AOper := [
  ⟨some 3, .box 25 (.t 0), none, []⟩,
  ⟨some 6, .mv (.c (.int .i64 0)), none, []⟩]
abbrev r17_1 : List AOper := [
  ⟨some 8, .mv (.t 1), none, []⟩,
  ⟨some 9, .bin .lss (.t 8) (.c (.int .i64 0)), none, [0]⟩,
  ⟨some 10, .mv (.t 9), none, [1]⟩,
  ⟨some 11, .mv (.t 2), some (10, false), [2]⟩,
  ⟨some 12, .bin .lss (.t 11) (.c (.int .i64 0)), some (10, false), [3, 2]⟩,
  ⟨some 13, .pick (.t 10) (.c (.bool true)) (.t 12), none, [2, 4]⟩]
abbrev r17_2 : List AOper := [
  ⟨some 6, .mv (.c (.int .i64 (-1))), none, []⟩]
abbrev r17_3 : List AOper := [
  ⟨some 14, .mv (.t 1), none, []⟩,
  ⟨some 15, .bin .sub (.t 14) (.c (.int .i64 1)), none, [0]⟩,
  ⟨some 1, .mv (.t 15), none, [1, 0, 1]⟩]
abbrev r17_4 : List AOper := [
  ⟨some 7, .mv (.c (.int .i64 0)), none, []⟩]
abbrev r17_5 : List AOper := [
  ⟨some 16, .mv (.t 7), none, []⟩,
  ⟨some 17, .faddr 4 (.t 3), none, []⟩,
  ⟨some 18, .load none (.t 17), none, [1]⟩,
  ⟨some 19, .len 1 (.t 18), none, [2]⟩,
  ⟨some 20, .bin .lss (.t 16) (.t 19), none, [0, 3]⟩,
  ⟨some 21, .mv (.t 20), none, [4]⟩,
  ⟨some 22, .mv (.t 1), some (21, true), [5]⟩,
  ⟨some 23, .bin .geq (.t 22) (.c (.int .i64 0)), some (21, true), [6, 5]⟩,
  ⟨some 24, .pick (.t 21) (.t 23) (.c (.bool false)), none, [5, 7]⟩]
abbrev r17_7 : List AOper := [
  ⟨some 27, .faddr 4 (.t 3), none, []⟩,
  ⟨some 28, .load none (.t 27), none, [0]⟩,
  ⟨some 29, .mv (.t 7), none, []⟩,
  ⟨some 30, .iaddr 5 (.t 28) (.t 29), none, [1, 2]⟩,
  ⟨some 31, .load (some 5) (.t 30), none, [3]⟩,
  ⟨some 32, .mv (.t 1), none, []⟩,
  ⟨some 33, .mv (.t 2), none, []⟩,
  ⟨some 34, .bin .sub (.t 33) (.c (.int .i64 1)), none, [6]⟩,
  ⟨some 35, .callF 17 [(.t 31), (.t 32), (.t 34)], none, [4, 5, 7]⟩,
  ⟨some 1, .mv (.t 35), none, [8, 8, 0, 1, 2, 3, 4, 5, 6, 7, 8]⟩]
abbrev r17_6 : List AOper := [
  ⟨some 25, .mv (.t 7), none, []⟩,
  ⟨some 26, .bin .add (.t 25) (.c (.int .i64 1)), none, [0]⟩,
  ⟨some 7, .mv (.t 26), none, [1, 0, 1]⟩]
def l17_0 : ACode :=
  .seq (
  .seq (
  .region false r17_5 [1, 2, 3, 7, 24]) (
  .cond (.t 24) (
    .skip) (
    .exit 0))) (
  .seq (
  .block 1 (
    .region false r17_7 [1, 2, 3, 7])) (
  .region false r17_6 [1, 2, 3, 7]))
abbrev r17_8 : List AOper := [
  ⟨some 36, .mv (.t 1), none, []⟩,
  ⟨some 6, .mv (.t 36), none, [0, 0]⟩]
def k17 : List (List Nat) := [[1, 2, 3], [1, 2, 3, 13], [6], [1, 2, 3], [1, 2, 3, 7], [1, 2, 3, 7, 24], [1, 2, 3, 7], [1, 2, 3, 7], [6]]
def f17 : AFunc := { ntmps := 37, results := [.tmp 6], body := (
  .seq (
  .region false r17_0 [1, 2, 3]) (
  .seq (
  .seq (
  .region false r17_1 [1, 2, 3, 13]) (
  .cond (.t 13) (
    .seq (
    .region false r17_2 [6]) (
    .ret)) (
    .skip))) (
  .seq (
  .region false r17_3 [1, 2, 3]) (
  .seq (
  .seq (
  .region false r17_4 [1, 2, 3, 7]) (
  .block 0 (
    .loop l17_0))) (
  .seq (
  .region false r17_8 [6]) (
  .ret)))))) }
theorem c17 : cfunc Tryz.prog (kof k17) Tryz.f17 = some f17 := by kernel_rfl

/-- exitwave/exitwaveref2.Right -/
abbrev r18_0 : List AOper := [
  ⟨some 1, .box 25 (.t 0), none, []⟩,
  ⟨some 2, .mv (.c (.bool false)), none, []⟩]
abbrev r18_1 : List AOper := [
  ⟨some 3, .load (some 5) (.t 1), none, []⟩,
  ⟨some 4, .callF 26 [(.t 3)], none, [0]⟩,
  ⟨some 5, .bin .eql (.t 4) (.c (.int .i64 0)), none, [1]⟩,
  ⟨some 2, .mv (.t 5), none, [2, 1, 0, 1, 2]⟩]
def k18 : List (List Nat) := [[1], [2]]
def f18 : AFunc := { ntmps := 6, results := [.tmp 2], body := (
  .seq (
  .region false r18_0 [1]) (
  .seq (
  .region false r18_1 [2]) (
  .ret))) }
theorem c18 : cfunc Tryz.prog (kof k18) Tryz.f18 = some f18 := by kernel_rfl

/-- exitwave/exitwaveref2.Check -/
abbrev r26_0 : List AOper := [
  ⟨some 1, .box 25 (.t 0), none, []⟩,
  ⟨some 2, .mv (.c (.int .i64 0)), none, []⟩]
abbrev r26_1 : List AOper := [
  ⟨some 3, .load (some 5) (.t 1), none, []⟩,
  ⟨some 4, .callF 52 [(.t 3), (.c (.int .i64 200)), (.c (.int .i64 65536))], none, [0]⟩,
  ⟨some 5, .bin .lss (.t 4) (.c (.int .i64 0)), none, [1]⟩]
abbrev r26_2 : List AOper := [
  ⟨some 2, .mv (.c (.int .i64 12)), none, []⟩]
abbrev r26_3 : List AOper := [
  ⟨some 6, .load (some 5) (.t 1), none, []⟩,
  ⟨some 7, .callF 53 [(.t 6)], none, [0]⟩,
  ⟨some 8, .un .not (.t 7), none, [1]⟩]
abbrev r26_4 : List AOper := [
  ⟨some 2, .mv (.c (.int .i64 4)), none, []⟩]
abbrev r26_5 : List AOper := [
  ⟨some 2, .mv (.c (.int .i64 0)), none, []⟩]
def k26 : List (List Nat) := [[1], [1, 5], [2], [8], [2], [2]]
def f26 : AFunc := { ntmps := 9, results := [.tmp 2], body := (
  .seq (
  .region false r26_0 [1]) (
  .seq (
  .seq (
  .region false r26_1 [1, 5]) (
  .cond (.t 5) (
    .seq (
    .region false r26_2 [2]) (
    .ret)) (
    .skip))) (
  .seq (
  .seq (
  .region false r26_3 [8]) (
  .cond (.t 8) (
    .seq (
    .region false r26_4 [2]) (
    .ret)) (
    .skip))) (
  .seq (
  .region false r26_5 [2]) (
  .ret))))) }
theorem c26 : cfunc Tryz.prog (kof k26) Tryz.f26 = some f26 := by kernel_rfl

/-- exitwave/exitwaveref2.measure -/
abbrev r52_0 : List AOper := [
  ⟨some 3, .box 25 (.t 0), none, []⟩,
  ⟨some 6, .mv (.c (.int .i64 0)), none, []⟩]
abbrev r52_1 : List AOper := [
  ⟨some 10, .mv (.t 1), none, []⟩,
  ⟨some 11, .bin .lss (.t 10) (.c (.int .i64 1)), none, [0]⟩,
  ⟨some 12, .mv (.t 11), none, [1]⟩,
  ⟨some 13, .load (some 5) (.t 3), some (12, false), [2]⟩,
  ⟨some 14, .callF 85 [(.t 13)], some (12, false), [3, 2, 2]⟩,
  ⟨some 15, .mv (.t 2), some (12, false), [2]⟩,
  ⟨some 16, .bin .gtr (.t 14) (.t 15), some (12, false), [4, 5, 2]⟩,
  ⟨some 17, .pick (.t 12) (.c (.bool true)) (.t 16), none, [2, 6]⟩]
abbrev r52_2 : List AOper := [
  ⟨some 6, .mv (.c (.int .i64 (-1))), none, []⟩]
abbrev r52_3 : List AOper := [
  ⟨some 18, .load (some 5) (.t 3), none, []⟩,
  ⟨some 19, .callF 85 [(.t 18)], none, [0]⟩,
  ⟨some 7, .mv (.t 19), none, [1, 1, 0, 1]⟩]
abbrev r52_4 : List AOper := [
  ⟨some 8, .mv (.c (.int .i64 0)), none, []⟩]
abbrev r52_5 : List AOper := [
  ⟨some 20, .mv (.t 8), none, []⟩,
  ⟨some 21, .faddr 4 (.t 3), none, []⟩,
  ⟨some 22, .load none (.t 21), none, [1]⟩,
  ⟨some 23, .len 1 (.t 22), none, [2]⟩,
  ⟨some 24, .bin .lss (.t 20) (.t 23), none, [0, 3]⟩]
abbrev r52_7 : List AOper := [
  ⟨some 27, .faddr 4 (.t 3), none, []⟩,
  ⟨some 28, .load none (.t 27), none, [0]⟩,
  ⟨some 29, .mv (.t 8), none, []⟩,
  ⟨some 30, .iaddr 5 (.t 28) (.t 29), none, [1, 2]⟩,
  ⟨some 31, .load (some 5) (.t 30), none, [3]⟩,
  ⟨some 32, .mv (.t 1), none, []⟩,
  ⟨some 33, .bin .sub (.t 32) (.c (.int .i64 1)), none, [5]⟩,
  ⟨some 34, .mv (.t 2), none, []⟩,
  ⟨some 35, .mv (.t 7), none, []⟩,
  ⟨some 36, .bin .sub (.t 34) (.t 35), none, [7, 8]⟩,
  ⟨some 37, .callF 52 [(.t 31), (.t 33), (.t 36)], none, [4, 6, 9]⟩,
  ⟨some 9, .mv (.t 37), none, [10, 10, 0, 1, 2, 3, 4, 5, 6, 7, 8, 9, 10]⟩]
abbrev r52_8 : List AOper := [
  ⟨some 38, .mv (.t 9), none, []⟩,
  ⟨some 39, .bin .lss (.t 38) (.c (.int .i64 0)), none, [0]⟩]
abbrev r52_9 : List AOper := [
  ⟨some 6, .mv (.c (.int .i64 (-1))), none, []⟩]
abbrev r52_10 : List AOper := [
  ⟨some 40, .mv (.t 7), none, []⟩,
  ⟨some 41, .mv (.t 9), none, []⟩,
  ⟨some 42, .bin .add (.t 40) (.t 41), none, [0, 1]⟩,
  ⟨some 7, .mv (.t 42), none, [2, 0, 1, 2]⟩]
abbrev r52_6 : List AOper := [
  ⟨some 25, .mv (.t 8), none, []⟩,
  ⟨some 26, .bin .add (.t 25) (.c (.int .i64 1)), none, [0]⟩,
  ⟨some 8, .mv (.t 26), none, [1, 0, 1]⟩]
def l52_0 : ACode :=
  .seq (
  .seq (
  .region false r52_5 [1, 2, 3, 7, 8, 24]) (
  .cond (.t 24) (
    .skip) (
    .exit 0))) (
  .seq (
  .block 1 (
    .seq (
    .region false r52_7 [1, 2, 3, 7, 8, 9]) (
    .seq (
    .seq (
    .region false r52_8 [1, 2, 3, 7, 8, 9, 39]) (
    .cond (.t 39) (
      .seq (
      .region false r52_9 [6]) (
      .ret)) (
      .skip))) (
    .region false r52_10 [1, 2, 3, 7, 8])))) (
  .region false r52_6 [1, 2, 3, 7, 8]))
abbrev r52_11 : List AOper := [
  ⟨some 43, .mv (.t 7), none, []⟩,
  ⟨some 6, .mv (.t 43), none, [0, 0]⟩]
def k52 : List (List Nat) := [[1, 2, 3], [1, 2, 3, 17], [6], [1, 2, 3, 7], [1, 2, 3, 7, 8], [1, 2, 3, 7, 8, 24], [1, 2, 3, 7, 8], [1, 2, 3, 7, 8, 9], [1, 2, 3, 7, 8, 9, 39], [6], [1, 2, 3, 7, 8], [6]]
def f52 : AFunc := { ntmps := 44, results := [.tmp 6], body := (
  .seq (
  .region false r52_0 [1, 2, 3]) (
  .seq (
  .seq (
  .region false r52_1 [1, 2, 3, 17]) (
  .cond (.t 17) (
    .seq (
    .region false r52_2 [6]) (
    .ret)) (
    .skip))) (
  .seq (
  .region false r52_3 [1, 2, 3, 7]) (
  .seq (
  .seq (
  .region false r52_4 [1, 2, 3, 7, 8]) (
  .block 0 (
    .loop l52_0))) (
  .seq (
  .region false r52_11 [6]) (
  .ret)))))) }
theorem c52 : cfunc Tryz.prog (kof k52) Tryz.f52 = some f52 := by kernel_rfl

/-- exitwave/exitwaveref2.all -/
abbrev r53_0 : List AOper := [
  ⟨some 1, .box 25 (.t 0), none, []⟩,
  ⟨some 2, .mv (.c (.bool false)), none, []⟩]
abbrev r53_1 : List AOper := [
  ⟨some 4, .load (some 5) (.t 1), none, []⟩,
  ⟨some 5, .callF 86 [(.t 4)], none, [0]⟩,
  ⟨some 6, .un .not (.t 5), none, [1]⟩]
abbrev r53_2 : List AOper := [
  ⟨some 2, .mv (.c (.bool false)), none, []⟩]
abbrev r53_3 : List AOper := [
  ⟨some 3, .mv (.c (.int .i64 0)), none, []⟩]
abbrev r53_4 : List AOper := [
  ⟨some 7, .mv (.t 3), none, []⟩,
  ⟨some 8, .faddr 4 (.t 1), none, []⟩,
  ⟨some 9, .load none (.t 8), none, [1]⟩,
  ⟨some 10, .len 1 (.t 9), none, [2]⟩,
  ⟨some 11, .bin .lss (.t 7) (.t 10), none, [0, 3]⟩]
abbrev r53_6 : List AOper := [
  ⟨some 14, .faddr 4 (.t 1), none, []⟩,
  ⟨some 15, .load none (.t 14), none, [0]⟩,
  ⟨some 16, .mv (.t 3), none, []⟩,
  ⟨some 17, .iaddr 5 (.t 15) (.t 16), none, [1, 2]⟩,
  ⟨some 18, .load (some 5) (.t 17), none, [3]⟩,
  ⟨some 19, .callF 53 [(.t 18)], none, [4]⟩,
  ⟨some 20, .un .not (.t 19), none, [5]⟩]
abbrev r53_7 : List AOper := [
  ⟨some 2, .mv (.c (.bool false)), none, []⟩]
abbrev r53_5 : List AOper := [
  ⟨some 12, .mv (.t 3), none, []⟩,
  ⟨some 13, .bin .add (.t 12) (.c (.int .i64 1)), none, [0]⟩,
  ⟨some 3, .mv (.t 13), none, [1, 0, 1]⟩]
def l53_0 : ACode :=
  .seq (
  .seq (
  .region false r53_4 [1, 3, 11]) (
  .cond (.t 11) (
    .skip) (
    .exit 0))) (
  .seq (
  .block 1 (
    .seq (
    .region false r53_6 [1, 3, 20]) (
    .cond (.t 20) (
      .seq (
      .region false r53_7 [2]) (
      .ret)) (
      .skip)))) (
  .region false r53_5 [1, 3]))
abbrev r53_8 : List AOper := [
  ⟨some 2, .mv (.c (.bool true)), none, []⟩]
def k53 : List (List Nat) := [[1], [1, 6], [2], [1, 3], [1, 3, 11], [1, 3], [1, 3, 20], [2], [2]]
def f53 : AFunc := { ntmps := 21, results := [.tmp 2], body := (
  .seq (
  .region false r53_0 [1]) (
  .seq (
  .seq (
  .region false r53_1 [1, 6]) (
  .cond (.t 6) (
    .seq (
    .region false r53_2 [2]) (
    .ret)) (
    .skip))) (
  .seq (
  .seq (
  .region false r53_3 [1, 3]) (
  .block 0 (
    .loop l53_0))) (
  .seq (
  .region false r53_8 [2]) (
  .ret))))) }
theorem c53 : cfunc Tryz.prog (kof k53) Tryz.f53 = some f53 := by kernel_rfl

/-- exitwave/bif.table$2 -/
abbrev r78_0 : List AOper := [
  ⟨some 2, .alloc 25 (.agg [.int .i64 0, .int .i64 0, .flt .f64 0, .str ⟨#[]⟩, .nils]), none, []⟩]
abbrev r78_1 : List AOper := [
  ⟨some 3, .mv (.t 0), none, []⟩,
  ⟨some 4, .nilchk (.t 3), none, [0]⟩,
  ⟨some 5, .faddr 0 (.t 4), none, [1]⟩,
  ⟨some 6, .load none (.t 5), none, [2]⟩,
  ⟨some 7, .iaddr 5 (.t 6) (.c (.int .i64 0)), none, [3]⟩,
  ⟨some 8, .faddr 0 (.t 7), none, [4]⟩,
  ⟨some 9, .load none (.t 8), none, [5]⟩,
  ⟨some 10, .bin .eql (.t 9) (.c (.int .i64 5)), none, [6]⟩,
  ⟨some 11, .callF 30 [(.t 10)], none, [7]⟩,
  ⟨none, .store 5 (.t 2) (.t 11), none, [8, 8, 0, 1, 2, 3, 4, 5, 6, 7, 8]⟩]
def k78 : List (List Nat) := [[0, 2], [2]]
def f78 : AFunc := { ntmps := 12, results := [.cell 2 (some 5)], body := (
  .seq (
  .region false r78_0 [0, 2]) (
  .seq (
  .region false r78_1 [2]) (
  .ret))) }
theorem c78 : cfunc Tryz.prog (kof k78) Tryz.f78 = some f78 := by kernel_rfl

/-- exitwave/bif.table$3 -/
abbrev r83_0 : List AOper := [
  ⟨some 3, .alloc 25 (.agg [.int .i64 0, .int .i64 0, .flt .f64 0, .str ⟨#[]⟩, .nils]), none, []⟩]
abbrev r83_1 : List AOper := [
  ⟨some 4, .load none (.t 1), none, []⟩,
  ⟨some 5, .mv (.t 0), none, []⟩,
  ⟨some 6, .nilchk (.t 5), none, [1]⟩,
  ⟨some 7, .faddr 0 (.t 6), none, [2]⟩,
  ⟨some 8, .load none (.t 7), none, [3]⟩,
  ⟨some 9, .iaddr 5 (.t 8) (.c (.int .i64 0)), none, [4]⟩,
  ⟨some 10, .load (some 5) (.t 9), none, [5]⟩,
  ⟨some 11, .callV (.t 4) [(.t 10)], none, [0, 6]⟩,
  ⟨some 12, .callF 30 [(.t 11)], none, [7, 7]⟩,
  ⟨none, .store 5 (.t 3) (.t 12), none, [8, 8, 0, 1, 2, 3, 4, 5, 6, 7, 8]⟩]
def m83_1 : List Nat := [0, 0, 2, 6, 14, 30, 62, 127, 255, 511]
theorem d83_1 : okDraw r83_1 m83_1 = true := by kernel_rfl
def k83 : List (List Nat) := [[0, 1, 3], [3]]
def f83 : AFunc := { ntmps := 13, results := [.cell 3 (some 5)], body := (
  .seq (
  .region false r83_0 [0, 1, 3]) (
  .seq (
  .region true r83_1 [3]) (
  .ret))) }
theorem c83 : cfunc Tryz.prog (kof k83) Tryz.f83 = some f83 := by kernel_rfl

/-- exitwave/exitwaveref2.own -/
abbrev r85_0 : List AOper := [
  ⟨some 1, .box 25 (.t 0), none, []⟩,
  ⟨some 2, .mv (.c (.int .i64 0)), none, []⟩]
abbrev r85_1 : List AOper := [
  ⟨some 3, .faddr 0 (.t 1), none, []⟩,
  ⟨some 4, .load none (.t 3), none, [0]⟩]
abbrev r85_2 : List AOper := [
  ⟨some 6, .bin .eql (.t 4) (.c (.int .i64 1)), none, []⟩,
  ⟨some 5, .mv (.t 6), none, [0]⟩]
abbrev r85_3 : List AOper := [
  ⟨some 7, .bin .eql (.t 4) (.c (.int .i64 3)), none, []⟩,
  ⟨some 5, .mv (.t 7), none, [0]⟩]
abbrev r85_4 : List AOper := [
  ⟨some 8, .bin .eql (.t 4) (.c (.int .i64 6)), none, []⟩,
  ⟨some 5, .mv (.t 8), none, [0]⟩]
abbrev r85_5 : List AOper := [
  ⟨some 2, .mv (.c (.int .i64 0)), none, []⟩]
abbrev r85_6 : List AOper := [
  ⟨some 10, .bin .eql (.t 4) (.c (.int .i64 2)), none, []⟩,
  ⟨some 9, .mv (.t 10), none, [0]⟩]
abbrev r85_7 : List AOper := [
  ⟨some 11, .bin .eql (.t 4) (.c (.int .i64 4)), none, []⟩,
  ⟨some 9, .mv (.t 11), none, [0]⟩]
abbrev r85_8 : List AOper := [
  ⟨some 2, .mv (.c (.int .i64 2)), none, []⟩]
abbrev r85_9 : List AOper := [
  ⟨some 13, .bin .eql (.t 4) (.c (.int .i64 8)), none, []⟩,
  ⟨some 12, .mv (.t 13), none, [0]⟩]
abbrev r85_10 : List AOper := [
  ⟨some 14, .faddr 4 (.t 1), none, []⟩,
  ⟨some 15, .load none (.t 14), none, [0]⟩,
  ⟨some 16, .len 1 (.t 15), none, [1]⟩,
  ⟨some 17, .bin .mul (.c (.int .i64 2)) (.t 16), none, [2]⟩,
  ⟨some 2, .mv (.t 17), none, [3, 0, 1, 2, 3]⟩]
abbrev r85_11 : List AOper := [
  ⟨some 19, .bin .eql (.t 4) (.c (.int .i64 5)), none, []⟩,
  ⟨some 18, .mv (.t 19), none, [0]⟩]
abbrev r85_12 : List AOper := [
  ⟨some 20, .faddr 4 (.t 1), none, []⟩,
  ⟨some 21, .load none (.t 20), none, [0]⟩,
  ⟨some 22, .len 1 (.t 21), none, [1]⟩,
  ⟨some 23, .bin .add (.c (.int .i64 2)) (.t 22), none, [2]⟩,
  ⟨some 2, .mv (.t 23), none, [3, 0, 1, 2, 3]⟩]
abbrev r85_13 : List AOper := [
  ⟨some 24, .faddr 4 (.t 1), none, []⟩,
  ⟨some 25, .load none (.t 24), none, [0]⟩,
  ⟨some 26, .len 1 (.t 25), none, [1]⟩,
  ⟨some 27, .bin .add (.c (.int .i64 1)) (.t 26), none, [2]⟩,
  ⟨some 2, .mv (.t 27), none, [3, 0, 1, 2, 3]⟩]
def k85 : List (List Nat) := [[1], [1, 4], [1, 4, 5], [1, 4, 5], [1, 4, 5], [2], [1, 4, 9], [1, 4, 9], [2], [1, 4, 12], [2], [1, 18], [2], [2]]
def f85 : AFunc := { ntmps := 28, results := [.tmp 2], body := (
  .seq (
  .region false r85_0 [1]) (
  .seq (
  .seq (
  .region false r85_1 [1, 4]) (
  .block 0 (
    .seq (
    .seq (
    .region false r85_2 [1, 4, 5]) (
    .cond (.t 5) (
      .skip) (
      .seq (
      .region false r85_3 [1, 4, 5]) (
      .cond (.t 5) (
        .skip) (
        .region false r85_4 [1, 4, 5]))))) (
    .cond (.t 5) (
      .seq (
      .region false r85_5 [2]) (
      .ret)) (
      .seq (
      .seq (
      .region false r85_6 [1, 4, 9]) (
      .cond (.t 9) (
        .skip) (
        .region false r85_7 [1, 4, 9]))) (
      .cond (.t 9) (
        .seq (
        .region false r85_8 [2]) (
        .ret)) (
        .seq (
        .region false r85_9 [1, 4, 12]) (
        .cond (.t 12) (
          .seq (
          .region false r85_10 [2]) (
          .ret)) (
          .seq (
          .region false r85_11 [1, 18]) (
          .cond (.t 18) (
            .seq (
            .region false r85_12 [2]) (
            .ret)) (
            .skip))))))))))) (
  .seq (
  .region false r85_13 [2]) (
  .ret)))) }
theorem c85 : cfunc Tryz.prog (kof k85) Tryz.f85 = some f85 := by kernel_rfl

/-- exitwave/exitwaveref2.fields -/
abbrev r86_0 : List AOper := [
  ⟨some 1, .box 25 (.t 0), none, []⟩,
  ⟨some 2, .mv (.c (.bool false)), none, []⟩]
abbrev r86_1 : List AOper := [
  ⟨some 3, .faddr 0 (.t 1), none, []⟩,
  ⟨some 4, .load none (.t 3), none, [0]⟩]
abbrev r86_2 : List AOper := [
  ⟨some 6, .bin .eql (.t 4) (.c (.int .i64 1)), none, []⟩,
  ⟨some 5, .mv (.t 6), none, [0]⟩]
abbrev r86_3 : List AOper := [
  ⟨some 7, .bin .eql (.t 4) (.c (.int .i64 2)), none, []⟩,
  ⟨some 5, .mv (.t 7), none, [0]⟩]
abbrev r86_4 : List AOper := [
  ⟨some 8, .load (some 5) (.t 1), none, []⟩,
  ⟨some 9, .callF 133 [(.t 8)], none, [0]⟩,
  ⟨some 2, .mv (.t 9), none, [1, 1, 0, 1]⟩]
abbrev r86_5 : List AOper := [
  ⟨some 11, .bin .eql (.t 4) (.c (.int .i64 3)), none, []⟩,
  ⟨some 10, .mv (.t 11), none, [0]⟩]
abbrev r86_6 : List AOper := [
  ⟨some 12, .faddr 3 (.t 1), none, []⟩,
  ⟨some 13, .load none (.t 12), none, [0]⟩,
  ⟨some 14, .len 0 (.t 13), none, [1]⟩,
  ⟨some 15, .bin .leq (.t 14) (.c (.int .i64 64)), none, [2]⟩,
  ⟨some 16, .mv (.t 15), none, [3]⟩,
  ⟨some 17, .faddr 1 (.t 1), some (16, true), [4]⟩,
  ⟨some 18, .load none (.t 17), some (16, true), [5, 4]⟩,
  ⟨some 19, .bin .eql (.t 18) (.c (.int .i64 0)), some (16, true), [6, 4]⟩,
  ⟨some 20, .pick (.t 16) (.t 19) (.c (.bool false)), none, [4, 7]⟩,
  ⟨some 21, .mv (.t 20), none, [8, 4]⟩,
  ⟨some 22, .faddr 2 (.t 1), some (21, true), [9]⟩,
  ⟨some 23, .load none (.t 22), some (21, true), [10, 9]⟩,
  ⟨some 24, .callF 134 [(.t 23)], some (21, true), [11, 9, 9]⟩,
  ⟨some 25, .pick (.t 21) (.t 24) (.c (.bool false)), none, [9, 12]⟩,
  ⟨some 26, .mv (.t 25), none, [13, 12]⟩,
  ⟨some 27, .faddr 4 (.t 1), some (26, true), [14]⟩,
  ⟨some 28, .load none (.t 27), some (26, true), [15, 14]⟩,
  ⟨some 29, .len 1 (.t 28), some (26, true), [16, 14]⟩,
  ⟨some 30, .bin .eql (.t 29) (.c (.int .i64 0)), some (26, true), [17, 14]⟩,
  ⟨some 31, .pick (.t 26) (.t 30) (.c (.bool false)), none, [14, 18]⟩,
  ⟨some 2, .mv (.t 31), none, [19, 14, 0, 1, 2, 3, 4, 5, 6, 7, 8, 9, 10, 11, 12, 13, 14, 15, 16, 17, 18, 19]⟩]
abbrev r86_7 : List AOper := [
  ⟨some 33, .bin .eql (.t 4) (.c (.int .i64 4)), none, []⟩,
  ⟨some 32, .mv (.t 33), none, [0]⟩]
abbrev r86_8 : List AOper := [
  ⟨some 34, .bin .eql (.t 4) (.c (.int .i64 6)), none, []⟩,
  ⟨some 32, .mv (.t 34), none, [0]⟩]
abbrev r86_9 : List AOper := [
  ⟨some 35, .faddr 1 (.t 1), none, []⟩,
  ⟨some 36, .load none (.t 35), none, [0]⟩,
  ⟨some 37, .bin .geq (.t 36) (.c (.int .i64 0)), none, [1]⟩,
  ⟨some 38, .mv (.t 37), none, [2]⟩,
  ⟨some 39, .faddr 1 (.t 1), some (38, true), [3]⟩,
  ⟨some 40, .load none (.t 39), some (38, true), [4, 3]⟩,
  ⟨some 41, .bin .leq (.t 40) (.c (.int .i64 1099511627776)), some (38, true), [5, 3]⟩,
  ⟨some 42, .pick (.t 38) (.t 41) (.c (.bool false)), none, [3, 6]⟩,
  ⟨some 43, .mv (.t 42), none, [7, 3]⟩,
  ⟨some 44, .faddr 3 (.t 1), some (43, true), [8]⟩,
  ⟨some 45, .load none (.t 44), some (43, true), [9, 8]⟩,
  ⟨some 46, .bin .eql (.t 45) (.c (.str ⟨#[]⟩)), some (43, true), [10, 8]⟩,
  ⟨some 47, .pick (.t 43) (.t 46) (.c (.bool false)), none, [8, 11]⟩,
  ⟨some 48, .mv (.t 47), none, [12, 8]⟩,
  ⟨some 49, .faddr 2 (.t 1), some (48, true), [13]⟩,
  ⟨some 50, .load none (.t 49), some (48, true), [14, 13]⟩,
  ⟨some 51, .callF 134 [(.t 50)], some (48, true), [15, 13, 13]⟩,
  ⟨some 52, .pick (.t 48) (.t 51) (.c (.bool false)), none, [13, 16]⟩,
  ⟨some 53, .mv (.t 52), none, [17, 16]⟩,
  ⟨some 54, .faddr 4 (.t 1), some (53, true), [18]⟩,
  ⟨some 55, .load none (.t 54), some (53, true), [19, 18]⟩,
  ⟨some 56, .len 1 (.t 55), some (53, true), [20, 18]⟩,
  ⟨some 57, .bin .eql (.t 56) (.c (.int .i64 0)), some (53, true), [21, 18]⟩,
  ⟨some 58, .pick (.t 53) (.t 57) (.c (.bool false)), none, [18, 22]⟩,
  ⟨some 2, .mv (.t 58), none, [23, 18, 0, 1, 2, 3, 4, 5, 6, 7, 8, 9, 10, 11, 12, 13, 14, 15, 16, 17, 18, 19, 20, 21, 22, 23]⟩]
abbrev r86_10 : List AOper := [
  ⟨some 60, .bin .eql (.t 4) (.c (.int .i64 5)), none, []⟩,
  ⟨some 59, .mv (.t 60), none, [0]⟩]
abbrev r86_11 : List AOper := [
  ⟨some 61, .faddr 1 (.t 1), none, []⟩,
  ⟨some 62, .load none (.t 61), none, [0]⟩,
  ⟨some 63, .bin .geq (.t 62) (.c (.int .i64 0)), none, [1]⟩,
  ⟨some 64, .mv (.t 63), none, [2]⟩,
  ⟨some 65, .faddr 1 (.t 1), some (64, true), [3]⟩,
  ⟨some 66, .load none (.t 65), some (64, true), [4, 3]⟩,
  ⟨some 67, .bin .leq (.t 66) (.c (.int .i64 16384)), some (64, true), [5, 3]⟩,
  ⟨some 68, .pick (.t 64) (.t 67) (.c (.bool false)), none, [3, 6]⟩,
  ⟨some 69, .mv (.t 68), none, [7, 3]⟩,
  ⟨some 70, .faddr 3 (.t 1), some (69, true), [8]⟩,
  ⟨some 71, .load none (.t 70), some (69, true), [9, 8]⟩,
  ⟨some 72, .bin .eql (.t 71) (.c (.str ⟨#[]⟩)), some (69, true), [10, 8]⟩,
  ⟨some 73, .pick (.t 69) (.t 72) (.c (.bool false)), none, [8, 11]⟩,
  ⟨some 74, .mv (.t 73), none, [12, 8]⟩,
  ⟨some 75, .faddr 2 (.t 1), some (74, true), [13]⟩,
  ⟨some 76, .load none (.t 75), some (74, true), [14, 13]⟩,
  ⟨some 77, .callF 134 [(.t 76)], some (74, true), [15, 13, 13]⟩,
  ⟨some 78, .pick (.t 74) (.t 77) (.c (.bool false)), none, [13, 16]⟩,
  ⟨some 2, .mv (.t 78), none, [17, 16, 0, 1, 2, 3, 4, 5, 6, 7, 8, 9, 10, 11, 12, 13, 14, 15, 16, 17]⟩]
abbrev r86_12 : List AOper := [
  ⟨some 80, .bin .eql (.t 4) (.c (.int .i64 7)), none, []⟩,
  ⟨some 79, .mv (.t 80), none, [0]⟩]
abbrev r86_13 : List AOper := [
  ⟨some 81, .bin .eql (.t 4) (.c (.int .i64 8)), none, []⟩,
  ⟨some 79, .mv (.t 81), none, [0]⟩]
abbrev r86_14 : List AOper := [
  ⟨some 82, .faddr 1 (.t 1), none, []⟩,
  ⟨some 83, .load none (.t 82), none, [0]⟩,
  ⟨some 84, .bin .eql (.t 83) (.c (.int .i64 0)), none, [1]⟩,
  ⟨some 85, .mv (.t 84), none, [2]⟩,
  ⟨some 86, .faddr 3 (.t 1), some (85, true), [3]⟩,
  ⟨some 87, .load none (.t 86), some (85, true), [4, 3]⟩,
  ⟨some 88, .bin .eql (.t 87) (.c (.str ⟨#[]⟩)), some (85, true), [5, 3]⟩,
  ⟨some 89, .pick (.t 85) (.t 88) (.c (.bool false)), none, [3, 6]⟩,
  ⟨some 90, .mv (.t 89), none, [7, 3]⟩,
  ⟨some 91, .faddr 2 (.t 1), some (90, true), [8]⟩,
  ⟨some 92, .load none (.t 91), some (90, true), [9, 8]⟩,
  ⟨some 93, .callF 134 [(.t 92)], some (90, true), [10, 8, 8]⟩,
  ⟨some 94, .pick (.t 90) (.t 93) (.c (.bool false)), none, [8, 11]⟩,
  ⟨some 2, .mv (.t 94), none, [12, 11, 0, 1, 2, 3, 4, 5, 6, 7, 8, 9, 10, 11, 12]⟩]
abbrev r86_15 : List AOper := [
  ⟨some 2, .mv (.c (.bool false)), none, []⟩]
def k86 : List (List Nat) := [[1], [1, 4], [1, 4, 5], [1, 4, 5], [2], [1, 4, 10], [2], [1, 4, 32], [1, 4, 32], [2], [1, 4, 59], [2], [1, 4, 79], [1, 79], [2], [2]]
def f86 : AFunc := { ntmps := 95, results := [.tmp 2], body := (
  .seq (
  .region false r86_0 [1]) (
  .seq (
  .seq (
  .region false r86_1 [1, 4]) (
  .block 0 (
    .seq (
    .seq (
    .region false r86_2 [1, 4, 5]) (
    .cond (.t 5) (
      .skip) (
      .region false r86_3 [1, 4, 5]))) (
    .cond (.t 5) (
      .seq (
      .region false r86_4 [2]) (
      .ret)) (
      .seq (
      .region false r86_5 [1, 4, 10]) (
      .cond (.t 10) (
        .seq (
        .region false r86_6 [2]) (
        .ret)) (
        .seq (
        .seq (
        .region false r86_7 [1, 4, 32]) (
        .cond (.t 32) (
          .skip) (
          .region false r86_8 [1, 4, 32]))) (
        .cond (.t 32) (
          .seq (
          .region false r86_9 [2]) (
          .ret)) (
          .seq (
          .region false r86_10 [1, 4, 59]) (
          .cond (.t 59) (
            .seq (
            .region false r86_11 [2]) (
            .ret)) (
            .seq (
            .seq (
            .region false r86_12 [1, 4, 79]) (
            .cond (.t 79) (
              .skip) (
              .region false r86_13 [1, 79]))) (
            .cond (.t 79) (
              .seq (
              .region false r86_14 [2]) (
              .ret)) (
              .skip))))))))))))) (
  .seq (
  .region false r86_15 [2]) (
  .ret)))) }
theorem c86 : cfunc Tryz.prog (kof k86) Tryz.f86 = some f86 := by kernel_rfl

/-- exitwave/bif.kinds$1$1 -/
abbrev r113_0 : List AOper := [
  ⟨some 2, .box 25 (.t 0), none, []⟩,
  ⟨some 3, .mv (.c (.bool false)), none, []⟩]
abbrev r113_1 : List AOper := [
  ⟨some 4, .load none (.t 1), none, []⟩,
  ⟨some 5, .faddr 0 (.t 2), none, []⟩,
  ⟨some 6, .load none (.t 5), none, [1]⟩,
  ⟨some 7, .callF 114 [(.t 4), (.t 6)], none, [0, 2]⟩,
  ⟨some 3, .mv (.t 7), none, [3, 3, 0, 1, 2, 3]⟩]
def k113 : List (List Nat) := [[1, 2], [3]]
def f113 : AFunc := { ntmps := 8, results := [.tmp 3], body := (
  .seq (
  .region false r113_0 [1, 2]) (
  .seq (
  .region false r113_1 [3]) (
  .ret))) }
theorem c113 : cfunc Tryz.prog (kof k113) Tryz.f113 = some f113 := by kernel_rfl

/-- slices.Contains[[]int,int] -/
abbrev r114_0 : List AOper := [
  ⟨some 4, .mv (.c (.bool false)), none, []⟩]
abbrev r114_1 : List AOper := [
  ⟨some 5, .mv (.t 0), none, []⟩,
  ⟨some 6, .mv (.t 1), none, []⟩,
  ⟨some 7, .callF 150 [(.t 5), (.t 6)], none, [0, 1]⟩,
  ⟨some 8, .bin .geq (.t 7) (.c (.int .i64 0)), none, [2]⟩,
  ⟨some 4, .mv (.t 8), none, [3, 2, 0, 1, 2, 3]⟩]
def k114 : List (List Nat) := [[0, 1], [4]]
def f114 : AFunc := { ntmps := 9, results := [.tmp 4], body := (
  .seq (
  .region false r114_0 [0, 1]) (
  .seq (
  .region false r114_1 [4]) (
  .ret))) }
theorem c114 : cfunc Tryz.prog (kof k114) Tryz.f114 = some f114 := by kernel_rfl

/-- exitwave/bif.kinds$2 -/
abbrev r115_0 : List AOper := [
  ⟨some 1, .box 25 (.t 0), none, []⟩,
  ⟨some 2, .mv (.c (.bool false)), none, []⟩]
abbrev r115_1 : List AOper := [
  ⟨some 3, .faddr 0 (.t 1), none, []⟩,
  ⟨some 4, .load none (.t 3), none, [0]⟩,
  ⟨some 5, .bin .eql (.t 4) (.c (.int .i64 3)), none, [1]⟩,
  ⟨some 6, .mv (.t 5), none, [2]⟩,
  ⟨some 7, .faddr 3 (.t 1), some (6, true), [3]⟩,
  ⟨some 8, .load none (.t 7), some (6, true), [4, 3]⟩,
  ⟨some 9, .bin .eql (.t 8) (.c (.str ⟨#[116, 114, 117, 101]⟩)), some (6, true), [5, 3]⟩,
  ⟨some 10, .mv (.t 9), some (6, true), [6, 3, 3]⟩,
  ⟨some 11, .faddr 3 (.t 1), some (10, false), [7]⟩,
  ⟨some 12, .load none (.t 11), some (10, false), [8, 7]⟩,
  ⟨some 13, .bin .eql (.t 12) (.c (.str ⟨#[102, 97, 108, 115, 101]⟩)), some (10, false), [9, 7]⟩,
  ⟨some 14, .pick (.t 10) (.c (.bool true)) (.t 13), some (6, true), [7, 10, 3]⟩,
  ⟨some 15, .pick (.t 6) (.t 14) (.c (.bool false)), none, [3, 11]⟩,
  ⟨some 2, .mv (.t 15), none, [12, 7, 0, 1, 2, 3, 4, 5, 6, 7, 8, 9, 10, 11, 12]⟩]
def k115 : List (List Nat) := [[1], [2]]
def f115 : AFunc := { ntmps := 16, results := [.tmp 2], body := (
  .seq (
  .region false r115_0 [1]) (
  .seq (
  .region false r115_1 [2]) (
  .ret))) }
theorem c115 : cfunc Tryz.prog (kof k115) Tryz.f115 = some f115 := by kernel_rfl

/-- exitwave/exitwaveref1.Right -/
abbrev r133_0 : List AOper := [
  ⟨some 1, .box 25 (.t 0), none, []⟩,
  ⟨some 2, .mv (.c (.bool false)), none, []⟩]
abbrev r133_1 : List AOper := [
  ⟨some 3, .faddr 3 (.t 1), none, []⟩,
  ⟨some 4, .load none (.t 3), none, [0]⟩,
  ⟨some 5, .bin .neq (.t 4) (.c (.str ⟨#[]⟩)), none, [1]⟩,
  ⟨some 6, .mv (.t 5), none, [2]⟩,
  ⟨some 7, .faddr 4 (.t 1), some (6, false), [3]⟩,
  ⟨some 8, .load none (.t 7), some (6, false), [4, 3]⟩,
  ⟨some 9, .len 1 (.t 8), some (6, false), [5, 3]⟩,
  ⟨some 10, .bin .neq (.t 9) (.c (.int .i64 0)), some (6, false), [6, 3]⟩,
  ⟨some 11, .pick (.t 6) (.c (.bool true)) (.t 10), none, [3, 7]⟩]
abbrev r133_2 : List AOper := [
  ⟨some 2, .mv (.c (.bool false)), none, []⟩]
abbrev r133_3 : List AOper := [
  ⟨some 12, .faddr 0 (.t 1), none, []⟩,
  ⟨some 13, .load none (.t 12), none, [0]⟩,
  ⟨some 14, .bin .eql (.t 13) (.c (.int .i64 1)), none, [1]⟩]
abbrev r133_4 : List AOper := [
  ⟨some 15, .faddr 1 (.t 1), none, []⟩,
  ⟨some 16, .load none (.t 15), none, [0]⟩,
  ⟨some 17, .bin .geq (.t 16) (.c (.int .i64 (-576460752303423488))), none, [1]⟩,
  ⟨some 18, .mv (.t 17), none, [2]⟩,
  ⟨some 19, .faddr 1 (.t 1), some (18, true), [3]⟩,
  ⟨some 20, .load none (.t 19), some (18, true), [4, 3]⟩,
  ⟨some 21, .bin .leq (.t 20) (.c (.int .i64 576460752303423487)), some (18, true), [5, 3]⟩,
  ⟨some 22, .pick (.t 18) (.t 21) (.c (.bool false)), none, [3, 6]⟩,
  ⟨some 23, .mv (.t 22), none, [7, 3]⟩,
  ⟨some 24, .faddr 2 (.t 1), some (23, true), [8]⟩,
  ⟨some 25, .load none (.t 24), some (23, true), [9, 8]⟩,
  ⟨some 26, .callF 134 [(.t 25)], some (23, true), [10, 8, 8]⟩,
  ⟨some 27, .pick (.t 23) (.t 26) (.c (.bool false)), none, [8, 11]⟩,
  ⟨some 2, .mv (.t 27), none, [12, 11, 0, 1, 2, 3, 4, 5, 6, 7, 8, 9, 10, 11, 12]⟩]
abbrev r133_5 : List AOper := [
  ⟨some 28, .faddr 0 (.t 1), none, []⟩,
  ⟨some 29, .load none (.t 28), none, [0]⟩,
  ⟨some 30, .bin .eql (.t 29) (.c (.int .i64 2)), none, [1]⟩,
  ⟨some 31, .mv (.t 30), none, [2]⟩,
  ⟨some 32, .faddr 1 (.t 1), some (31, true), [3]⟩,
  ⟨some 33, .load none (.t 32), some (31, true), [4, 3]⟩,
  ⟨some 34, .bin .eql (.t 33) (.c (.int .i64 0)), some (31, true), [5, 3]⟩,
  ⟨some 35, .pick (.t 31) (.t 34) (.c (.bool false)), none, [3, 6]⟩,
  ⟨some 36, .mv (.t 35), none, [7, 3]⟩,
  ⟨some 37, .faddr 2 (.t 1), some (36, true), [8]⟩,
  ⟨some 38, .load none (.t 37), some (36, true), [9, 8]⟩,
  ⟨some 39, .callF 163 [(.t 38)], some (36, true), [10, 8, 8]⟩,
  ⟨some 40, .pick (.t 36) (.t 39) (.c (.bool false)), none, [8, 11]⟩,
  ⟨some 2, .mv (.t 40), none, [12, 11, 0, 1, 2, 3, 4, 5, 6, 7, 8, 9, 10, 11, 12]⟩]
def k133 : List (List Nat) := [[1], [1, 11], [2], [1, 14], [2], [2]]
def f133 : AFunc := { ntmps := 41, results := [.tmp 2], body := (
  .seq (
  .region false r133_0 [1]) (
  .seq (
  .seq (
  .region false r133_1 [1, 11]) (
  .cond (.t 11) (
    .seq (
    .region false r133_2 [2]) (
    .ret)) (
    .skip))) (
  .seq (
  .seq (
  .region false r133_3 [1, 14]) (
  .cond (.t 14) (
    .seq (
    .region false r133_4 [2]) (
    .ret)) (
    .skip))) (
  .seq (
  .region false r133_5 [2]) (
  .ret))))) }
theorem c133 : cfunc Tryz.prog (kof k133) Tryz.f133 = some f133 := by kernel_rfl

/-- exitwave/exitwaveref1.Plus -/
abbrev r134_0 : List AOper := [
  ⟨some 2, .mv (.c (.bool false)), none, []⟩]
abbrev r134_1 : List AOper := [
  ⟨some 3, .mv (.t 0), none, []⟩,
  ⟨some 4, .ext 0 [(.t 3)], none, [0]⟩,
  ⟨some 5, .bin .eql (.t 4) (.c (.int .u64 0)), none, [1]⟩,
  ⟨some 2, .mv (.t 5), none, [2, 1, 0, 1, 2]⟩]
def k134 : List (List Nat) := [[0], [2]]
def f134 : AFunc := { ntmps := 6, results := [.tmp 2], body := (
  .seq (
  .region false r134_0 [0]) (
  .seq (
  .region false r134_1 [2]) (
  .ret))) }
theorem c134 : cfunc Tryz.prog (kof k134) Tryz.f134 = some f134 := by kernel_rfl

/-- slices.Index[[]int,int] -/
abbrev r150_0 : List AOper := [
  ⟨some 4, .mv (.c (.int .i64 0)), none, []⟩]
abbrev r150_1 : List AOper := [
  ⟨some 6, .mv (.t 0), none, []⟩,
  ⟨some 7, .len 1 (.t 6), none, [0]⟩,
  ⟨some 8, .mv (.c (.int .i64 0)), none, []⟩]
abbrev r150_2 : List AOper := [
  ⟨some 9, .bin .lss (.t 8) (.t 7), none, []⟩]
abbrev r150_3 : List AOper := [
  ⟨some 10, .mv (.t 8), none, []⟩,
  ⟨some 5, .mv (.t 10), none, [0, 0]⟩]
abbrev r150_4 : List AOper := [
  ⟨some 11, .mv (.t 1), none, []⟩,
  ⟨some 12, .mv (.t 0), none, []⟩,
  ⟨some 13, .mv (.t 5), none, []⟩,
  ⟨some 14, .iaddr 1 (.t 12) (.t 13), none, [1, 2]⟩,
  ⟨some 15, .load none (.t 14), none, [3]⟩,
  ⟨some 16, .bin .eql (.t 11) (.t 15), none, [0, 4]⟩]
abbrev r150_5 : List AOper := [
  ⟨some 17, .mv (.t 5), none, []⟩,
  ⟨some 4, .mv (.t 17), none, [0, 0]⟩]
abbrev r150_6 : List AOper := [
  ⟨some 18, .bin .add (.t 8) (.c (.int .i64 1)), none, []⟩,
  ⟨some 8, .mv (.t 18), none, [0]⟩]
def l150_0 : ACode :=
  .seq (
  .region false r150_2 [0, 1, 7, 8, 9]) (
  .seq (
  .cond (.t 9) (
    .skip) (
    .exit 0)) (
  .seq (
  .block 1 (
    .seq (
    .region false r150_3 [0, 1, 5, 7, 8]) (
    .seq (
    .region false r150_4 [0, 1, 5, 7, 8, 16]) (
    .cond (.t 16) (
      .seq (
      .region false r150_5 [4]) (
      .ret)) (
      .skip))))) (
  .region false r150_6 [0, 1, 7, 8])))
abbrev r150_7 : List AOper := [
  ⟨some 4, .mv (.c (.int .i64 (-1))), none, []⟩]
def k150 : List (List Nat) := [[0, 1], [0, 1, 7, 8], [0, 1, 7, 8, 9], [0, 1, 5, 7, 8], [0, 1, 5, 7, 8, 16], [4], [0, 1, 7, 8], [4]]
def f150 : AFunc := { ntmps := 19, results := [.tmp 4], body := (
  .seq (
  .region false r150_0 [0, 1]) (
  .seq (
  .seq (
  .region false r150_1 [0, 1, 7, 8]) (
  .block 0 (
    .loop l150_0))) (
  .seq (
  .region false r150_7 [4]) (
  .ret)))) }
theorem c150 : cfunc Tryz.prog (kof k150) Tryz.f150 = some f150 := by kernel_rfl

/-- exitwave/exitwaveref1.Finite -/
abbrev r163_0 : List AOper := [
  ⟨some 2, .mv (.c (.bool false)), none, []⟩]
abbrev r163_1 : List AOper := [
  ⟨some 3, .mv (.t 0), none, []⟩,
  ⟨some 4, .mv (.t 0), none, []⟩,
  ⟨some 5, .bin .sub (.t 3) (.t 4), none, [0, 1]⟩,
  ⟨some 6, .bin .eql (.t 5) (.c (.flt .f64 0)), none, [2]⟩,
  ⟨some 2, .mv (.t 6), none, [3, 0, 1, 2, 3]⟩]
def k163 : List (List Nat) := [[0], [2]]
def f163 : AFunc := { ntmps := 7, results := [.tmp 2], body := (
  .seq (
  .region false r163_0 [0]) (
  .seq (
  .region false r163_1 [2]) (
  .ret))) }
theorem c163 : cfunc Tryz.prog (kof k163) Tryz.f163 = some f163 := by kernel_rfl


end Go.Am.Rl
