/- The functions, in the abstract machine's form (written by gen.py). -/
import Derived.Test.YtcmaphhbecjbjaaGreatDoorFn
import Derived.Test.YtcmaphhbecjbjaaGreatDoorProg
set_option linter.unusedVariables false
namespace Go.Am.Rl
open Go.Proofs
set_option maxRecDepth 20000

/-- exitwave/exitwavelaw9.right -/
abbrev r7_0 : List AOper := [
  ⟨some 2, .mv (.c (.bool false)), none, []⟩]
abbrev r7_1 : List AOper := [
  ⟨some 4, .mv (.t 0), none, []⟩,
  ⟨some 5, .len 1 (.t 4), none, [0]⟩,
  ⟨some 6, .bin .gtr (.t 5) (.c (.int .i64 5)), none, [1]⟩,
  ⟨some 7, .mv (.t 6), none, [2]⟩,
  ⟨some 8, .mv (.t 0), some (7, false), [3]⟩,
  ⟨some 9, .build [.int .i64 0, .int .i64 0, .flt .f64 0, .str ⟨#[]⟩, .nils] [(4, 1, (.t 8))], some (7, false), [4, 3]⟩,
  ⟨some 10, .callF 19 [(.t 9), (.c (.int .i64 150000)), (.c (.int .i64 500))], some (7, false), [5, 3, 3]⟩,
  ⟨some 11, .bin .lss (.t 10) (.c (.int .i64 0)), some (7, false), [6, 3]⟩,
  ⟨some 12, .pick (.t 7) (.c (.bool true)) (.t 11), none, [3, 7]⟩]
abbrev r7_2 : List AOper := [
  ⟨some 2, .mv (.c (.bool false)), none, []⟩]
abbrev r7_3 : List AOper := [
  ⟨some 3, .mv (.c (.int .i64 0)), none, []⟩]
abbrev r7_4 : List AOper := [
  ⟨some 13, .mv (.t 3), none, []⟩,
  ⟨some 14, .mv (.t 0), none, []⟩,
  ⟨some 15, .len 1 (.t 14), none, [1]⟩,
  ⟨some 16, .bin .lss (.t 13) (.t 15), none, [0, 2]⟩]
abbrev r7_6 : List AOper := [
  ⟨some 19, .mv (.t 0), none, []⟩,
  ⟨some 20, .mv (.t 3), none, []⟩,
  ⟨some 21, .iaddr 5 (.t 19) (.t 20), none, [0, 1]⟩,
  ⟨some 22, .load (some 5) (.t 21), none, [2]⟩,
  ⟨some 23, .callF 20 [(.t 22)], none, [3]⟩,
  ⟨some 24, .un .not (.t 23), none, [4]⟩]
abbrev r7_7 : List AOper := [
  ⟨some 2, .mv (.c (.bool false)), none, []⟩]
abbrev r7_5 : List AOper := [
  ⟨some 17, .mv (.t 3), none, []⟩,
  ⟨some 18, .bin .add (.t 17) (.c (.int .i64 1)), none, [0]⟩,
  ⟨some 3, .mv (.t 18), none, [1, 0, 1]⟩]
def l7_0 : ACode :=
  .seq (
  .seq (
  .region false r7_4 [0, 3, 16]) (
  .cond (.t 16) (
    .skip) (
    .exit 0))) (
  .seq (
  .block 1 (
    .seq (
    .region false r7_6 [0, 3, 24]) (
    .cond (.t 24) (
      .seq (
      .region false r7_7 [2]) (
      .ret)) (
      .skip)))) (
  .region false r7_5 [0, 3]))
abbrev r7_8 : List AOper := [
  ⟨some 2, .mv (.c (.bool true)), none, []⟩]
def k7 : List (List Nat) := [[0], [0, 12], [2], [0, 3], [0, 3, 16], [0, 3], [0, 3, 24], [2], [2]]
def f7 : AFunc := { ntmps := 25, results := [.tmp 2], body := (
  .seq (
  .region false r7_0 [0]) (
  .seq (
  .seq (
  .region false r7_1 [0, 12]) (
  .cond (.t 12) (
    .seq (
    .region false r7_2 [2]) (
    .ret)) (
    .skip))) (
  .seq (
  .seq (
  .region false r7_3 [0, 3]) (
  .block 0 (
    .loop l7_0))) (
  .seq (
  .region false r7_8 [2]) (
  .ret))))) }
theorem c7 : cfunc Tryz.prog (kof k7) Tryz.f7 = some f7 := by kernel_rfl

/-- exitwave/exitwavelaw9.call -/
abbrev r8_0 : List AOper := [
  ⟨some 4, .alloc 25 (.agg [.int .i64 0, .int .i64 0, .flt .f64 0, .str ⟨#[]⟩, .nils]), none, []⟩,
  ⟨some 5, .mv (.c (.bool false)), none, []⟩]
abbrev r8_1 : List AOper := [
  ⟨some 9, .mv (.t 0), none, []⟩,
  ⟨some 10, .mv (.t 1), none, []⟩,
  ⟨some 11, .callF 15 [(.t 9), (.t 10), (.c (.fn (.func 16) [] []))], none, [0, 1]⟩,
  ⟨some 8, .mv (.t 11), none, [2]⟩,
  ⟨some 12, .extract (.t 8) 0, none, [3]⟩,
  ⟨some 13, .extract (.t 8) 1, none, [3]⟩,
  ⟨some 6, .alloc 25 (.agg [.int .i64 0, .int .i64 0, .flt .f64 0, .str ⟨#[]⟩, .nils]), none, []⟩,
  ⟨none, .store 5 (.t 6) (.t 12), none, [6, 4, 2, 0, 1, 2, 3, 4, 6]⟩,
  ⟨some 7, .mv (.t 13), none, [5, 7, 0, 1, 2, 3, 4, 5, 6, 7]⟩]
abbrev r8_2 : List AOper := [
  ⟨some 14, .load (some 5) (.t 6), none, []⟩,
  ⟨some 15, .mv (.t 7), none, []⟩,
  ⟨some 16, .bin .eql (.t 15) (.c (.int .i64 0)), none, [1]⟩,
  ⟨none, .store 5 (.t 4) (.t 14), none, [0, 0]⟩,
  ⟨some 5, .mv (.t 16), none, [2, 3, 0, 1, 2, 3]⟩]
def k8 : List (List Nat) := [[0, 1, 4], [4, 6, 7], [4, 5]]
def f8 : AFunc := { ntmps := 17, results := [.cell 4 (some 5), .tmp 5], body := (
  .seq (
  .region false r8_0 [0, 1, 4]) (
  .seq (
  .region false r8_1 [4, 6, 7]) (
  .seq (
  .region false r8_2 [4, 5]) (
  .ret)))) }
theorem c8 : cfunc Tryz.prog (kof k8) Tryz.f8 = some f8 := by kernel_rfl

/-- exitwave/exitwavelaw2.Few -/
abbrev r19_0 : List AOper := [
  ⟨some 3, .box 25 (.t 0), none, []⟩,
  ⟨some 6, .mv (.c (.int .i64 0)), none, []⟩]
abbrev r19_1 : List AOper := [
  ⟨some 8, .mv (.t 1), none, []⟩,
  ⟨some 9, .bin .lss (.t 8) (.c (.int .i64 0)), none, [0]⟩,
  ⟨some 10, .mv (.t 9), none, [1]⟩,
  ⟨some 11, .mv (.t 2), some (10, false), [2]⟩,
  ⟨some 12, .bin .lss (.t 11) (.c (.int .i64 0)), some (10, false), [3, 2]⟩,
  ⟨some 13, .pick (.t 10) (.c (.bool true)) (.t 12), none, [2, 4]⟩]
abbrev r19_2 : List AOper := [
  ⟨some 6, .mv (.c (.int .i64 (-1))), none, []⟩]
abbrev r19_3 : List AOper := [
  ⟨some 14, .mv (.t 1), none, []⟩,
  ⟨some 15, .bin .sub (.t 14) (.c (.int .i64 1)), none, [0]⟩,
  ⟨some 1, .mv (.t 15), none, [1, 0, 1]⟩]
abbrev r19_4 : List AOper := [
  ⟨some 7, .mv (.c (.int .i64 0)), none, []⟩]
abbrev r19_5 : List AOper := [
  ⟨some 16, .mv (.t 7), none, []⟩,
  ⟨some 17, .faddr 4 (.t 3), none, []⟩,
  ⟨some 18, .load none (.t 17), none, [1]⟩,
  ⟨some 19, .len 1 (.t 18), none, [2]⟩,
  ⟨some 20, .bin .lss (.t 16) (.t 19), none, [0, 3]⟩,
  ⟨some 21, .mv (.t 20), none, [4]⟩,
  ⟨some 22, .mv (.t 1), some (21, true), [5]⟩,
  ⟨some 23, .bin .geq (.t 22) (.c (.int .i64 0)), some (21, true), [6, 5]⟩,
  ⟨some 24, .pick (.t 21) (.t 23) (.c (.bool false)), none, [5, 7]⟩]
abbrev r19_7 : List AOper := [
  ⟨some 27, .faddr 4 (.t 3), none, []⟩,
  ⟨some 28, .load none (.t 27), none, [0]⟩,
  ⟨some 29, .mv (.t 7), none, []⟩,
  ⟨some 30, .iaddr 5 (.t 28) (.t 29), none, [1, 2]⟩,
  ⟨some 31, .load (some 5) (.t 30), none, [3]⟩,
  ⟨some 32, .mv (.t 1), none, []⟩,
  ⟨some 33, .mv (.t 2), none, []⟩,
  ⟨some 34, .bin .sub (.t 33) (.c (.int .i64 1)), none, [6]⟩,
  ⟨some 35, .callF 19 [(.t 31), (.t 32), (.t 34)], none, [4, 5, 7]⟩,
  ⟨some 1, .mv (.t 35), none, [8, 8, 0, 1, 2, 3, 4, 5, 6, 7, 8]⟩]
abbrev r19_6 : List AOper := [
  ⟨some 25, .mv (.t 7), none, []⟩,
  ⟨some 26, .bin .add (.t 25) (.c (.int .i64 1)), none, [0]⟩,
  ⟨some 7, .mv (.t 26), none, [1, 0, 1]⟩]
def l19_0 : ACode :=
  .seq (
  .seq (
  .region false r19_5 [1, 2, 3, 7, 24]) (
  .cond (.t 24) (
    .skip) (
    .exit 0))) (
  .seq (
  .block 1 (
    .region false r19_7 [1, 2, 3, 7])) (
  .region false r19_6 [1, 2, 3, 7]))
abbrev r19_8 : List AOper := [
  ⟨some 36, .mv (.t 1), none, []⟩,
  ⟨some 6, .mv (.t 36), none, [0, 0]⟩]
def k19 : List (List Nat) := [[1, 2, 3], [1, 2, 3, 13], [6], [1, 2, 3], [1, 2, 3, 7], [1, 2, 3, 7, 24], [1, 2, 3, 7], [1, 2, 3, 7], [6]]
def f19 : AFunc := { ntmps := 37, results := [.tmp 6], body := (
  .seq (
  .region false r19_0 [1, 2, 3]) (
  .seq (
  .seq (
  .region false r19_1 [1, 2, 3, 13]) (
  .cond (.t 13) (
    .seq (
    .region false r19_2 [6]) (
    .ret)) (
    .skip))) (
  .seq (
  .region false r19_3 [1, 2, 3]) (
  .seq (
  .seq (
  .region false r19_4 [1, 2, 3, 7]) (
  .block 0 (
    .loop l19_0))) (
  .seq (
  .region false r19_8 [6]) (
  .ret)))))) }
theorem c19 : cfunc Tryz.prog (kof k19) Tryz.f19 = some f19 := by kernel_rfl

/-- exitwave/exitwaveref2.Right -/
abbrev r20_0 : List AOper := [
  ⟨some 1, .box 25 (.t 0), none, []⟩,
  ⟨some 2, .mv (.c (.bool false)), none, []⟩]
abbrev r20_1 : List AOper := [
  ⟨some 3, .load (some 5) (.t 1), none, []⟩,
  ⟨some 4, .callF 31 [(.t 3)], none, [0]⟩,
  ⟨some 5, .bin .eql (.t 4) (.c (.int .i64 0)), none, [1]⟩,
  ⟨some 2, .mv (.t 5), none, [2, 1, 0, 1, 2]⟩]
def k20 : List (List Nat) := [[1], [2]]
def f20 : AFunc := { ntmps := 6, results := [.tmp 2], body := (
  .seq (
  .region false r20_0 [1]) (
  .seq (
  .region false r20_1 [2]) (
  .ret))) }
theorem c20 : cfunc Tryz.prog (kof k20) Tryz.f20 = some f20 := by kernel_rfl

/-- exitwave/exitwaveref2.Check -/
abbrev r31_0 : List AOper := [
  ⟨some 1, .box 25 (.t 0), none, []⟩,
  ⟨some 2, .mv (.c (.int .i64 0)), none, []⟩]
abbrev r31_1 : List AOper := [
  ⟨some 3, .load (some 5) (.t 1), none, []⟩,
  ⟨some 4, .callF 62 [(.t 3), (.c (.int .i64 200)), (.c (.int .i64 65536))], none, [0]⟩,
  ⟨some 5, .bin .lss (.t 4) (.c (.int .i64 0)), none, [1]⟩]
abbrev r31_2 : List AOper := [
  ⟨some 2, .mv (.c (.int .i64 12)), none, []⟩]
abbrev r31_3 : List AOper := [
  ⟨some 6, .load (some 5) (.t 1), none, []⟩,
  ⟨some 7, .callF 63 [(.t 6)], none, [0]⟩,
  ⟨some 8, .un .not (.t 7), none, [1]⟩]
abbrev r31_4 : List AOper := [
  ⟨some 2, .mv (.c (.int .i64 4)), none, []⟩]
abbrev r31_5 : List AOper := [
  ⟨some 2, .mv (.c (.int .i64 0)), none, []⟩]
def k31 : List (List Nat) := [[1], [1, 5], [2], [8], [2], [2]]
def f31 : AFunc := { ntmps := 9, results := [.tmp 2], body := (
  .seq (
  .region false r31_0 [1]) (
  .seq (
  .seq (
  .region false r31_1 [1, 5]) (
  .cond (.t 5) (
    .seq (
    .region false r31_2 [2]) (
    .ret)) (
    .skip))) (
  .seq (
  .seq (
  .region false r31_3 [8]) (
  .cond (.t 8) (
    .seq (
    .region false r31_4 [2]) (
    .ret)) (
    .skip))) (
  .seq (
  .region false r31_5 [2]) (
  .ret))))) }
theorem c31 : cfunc Tryz.prog (kof k31) Tryz.f31 = some f31 := by kernel_rfl

/-- exitwave/exitwaveref2.measure -/
abbrev r62_0 : List AOper := [
  ⟨some 3, .box 25 (.t 0), none, []⟩,
  ⟨some 6, .mv (.c (.int .i64 0)), none, []⟩]
abbrev r62_1 : List AOper := [
  ⟨some 10, .mv (.t 1), none, []⟩,
  ⟨some 11, .bin .lss (.t 10) (.c (.int .i64 1)), none, [0]⟩,
  ⟨some 12, .mv (.t 11), none, [1]⟩,
  ⟨some 13, .load (some 5) (.t 3), some (12, false), [2]⟩,
  ⟨some 14, .callF 100 [(.t 13)], some (12, false), [3, 2, 2]⟩,
  ⟨some 15, .mv (.t 2), some (12, false), [2]⟩,
  ⟨some 16, .bin .gtr (.t 14) (.t 15), some (12, false), [4, 5, 2]⟩,
  ⟨some 17, .pick (.t 12) (.c (.bool true)) (.t 16), none, [2, 6]⟩]
abbrev r62_2 : List AOper := [
  ⟨some 6, .mv (.c (.int .i64 (-1))), none, []⟩]
abbrev r62_3 : List AOper := [
  ⟨some 18, .load (some 5) (.t 3), none, []⟩,
  ⟨some 19, .callF 100 [(.t 18)], none, [0]⟩,
  ⟨some 7, .mv (.t 19), none, [1, 1, 0, 1]⟩]
abbrev r62_4 : List AOper := [
  ⟨some 8, .mv (.c (.int .i64 0)), none, []⟩]
abbrev r62_5 : List AOper := [
  ⟨some 20, .mv (.t 8), none, []⟩,
  ⟨some 21, .faddr 4 (.t 3), none, []⟩,
  ⟨some 22, .load none (.t 21), none, [1]⟩,
  ⟨some 23, .len 1 (.t 22), none, [2]⟩,
  ⟨some 24, .bin .lss (.t 20) (.t 23), none, [0, 3]⟩]
abbrev r62_7 : List AOper := [
  ⟨some 27, .faddr 4 (.t 3), none, []⟩,
  ⟨some 28, .load none (.t 27), none, [0]⟩,
  ⟨some 29, .mv (.t 8), none, []⟩,
  ⟨some 30, .iaddr 5 (.t 28) (.t 29), none, [1, 2]⟩,
  ⟨some 31, .load (some 5) (.t 30), none, [3]⟩,
  ⟨some 32, .mv (.t 1), none, []⟩,
  ⟨some 33, .bin .sub (.t 32) (.c (.int .i64 1)), none, [5]⟩,
  ⟨some 34, .mv (.t 2), none, []⟩,
  ⟨some 35, .mv (.t 7), none, []⟩,
  ⟨some 36, .bin .sub (.t 34) (.t 35), none, [7, 8]⟩,
  ⟨some 37, .callF 62 [(.t 31), (.t 33), (.t 36)], none, [4, 6, 9]⟩,
  ⟨some 9, .mv (.t 37), none, [10, 10, 0, 1, 2, 3, 4, 5, 6, 7, 8, 9, 10]⟩]
abbrev r62_8 : List AOper := [
  ⟨some 38, .mv (.t 9), none, []⟩,
  ⟨some 39, .bin .lss (.t 38) (.c (.int .i64 0)), none, [0]⟩]
abbrev r62_9 : List AOper := [
  ⟨some 6, .mv (.c (.int .i64 (-1))), none, []⟩]
abbrev r62_10 : List AOper := [
  ⟨some 40, .mv (.t 7), none, []⟩,
  ⟨some 41, .mv (.t 9), none, []⟩,
  ⟨some 42, .bin .add (.t 40) (.t 41), none, [0, 1]⟩,
  ⟨some 7, .mv (.t 42), none, [2, 0, 1, 2]⟩]
abbrev r62_6 : List AOper := [
  ⟨some 25, .mv (.t 8), none, []⟩,
  ⟨some 26, .bin .add (.t 25) (.c (.int .i64 1)), none, [0]⟩,
  ⟨some 8, .mv (.t 26), none, [1, 0, 1]⟩]
def l62_0 : ACode :=
  .seq (
  .seq (
  .region false r62_5 [1, 2, 3, 7, 8, 24]) (
  .cond (.t 24) (
    .skip) (
    .exit 0))) (
  .seq (
  .block 1 (
    .seq (
    .region false r62_7 [1, 2, 3, 7, 8, 9]) (
    .seq (
    .seq (
    .region false r62_8 [1, 2, 3, 7, 8, 9, 39]) (
    .cond (.t 39) (
      .seq (
      .region false r62_9 [6]) (
      .ret)) (
      .skip))) (
    .region false r62_10 [1, 2, 3, 7, 8])))) (
  .region false r62_6 [1, 2, 3, 7, 8]))
abbrev r62_11 : List AOper := [
  ⟨some 43, .mv (.t 7), none, []⟩,
  ⟨some 6, .mv (.t 43), none, [0, 0]⟩]
def k62 : List (List Nat) := [[1, 2, 3], [1, 2, 3, 17], [6], [1, 2, 3, 7], [1, 2, 3, 7, 8], [1, 2, 3, 7, 8, 24], [1, 2, 3, 7, 8], [1, 2, 3, 7, 8, 9], [1, 2, 3, 7, 8, 9, 39], [6], [1, 2, 3, 7, 8], [6]]
def f62 : AFunc := { ntmps := 44, results := [.tmp 6], body := (
  .seq (
  .region false r62_0 [1, 2, 3]) (
  .seq (
  .seq (
  .region false r62_1 [1, 2, 3, 17]) (
  .cond (.t 17) (
    .seq (
    .region false r62_2 [6]) (
    .ret)) (
    .skip))) (
  .seq (
  .region false r62_3 [1, 2, 3, 7]) (
  .seq (
  .seq (
  .region false r62_4 [1, 2, 3, 7, 8]) (
  .block 0 (
    .loop l62_0))) (
  .seq (
  .region false r62_11 [6]) (
  .ret)))))) }
theorem c62 : cfunc Tryz.prog (kof k62) Tryz.f62 = some f62 := by kernel_rfl

/-- exitwave/exitwaveref2.all -/
abbrev r63_0 : List AOper := [
  ⟨some 1, .box 25 (.t 0), none, []⟩,
  ⟨some 2, .mv (.c (.bool false)), none, []⟩]
abbrev r63_1 : List AOper := [
  ⟨some 4, .load (some 5) (.t 1), none, []⟩,
  ⟨some 5, .callF 101 [(.t 4)], none, [0]⟩,
  ⟨some 6, .un .not (.t 5), none, [1]⟩]
abbrev r63_2 : List AOper := [
  ⟨some 2, .mv (.c (.bool false)), none, []⟩]
abbrev r63_3 : List AOper := [
  ⟨some 3, .mv (.c (.int .i64 0)), none, []⟩]
abbrev r63_4 : List AOper := [
  ⟨some 7, .mv (.t 3), none, []⟩,
  ⟨some 8, .faddr 4 (.t 1), none, []⟩,
  ⟨some 9, .load none (.t 8), none, [1]⟩,
  ⟨some 10, .len 1 (.t 9), none, [2]⟩,
  ⟨some 11, .bin .lss (.t 7) (.t 10), none, [0, 3]⟩]
abbrev r63_6 : List AOper := [
  ⟨some 14, .faddr 4 (.t 1), none, []⟩,
  ⟨some 15, .load none (.t 14), none, [0]⟩,
  ⟨some 16, .mv (.t 3), none, []⟩,
  ⟨some 17, .iaddr 5 (.t 15) (.t 16), none, [1, 2]⟩,
  ⟨some 18, .load (some 5) (.t 17), none, [3]⟩,
  ⟨some 19, .callF 63 [(.t 18)], none, [4]⟩,
  ⟨some 20, .un .not (.t 19), none, [5]⟩]
abbrev r63_7 : List AOper := [
  ⟨some 2, .mv (.c (.bool false)), none, []⟩]
abbrev r63_5 : List AOper := [
  ⟨some 12, .mv (.t 3), none, []⟩,
  ⟨some 13, .bin .add (.t 12) (.c (.int .i64 1)), none, [0]⟩,
  ⟨some 3, .mv (.t 13), none, [1, 0, 1]⟩]
def l63_0 : ACode :=
  .seq (
  .seq (
  .region false r63_4 [1, 3, 11]) (
  .cond (.t 11) (
    .skip) (
    .exit 0))) (
  .seq (
  .block 1 (
    .seq (
    .region false r63_6 [1, 3, 20]) (
    .cond (.t 20) (
      .seq (
      .region false r63_7 [2]) (
      .ret)) (
      .skip)))) (
  .region false r63_5 [1, 3]))
abbrev r63_8 : List AOper := [
  ⟨some 2, .mv (.c (.bool true)), none, []⟩]
def k63 : List (List Nat) := [[1], [1, 6], [2], [1, 3], [1, 3, 11], [1, 3], [1, 3, 20], [2], [2]]
def f63 : AFunc := { ntmps := 21, results := [.tmp 2], body := (
  .seq (
  .region false r63_0 [1]) (
  .seq (
  .seq (
  .region false r63_1 [1, 6]) (
  .cond (.t 6) (
    .seq (
    .region false r63_2 [2]) (
    .ret)) (
    .skip))) (
  .seq (
  .seq (
  .region false r63_3 [1, 3]) (
  .block 0 (
    .loop l63_0))) (
  .seq (
  .region false r63_8 [2]) (
  .ret))))) }
theorem c63 : cfunc Tryz.prog (kof k63) Tryz.f63 = some f63 := by kernel_rfl

/-- exitwave/bif.table$2 -/
abbrev r91_0 : List AOper := [
  ⟨some 2, .alloc 25 (.agg [.int .i64 0, .int .i64 0, .flt .f64 0, .str ⟨#[]⟩, .nils]), none, []⟩]
abbrev r91_1 : List AOper := [
  ⟨some 3, .mv (.t 0), none, []⟩,
  ⟨some 4, .nilchk (.t 3), none, [0]⟩,
  ⟨some 5, .faddr 0 (.t 4), none, [1]⟩,
  ⟨some 6, .load none (.t 5), none, [2]⟩,
  ⟨some 7, .iaddr 5 (.t 6) (.c (.int .i64 0)), none, [3]⟩,
  ⟨some 8, .faddr 0 (.t 7), none, [4]⟩,
  ⟨some 9, .load none (.t 8), none, [5]⟩,
  ⟨some 10, .bin .eql (.t 9) (.c (.int .i64 5)), none, [6]⟩,
  ⟨some 11, .callF 39 [(.t 10)], none, [7]⟩,
  ⟨none, .store 5 (.t 2) (.t 11), none, [8, 8, 0, 1, 2, 3, 4, 5, 6, 7, 8]⟩]
def k91 : List (List Nat) := [[0, 2], [2]]
def f91 : AFunc := { ntmps := 12, results := [.cell 2 (some 5)], body := (
  .seq (
  .region false r91_0 [0, 2]) (
  .seq (
  .region false r91_1 [2]) (
  .ret))) }
theorem c91 : cfunc Tryz.prog (kof k91) Tryz.f91 = some f91 := by kernel_rfl

/-- exitwave/bif.table$3 -/
abbrev r96_0 : List AOper := [
  ⟨some 3, .alloc 25 (.agg [.int .i64 0, .int .i64 0, .flt .f64 0, .str ⟨#[]⟩, .nils]), none, []⟩]
abbrev r96_1 : List AOper := [
  ⟨some 4, .load none (.t 1), none, []⟩,
  ⟨some 5, .mv (.t 0), none, []⟩,
  ⟨some 6, .nilchk (.t 5), none, [1]⟩,
  ⟨some 7, .faddr 0 (.t 6), none, [2]⟩,
  ⟨some 8, .load none (.t 7), none, [3]⟩,
  ⟨some 9, .iaddr 5 (.t 8) (.c (.int .i64 0)), none, [4]⟩,
  ⟨some 10, .load (some 5) (.t 9), none, [5]⟩,
  ⟨some 11, .callV (.t 4) [(.t 10)], none, [0, 6]⟩,
  ⟨some 12, .callF 39 [(.t 11)], none, [7, 7]⟩,
  ⟨none, .store 5 (.t 3) (.t 12), none, [8, 8, 0, 1, 2, 3, 4, 5, 6, 7, 8]⟩]
def m96_1 : List Nat := [0, 0, 2, 6, 14, 30, 62, 127, 255, 511]
theorem d96_1 : okDraw r96_1 m96_1 = true := by kernel_rfl
def k96 : List (List Nat) := [[0, 1, 3], [3]]
def f96 : AFunc := { ntmps := 13, results := [.cell 3 (some 5)], body := (
  .seq (
  .region false r96_0 [0, 1, 3]) (
  .seq (
  .region true r96_1 [3]) (
  .ret))) }
theorem c96 : cfunc Tryz.prog (kof k96) Tryz.f96 = some f96 := by kernel_rfl

/-- exitwave/exitwaveref2.own -/
abbrev r100_0 : List AOper := [
  ⟨some 1, .box 25 (.t 0), none, []⟩,
  ⟨some 2, .mv (.c (.int .i64 0)), none, []⟩]
abbrev r100_1 : List AOper := [
  ⟨some 3, .faddr 0 (.t 1), none, []⟩,
  ⟨some 4, .load none (.t 3), none, [0]⟩]
abbrev r100_2 : List AOper := [
  ⟨some 6, .bin .eql (.t 4) (.c (.int .i64 1)), none, []⟩,
  ⟨some 5, .mv (.t 6), none, [0]⟩]
abbrev r100_3 : List AOper := [
  ⟨some 7, .bin .eql (.t 4) (.c (.int .i64 3)), none, []⟩,
  ⟨some 5, .mv (.t 7), none, [0]⟩]
abbrev r100_4 : List AOper := [
  ⟨some 8, .bin .eql (.t 4) (.c (.int .i64 6)), none, []⟩,
  ⟨some 5, .mv (.t 8), none, [0]⟩]
abbrev r100_5 : List AOper := [
  ⟨some 2, .mv (.c (.int .i64 0)), none, []⟩]
abbrev r100_6 : List AOper := [
  ⟨some 10, .bin .eql (.t 4) (.c (.int .i64 2)), none, []⟩,
  ⟨some 9, .mv (.t 10), none, [0]⟩]
abbrev r100_7 : List AOper := [
  ⟨some 11, .bin .eql (.t 4) (.c (.int .i64 4)), none, []⟩,
  ⟨some 9, .mv (.t 11), none, [0]⟩]
abbrev r100_8 : List AOper := [
  ⟨some 2, .mv (.c (.int .i64 2)), none, []⟩]
abbrev r100_9 : List AOper := [
  ⟨some 13, .bin .eql (.t 4) (.c (.int .i64 8)), none, []⟩,
  ⟨some 12, .mv (.t 13), none, [0]⟩]
abbrev r100_10 : List AOper := [
  ⟨some 14, .faddr 4 (.t 1), none, []⟩,
  ⟨some 15, .load none (.t 14), none, [0]⟩,
  ⟨some 16, .len 1 (.t 15), none, [1]⟩,
  ⟨some 17, .bin .mul (.c (.int .i64 2)) (.t 16), none, [2]⟩,
  ⟨some 2, .mv (.t 17), none, [3, 0, 1, 2, 3]⟩]
abbrev r100_11 : List AOper := [
  ⟨some 19, .bin .eql (.t 4) (.c (.int .i64 5)), none, []⟩,
  ⟨some 18, .mv (.t 19), none, [0]⟩]
abbrev r100_12 : List AOper := [
  ⟨some 20, .faddr 4 (.t 1), none, []⟩,
  ⟨some 21, .load none (.t 20), none, [0]⟩,
  ⟨some 22, .len 1 (.t 21), none, [1]⟩,
  ⟨some 23, .bin .add (.c (.int .i64 2)) (.t 22), none, [2]⟩,
  ⟨some 2, .mv (.t 23), none, [3, 0, 1, 2, 3]⟩]
abbrev r100_13 : List AOper := [
  ⟨some 24, .faddr 4 (.t 1), none, []⟩,
  ⟨some 25, .load none (.t 24), none, [0]⟩,
  ⟨some 26, .len 1 (.t 25), none, [1]⟩,
  ⟨some 27, .bin .add (.c (.int .i64 1)) (.t 26), none, [2]⟩,
  ⟨some 2, .mv (.t 27), none, [3, 0, 1, 2, 3]⟩]
def k100 : List (List Nat) := [[1], [1, 4], [1, 4, 5], [1, 4, 5], [1, 4, 5], [2], [1, 4, 9], [1, 4, 9], [2], [1, 4, 12], [2], [1, 18], [2], [2]]
def f100 : AFunc := { ntmps := 28, results := [.tmp 2], body := (
  .seq (
  .region false r100_0 [1]) (
  .seq (
  .seq (
  .region false r100_1 [1, 4]) (
  .block 0 (
    .seq (
    .seq (
    .region false r100_2 [1, 4, 5]) (
    .cond (.t 5) (
      .skip) (
      .seq (
      .region false r100_3 [1, 4, 5]) (
      .cond (.t 5) (
        .skip) (
        .region false r100_4 [1, 4, 5]))))) (
    .cond (.t 5) (
      .seq (
      .region false r100_5 [2]) (
      .ret)) (
      .seq (
      .seq (
      .region false r100_6 [1, 4, 9]) (
      .cond (.t 9) (
        .skip) (
        .region false r100_7 [1, 4, 9]))) (
      .cond (.t 9) (
        .seq (
        .region false r100_8 [2]) (
        .ret)) (
        .seq (
        .region false r100_9 [1, 4, 12]) (
        .cond (.t 12) (
          .seq (
          .region false r100_10 [2]) (
          .ret)) (
          .seq (
          .region false r100_11 [1, 18]) (
          .cond (.t 18) (
            .seq (
            .region false r100_12 [2]) (
            .ret)) (
            .skip))))))))))) (
  .seq (
  .region false r100_13 [2]) (
  .ret)))) }
theorem c100 : cfunc Tryz.prog (kof k100) Tryz.f100 = some f100 := by kernel_rfl

/-- exitwave/exitwaveref2.fields -/
abbrev r101_0 : List AOper := [
  ⟨some 1, .box 25 (.t 0), none, []⟩,
  ⟨some 2, .mv (.c (.bool false)), none, []⟩]
abbrev r101_1 : List AOper := [
  ⟨some 3, .faddr 0 (.t 1), none, []⟩,
  ⟨some 4, .load none (.t 3), none, [0]⟩]
abbrev r101_2 : List AOper := [
  ⟨some 6, .bin .eql (.t 4) (.c (.int .i64 1)), none, []⟩,
  ⟨some 5, .mv (.t 6), none, [0]⟩]
abbrev r101_3 : List AOper := [
  ⟨some 7, .bin .eql (.t 4) (.c (.int .i64 2)), none, []⟩,
  ⟨some 5, .mv (.t 7), none, [0]⟩]
abbrev r101_4 : List AOper := [
  ⟨some 8, .load (some 5) (.t 1), none, []⟩,
  ⟨some 9, .callF 143 [(.t 8)], none, [0]⟩,
  ⟨some 2, .mv (.t 9), none, [1, 1, 0, 1]⟩]
abbrev r101_5 : List AOper := [
  ⟨some 11, .bin .eql (.t 4) (.c (.int .i64 3)), none, []⟩,
  ⟨some 10, .mv (.t 11), none, [0]⟩]
abbrev r101_6 : List AOper := [
  ⟨some 12, .faddr 3 (.t 1), none, []⟩,
  ⟨some 13, .load none (.t 12), none, [0]⟩,
  ⟨some 14, .len 0 (.t 13), none, [1]⟩,
  ⟨some 15, .bin .leq (.t 14) (.c (.int .i64 64)), none, [2]⟩,
  ⟨some 16, .mv (.t 15), none, [3]⟩,
  ⟨some 17, .faddr 1 (.t 1), some (16, true), [4]⟩,
  ⟨some 18, .load none (.t 17), some (16, true), [5, 4]⟩,
  ⟨some 19, .bin .eql (.t 18) (.c (.int .i64 0)), some (16, true), [6, 4]⟩,
  ⟨some 20, .pick (.t 16) (.t 19) (.c (.bool false)), none, [4, 7]⟩,
  ⟨some 21, .mv (.t 20), none, [8, 4]⟩,
  ⟨some 22, .faddr 2 (.t 1), some (21, true), [9]⟩,
  ⟨some 23, .load none (.t 22), some (21, true), [10, 9]⟩,
  ⟨some 24, .callF 144 [(.t 23)], some (21, true), [11, 9, 9]⟩,
  ⟨some 25, .pick (.t 21) (.t 24) (.c (.bool false)), none, [9, 12]⟩,
  ⟨some 26, .mv (.t 25), none, [13, 12]⟩,
  ⟨some 27, .faddr 4 (.t 1), some (26, true), [14]⟩,
  ⟨some 28, .load none (.t 27), some (26, true), [15, 14]⟩,
  ⟨some 29, .len 1 (.t 28), some (26, true), [16, 14]⟩,
  ⟨some 30, .bin .eql (.t 29) (.c (.int .i64 0)), some (26, true), [17, 14]⟩,
  ⟨some 31, .pick (.t 26) (.t 30) (.c (.bool false)), none, [14, 18]⟩,
  ⟨some 2, .mv (.t 31), none, [19, 14, 0, 1, 2, 3, 4, 5, 6, 7, 8, 9, 10, 11, 12, 13, 14, 15, 16, 17, 18, 19]⟩]
abbrev r101_7 : List AOper := [
  ⟨some 33, .bin .eql (.t 4) (.c (.int .i64 4)), none, []⟩,
  ⟨some 32, .mv (.t 33), none, [0]⟩]
abbrev r101_8 : List AOper := [
  ⟨some 34, .bin .eql (.t 4) (.c (.int .i64 6)), none, []⟩,
  ⟨some 32, .mv (.t 34), none, [0]⟩]
abbrev r101_9 : List AOper := [
  ⟨some 35, .faddr 1 (.t 1), none, []⟩,
  ⟨some 36, .load none (.t 35), none, [0]⟩,
  ⟨some 37, .bin .geq (.t 36) (.c (.int .i64 0)), none, [1]⟩,
  ⟨some 38, .mv (.t 37), none, [2]⟩,
  ⟨some 39, .faddr 1 (.t 1), some (38, true), [3]⟩,
  ⟨some 40, .load none (.t 39), some (38, true), [4, 3]⟩,
  ⟨some 41, .bin .leq (.t 40) (.c (.int .i64 1099511627776)), some (38, true), [5, 3]⟩,
  ⟨some 42, .pick (.t 38) (.t 41) (.c (.bool false)), none, [3, 6]⟩,
  ⟨some 43, .mv (.t 42), none, [7, 3]⟩,
  ⟨some 44, .faddr 3 (.t 1), some (43, true), [8]⟩,
  ⟨some 45, .load none (.t 44), some (43, true), [9, 8]⟩,
  ⟨some 46, .bin .eql (.t 45) (.c (.str ⟨#[]⟩)), some (43, true), [10, 8]⟩,
  ⟨some 47, .pick (.t 43) (.t 46) (.c (.bool false)), none, [8, 11]⟩,
  ⟨some 48, .mv (.t 47), none, [12, 8]⟩,
  ⟨some 49, .faddr 2 (.t 1), some (48, true), [13]⟩,
  ⟨some 50, .load none (.t 49), some (48, true), [14, 13]⟩,
  ⟨some 51, .callF 144 [(.t 50)], some (48, true), [15, 13, 13]⟩,
  ⟨some 52, .pick (.t 48) (.t 51) (.c (.bool false)), none, [13, 16]⟩,
  ⟨some 53, .mv (.t 52), none, [17, 16]⟩,
  ⟨some 54, .faddr 4 (.t 1), some (53, true), [18]⟩,
  ⟨some 55, .load none (.t 54), some (53, true), [19, 18]⟩,
  ⟨some 56, .len 1 (.t 55), some (53, true), [20, 18]⟩,
  ⟨some 57, .bin .eql (.t 56) (.c (.int .i64 0)), some (53, true), [21, 18]⟩,
  ⟨some 58, .pick (.t 53) (.t 57) (.c (.bool false)), none, [18, 22]⟩,
  ⟨some 2, .mv (.t 58), none, [23, 18, 0, 1, 2, 3, 4, 5, 6, 7, 8, 9, 10, 11, 12, 13, 14, 15, 16, 17, 18, 19, 20, 21, 22, 23]⟩]
abbrev r101_10 : List AOper := [
  ⟨some 60, .bin .eql (.t 4) (.c (.int .i64 5)), none, []⟩,
  ⟨some 59, .mv (.t 60), none, [0]⟩]
abbrev r101_11 : List AOper := [
  ⟨some 61, .faddr 1 (.t 1), none, []⟩,
  ⟨some 62, .load none (.t 61), none, [0]⟩,
  ⟨some 63, .bin .geq (.t 62) (.c (.int .i64 0)), none, [1]⟩,
  ⟨some 64, .mv (.t 63), none, [2]⟩,
  ⟨some 65, .faddr 1 (.t 1), some (64, true), [3]⟩,
  ⟨some 66, .load none (.t 65), some (64, true), [4, 3]⟩,
  ⟨some 67, .bin .leq (.t 66) (.c (.int .i64 16384)), some (64, true), [5, 3]⟩,
  ⟨some 68, .pick (.t 64) (.t 67) (.c (.bool false)), none, [3, 6]⟩,
  ⟨some 69, .mv (.t 68), none, [7, 3]⟩,
  ⟨some 70, .faddr 3 (.t 1), some (69, true), [8]⟩,
  ⟨some 71, .load none (.t 70), some (69, true), [9, 8]⟩,
  ⟨some 72, .bin .eql (.t 71) (.c (.str ⟨#[]⟩)), some (69, true), [10, 8]⟩,
  ⟨some 73, .pick (.t 69) (.t 72) (.c (.bool false)), none, [8, 11]⟩,
  ⟨some 74, .mv (.t 73), none, [12, 8]⟩,
  ⟨some 75, .faddr 2 (.t 1), some (74, true), [13]⟩,
  ⟨some 76, .load none (.t 75), some (74, true), [14, 13]⟩,
  ⟨some 77, .callF 144 [(.t 76)], some (74, true), [15, 13, 13]⟩,
  ⟨some 78, .pick (.t 74) (.t 77) (.c (.bool false)), none, [13, 16]⟩,
  ⟨some 2, .mv (.t 78), none, [17, 16, 0, 1, 2, 3, 4, 5, 6, 7, 8, 9, 10, 11, 12, 13, 14, 15, 16, 17]⟩]
abbrev r101_12 : List AOper := [
  ⟨some 80, .bin .eql (.t 4) (.c (.int .i64 7)), none, []⟩,
  ⟨some 79, .mv (.t 80), none, [0]⟩]
abbrev r101_13 : List AOper := [
  ⟨some 81, .bin .eql (.t 4) (.c (.int .i64 8)), none, []⟩,
  ⟨some 79, .mv (.t 81), none, [0]⟩]
abbrev r101_14 : List AOper := [
  ⟨some 82, .faddr 1 (.t 1), none, []⟩,
  ⟨some 83, .load none (.t 82), none, [0]⟩,
  ⟨some 84, .bin .eql (.t 83) (.c (.int .i64 0)), none, [1]⟩,
  ⟨some 85, .mv (.t 84), none, [2]⟩,
  ⟨some 86, .faddr 3 (.t 1), some (85, true), [3]⟩,
  ⟨some 87, .load none (.t 86), some (85, true), [4, 3]⟩,
  ⟨some 88, .bin .eql (.t 87) (.c (.str ⟨#[]⟩)), some (85, true), [5, 3]⟩,
  ⟨some 89, .pick (.t 85) (.t 88) (.c (.bool false)), none, [3, 6]⟩,
  ⟨some 90, .mv (.t 89), none, [7, 3]⟩,
  ⟨some 91, .faddr 2 (.t 1), some (90, true), [8]⟩,
  ⟨some 92, .load none (.t 91), some (90, true), [9, 8]⟩,
  ⟨some 93, .callF 144 [(.t 92)], some (90, true), [10, 8, 8]⟩,
  ⟨some 94, .pick (.t 90) (.t 93) (.c (.bool false)), none, [8, 11]⟩,
  ⟨some 2, .mv (.t 94), none, [12, 11, 0, 1, 2, 3, 4, 5, 6, 7, 8, 9, 10, 11, 12]⟩]
abbrev r101_15 : List AOper := [
  ⟨some 2, .mv (.c (.bool false)), none, []⟩]
def k101 : List (List Nat) := [[1], [1, 4], [1, 4, 5], [1, 4, 5], [2], [1, 4, 10], [2], [1, 4, 32], [1, 4, 32], [2], [1, 4, 59], [2], [1, 4, 79], [1, 79], [2], [2]]
def f101 : AFunc := { ntmps := 95, results := [.tmp 2], body := (
  .seq (
  .region false r101_0 [1]) (
  .seq (
  .seq (
  .region false r101_1 [1, 4]) (
  .block 0 (
    .seq (
    .seq (
    .region false r101_2 [1, 4, 5]) (
    .cond (.t 5) (
      .skip) (
      .region false r101_3 [1, 4, 5]))) (
    .cond (.t 5) (
      .seq (
      .region false r101_4 [2]) (
      .ret)) (
      .seq (
      .region false r101_5 [1, 4, 10]) (
      .cond (.t 10) (
        .seq (
        .region false r101_6 [2]) (
        .ret)) (
        .seq (
        .seq (
        .region false r101_7 [1, 4, 32]) (
        .cond (.t 32) (
          .skip) (
          .region false r101_8 [1, 4, 32]))) (
        .cond (.t 32) (
          .seq (
          .region false r101_9 [2]) (
          .ret)) (
          .seq (
          .region false r101_10 [1, 4, 59]) (
          .cond (.t 59) (
            .seq (
            .region false r101_11 [2]) (
            .ret)) (
            .seq (
            .seq (
            .region false r101_12 [1, 4, 79]) (
            .cond (.t 79) (
              .skip) (
              .region false r101_13 [1, 79]))) (
            .cond (.t 79) (
              .seq (
              .region false r101_14 [2]) (
              .ret)) (
              .skip))))))))))))) (
  .seq (
  .region false r101_15 [2]) (
  .ret)))) }
theorem c101 : cfunc Tryz.prog (kof k101) Tryz.f101 = some f101 := by kernel_rfl

/-- exitwave/bif.kinds$1$1 -/
abbrev r123_0 : List AOper := [
  ⟨some 2, .box 25 (.t 0), none, []⟩,
  ⟨some 3, .mv (.c (.bool false)), none, []⟩]
abbrev r123_1 : List AOper := [
  ⟨some 4, .load none (.t 1), none, []⟩,
  ⟨some 5, .faddr 0 (.t 2), none, []⟩,
  ⟨some 6, .load none (.t 5), none, [1]⟩,
  ⟨some 7, .callF 124 [(.t 4), (.t 6)], none, [0, 2]⟩,
  ⟨some 3, .mv (.t 7), none, [3, 3, 0, 1, 2, 3]⟩]
def k123 : List (List Nat) := [[1, 2], [3]]
def f123 : AFunc := { ntmps := 8, results := [.tmp 3], body := (
  .seq (
  .region false r123_0 [1, 2]) (
  .seq (
  .region false r123_1 [3]) (
  .ret))) }
theorem c123 : cfunc Tryz.prog (kof k123) Tryz.f123 = some f123 := by kernel_rfl

/-- slices.Contains[[]int,int] -/
abbrev r124_0 : List AOper := [
  ⟨some 4, .mv (.c (.bool false)), none, []⟩]
abbrev r124_1 : List AOper := [
  ⟨some 5, .mv (.t 0), none, []⟩,
  ⟨some 6, .mv (.t 1), none, []⟩,
  ⟨some 7, .callF 154 [(.t 5), (.t 6)], none, [0, 1]⟩,
  ⟨some 8, .bin .geq (.t 7) (.c (.int .i64 0)), none, [2]⟩,
  ⟨some 4, .mv (.t 8), none, [3, 2, 0, 1, 2, 3]⟩]
def k124 : List (List Nat) := [[0, 1], [4]]
def f124 : AFunc := { ntmps := 9, results := [.tmp 4], body := (
  .seq (
  .region false r124_0 [0, 1]) (
  .seq (
  .region false r124_1 [4]) (
  .ret))) }
theorem c124 : cfunc Tryz.prog (kof k124) Tryz.f124 = some f124 := by kernel_rfl

/-- exitwave/bif.kinds$2 -/
abbrev r125_0 : List AOper := [
  ⟨some 1, .box 25 (.t 0), none, []⟩,
  ⟨some 2, .mv (.c (.bool false)), none, []⟩]
abbrev r125_1 : List AOper := [
  ⟨some 3, .faddr 0 (.t 1), none, []⟩,
  ⟨some 4, .load none (.t 3), none, [0]⟩,
  ⟨some 5, .bin .eql (.t 4) (.c (.int .i64 3)), none, [1]⟩,
  ⟨some 6, .mv (.t 5), none, [2]⟩,
  ⟨some 7, .faddr 3 (.t 1), some (6, true), [3]⟩,
  ⟨some 8, .load none (.t 7), some (6, true), [4, 3]⟩,
  ⟨some 9, .bin .eql (.t 8) (.c (.str ⟨#[116, 114, 117, 101]⟩)), some (6, true), [5, 3]⟩,
  ⟨some 10, .mv (.t 9), some (6, true), [6, 3, 3]⟩,
  ⟨some 11, .faddr 3 (.t 1), some (10, false), [7]⟩,
  ⟨some 12, .load none (.t 11), some (10, false), [8, 7]⟩,
  ⟨some 13, .bin .eql (.t 12) (.c (.str ⟨#[102, 97, 108, 115, 101]⟩)), some (10, false), [9, 7]⟩,
  ⟨some 14, .pick (.t 10) (.c (.bool true)) (.t 13), some (6, true), [7, 10, 3]⟩,
  ⟨some 15, .pick (.t 6) (.t 14) (.c (.bool false)), none, [3, 11]⟩,
  ⟨some 2, .mv (.t 15), none, [12, 7, 0, 1, 2, 3, 4, 5, 6, 7, 8, 9, 10, 11, 12]⟩]
def k125 : List (List Nat) := [[1], [2]]
def f125 : AFunc := { ntmps := 16, results := [.tmp 2], body := (
  .seq (
  .region false r125_0 [1]) (
  .seq (
  .region false r125_1 [2]) (
  .ret))) }
theorem c125 : cfunc Tryz.prog (kof k125) Tryz.f125 = some f125 := by kernel_rfl

/-- exitwave/exitwaveref1.Right -/
abbrev r143_0 : List AOper := [
  ⟨some 1, .box 25 (.t 0), none, []⟩,
  ⟨some 2, .mv (.c (.bool false)), none, []⟩]
abbrev r143_1 : List AOper := [
  ⟨some 3, .faddr 3 (.t 1), none, []⟩,
  ⟨some 4, .load none (.t 3), none, [0]⟩,
  ⟨some 5, .bin .neq (.t 4) (.c (.str ⟨#[]⟩)), none, [1]⟩,
  ⟨some 6, .mv (.t 5), none, [2]⟩,
  ⟨some 7, .faddr 4 (.t 1), some (6, false), [3]⟩,
  ⟨some 8, .load none (.t 7), some (6, false), [4, 3]⟩,
  ⟨some 9, .len 1 (.t 8), some (6, false), [5, 3]⟩,
  ⟨some 10, .bin .neq (.t 9) (.c (.int .i64 0)), some (6, false), [6, 3]⟩,
  ⟨some 11, .pick (.t 6) (.c (.bool true)) (.t 10), none, [3, 7]⟩]
abbrev r143_2 : List AOper := [
  ⟨some 2, .mv (.c (.bool false)), none, []⟩]
abbrev r143_3 : List AOper := [
  ⟨some 12, .faddr 0 (.t 1), none, []⟩,
  ⟨some 13, .load none (.t 12), none, [0]⟩,
  ⟨some 14, .bin .eql (.t 13) (.c (.int .i64 1)), none, [1]⟩]
abbrev r143_4 : List AOper := [
  ⟨some 15, .faddr 1 (.t 1), none, []⟩,
  ⟨some 16, .load none (.t 15), none, [0]⟩,
  ⟨some 17, .bin .geq (.t 16) (.c (.int .i64 (-576460752303423488))), none, [1]⟩,
  ⟨some 18, .mv (.t 17), none, [2]⟩,
  ⟨some 19, .faddr 1 (.t 1), some (18, true), [3]⟩,
  ⟨some 20, .load none (.t 19), some (18, true), [4, 3]⟩,
  ⟨some 21, .bin .leq (.t 20) (.c (.int .i64 576460752303423487)), some (18, true), [5, 3]⟩,
  ⟨some 22, .pick (.t 18) (.t 21) (.c (.bool false)), none, [3, 6]⟩,
  ⟨some 23, .mv (.t 22), none, [7, 3]⟩,
  ⟨some 24, .faddr 2 (.t 1), some (23, true), [8]⟩,
  ⟨some 25, .load none (.t 24), some (23, true), [9, 8]⟩,
  ⟨some 26, .callF 144 [(.t 25)], some (23, true), [10, 8, 8]⟩,
  ⟨some 27, .pick (.t 23) (.t 26) (.c (.bool false)), none, [8, 11]⟩,
  ⟨some 2, .mv (.t 27), none, [12, 11, 0, 1, 2, 3, 4, 5, 6, 7, 8, 9, 10, 11, 12]⟩]
abbrev r143_5 : List AOper := [
  ⟨some 28, .faddr 0 (.t 1), none, []⟩,
  ⟨some 29, .load none (.t 28), none, [0]⟩,
  ⟨some 30, .bin .eql (.t 29) (.c (.int .i64 2)), none, [1]⟩,
  ⟨some 31, .mv (.t 30), none, [2]⟩,
  ⟨some 32, .faddr 1 (.t 1), some (31, true), [3]⟩,
  ⟨some 33, .load none (.t 32), some (31, true), [4, 3]⟩,
  ⟨some 34, .bin .eql (.t 33) (.c (.int .i64 0)), some (31, true), [5, 3]⟩,
  ⟨some 35, .pick (.t 31) (.t 34) (.c (.bool false)), none, [3, 6]⟩,
  ⟨some 36, .mv (.t 35), none, [7, 3]⟩,
  ⟨some 37, .faddr 2 (.t 1), some (36, true), [8]⟩,
  ⟨some 38, .load none (.t 37), some (36, true), [9, 8]⟩,
  ⟨some 39, .callF 167 [(.t 38)], some (36, true), [10, 8, 8]⟩,
  ⟨some 40, .pick (.t 36) (.t 39) (.c (.bool false)), none, [8, 11]⟩,
  ⟨some 2, .mv (.t 40), none, [12, 11, 0, 1, 2, 3, 4, 5, 6, 7, 8, 9, 10, 11, 12]⟩]
def k143 : List (List Nat) := [[1], [1, 11], [2], [1, 14], [2], [2]]
def f143 : AFunc := { ntmps := 41, results := [.tmp 2], body := (
  .seq (
  .region false r143_0 [1]) (
  .seq (
  .seq (
  .region false r143_1 [1, 11]) (
  .cond (.t 11) (
    .seq (
    .region false r143_2 [2]) (
    .ret)) (
    .skip))) (
  .seq (
  .seq (
  .region false r143_3 [1, 14]) (
  .cond (.t 14) (
    .seq (
    .region false r143_4 [2]) (
    .ret)) (
    .skip))) (
  .seq (
  .region false r143_5 [2]) (
  .ret))))) }
theorem c143 : cfunc Tryz.prog (kof k143) Tryz.f143 = some f143 := by kernel_rfl

/-- exitwave/exitwaveref1.Plus -/
abbrev r144_0 : List AOper := [
  ⟨some 2, .mv (.c (.bool false)), none, []⟩]
abbrev r144_1 : List AOper := [
  ⟨some 3, .mv (.t 0), none, []⟩,
  ⟨some 4, .ext 0 [(.t 3)], none, [0]⟩,
  ⟨some 5, .bin .eql (.t 4) (.c (.int .u64 0)), none, [1]⟩,
  ⟨some 2, .mv (.t 5), none, [2, 1, 0, 1, 2]⟩]
def k144 : List (List Nat) := [[0], [2]]
def f144 : AFunc := { ntmps := 6, results := [.tmp 2], body := (
  .seq (
  .region false r144_0 [0]) (
  .seq (
  .region false r144_1 [2]) (
  .ret))) }
theorem c144 : cfunc Tryz.prog (kof k144) Tryz.f144 = some f144 := by kernel_rfl

/-- slices.Index[[]int,int] -/
abbrev r154_0 : List AOper := [
  ⟨some 4, .mv (.c (.int .i64 0)), none, []⟩]
abbrev r154_1 : List AOper := [
  ⟨some 6, .mv (.t 0), none, []⟩,
  ⟨some 7, .len 1 (.t 6), none, [0]⟩,
  ⟨some 8, .mv (.c (.int .i64 0)), none, []⟩]
abbrev r154_2 : List AOper := [
  ⟨some 9, .bin .lss (.t 8) (.t 7), none, []⟩]
abbrev r154_3 : List AOper := [
  ⟨some 10, .mv (.t 8), none, []⟩,
  ⟨some 5, .mv (.t 10), none, [0, 0]⟩]
abbrev r154_4 : List AOper := [
  ⟨some 11, .mv (.t 1), none, []⟩,
  ⟨some 12, .mv (.t 0), none, []⟩,
  ⟨some 13, .mv (.t 5), none, []⟩,
  ⟨some 14, .iaddr 1 (.t 12) (.t 13), none, [1, 2]⟩,
  ⟨some 15, .load none (.t 14), none, [3]⟩,
  ⟨some 16, .bin .eql (.t 11) (.t 15), none, [0, 4]⟩]
abbrev r154_5 : List AOper := [
  ⟨some 17, .mv (.t 5), none, []⟩,
  ⟨some 4, .mv (.t 17), none, [0, 0]⟩]
abbrev r154_6 : List AOper := [
  ⟨some 18, .bin .add (.t 8) (.c (.int .i64 1)), none, []⟩,
  ⟨some 8, .mv (.t 18), none, [0]⟩]
def l154_0 : ACode :=
  .seq (
  .region false r154_2 [0, 1, 7, 8, 9]) (
  .seq (
  .cond (.t 9) (
    .skip) (
    .exit 0)) (
  .seq (
  .block 1 (
    .seq (
    .region false r154_3 [0, 1, 5, 7, 8]) (
    .seq (
    .region false r154_4 [0, 1, 5, 7, 8, 16]) (
    .cond (.t 16) (
      .seq (
      .region false r154_5 [4]) (
      .ret)) (
      .skip))))) (
  .region false r154_6 [0, 1, 7, 8])))
abbrev r154_7 : List AOper := [
  ⟨some 4, .mv (.c (.int .i64 (-1))), none, []⟩]
def k154 : List (List Nat) := [[0, 1], [0, 1, 7, 8], [0, 1, 7, 8, 9], [0, 1, 5, 7, 8], [0, 1, 5, 7, 8, 16], [4], [0, 1, 7, 8], [4]]
def f154 : AFunc := { ntmps := 19, results := [.tmp 4], body := (
  .seq (
  .region false r154_0 [0, 1]) (
  .seq (
  .seq (
  .region false r154_1 [0, 1, 7, 8]) (
  .block 0 (
    .loop l154_0))) (
  .seq (
  .region false r154_7 [4]) (
  .ret)))) }
theorem c154 : cfunc Tryz.prog (kof k154) Tryz.f154 = some f154 := by kernel_rfl

/-- exitwave/exitwaveref1.Finite -/
abbrev r167_0 : List AOper := [
  ⟨some 2, .mv (.c (.bool false)), none, []⟩]
abbrev r167_1 : List AOper := [
  ⟨some 3, .mv (.t 0), none, []⟩,
  ⟨some 4, .mv (.t 0), none, []⟩,
  ⟨some 5, .bin .sub (.t 3) (.t 4), none, [0, 1]⟩,
  ⟨some 6, .bin .eql (.t 5) (.c (.flt .f64 0)), none, [2]⟩,
  ⟨some 2, .mv (.t 6), none, [3, 0, 1, 2, 3]⟩]
def k167 : List (List Nat) := [[0], [2]]
def f167 : AFunc := { ntmps := 7, results := [.tmp 2], body := (
  .seq (
  .region false r167_0 [0]) (
  .seq (
  .region false r167_1 [2]) (
  .ret))) }
theorem c167 : cfunc Tryz.prog (kof k167) Tryz.f167 = some f167 := by kernel_rfl


end Go.Am.Rl
